/- ET2: a row of one's own that has been put into another order: what the world keeps, what the row holds. Conditions: none. Pa: slices.SortFunc at runs: a row of one's own is put into the order of the beginnings. Conditions: each run begins between 1 and 1000000000. Pb: span: clip, and add (a row of the caller's own, handed back). Conditions: ends up to 1000000000; sizes. Pc: span: Union and Norm. Conditions: sizes. EV: slices.Clone at any element type: it hands back a row of the caller's own. Conditions: how its body is laid; sizes. Pd: span: Norm, Lead, and the library's Clone at runs. Conditions: sizes. Pn: span: the canonical form in plain words. Conditions: none. Pe: past: what the sets come to. Conditions: sizes. Pf: past: dots, and the set of dots. Conditions: sizes. Pg: past: the sets that pasts mean. Conditions: sizes. Ph: past: Norm. Conditions: sizes. Pi: past: the library's Equal, IsNorm. Conditions: sizes. Pj: past: Has. Conditions: none. Rh: the past in plain words: what is in a set in form. Conditions: none. Pp: span: what is in both, what is in neither, in plain words. Conditions: none. Pq: the total order of contexts, in plain words. Conditions: none. Pr: past.Compare, with the library's cmp.Compare, cmp.Or and slices.CompareFunc. Conditions: sizes. Sa: texts: their order is total. Conditions: none. Ps: strings.Compare. Conditions: none. Pl: runs: how many numbers, the greatest. Conditions: none. Pu: how many dots; the greatest of a replica: in plain words. Conditions: none. -/
import Derived.Below
import Derived.OwnWalk
import Derived.WalkKit
import Derived.KernelRfl
import Derived.Laws.MakeOwn
import Derived.Laws.OwnMore
import Derived.Laws.Slices
import Derived.Laws.CopyOwn
import Derived.Laws.AppendOwnNone
import Derived.Laws.Rows
import Derived.Orders
import Derived.Shelf.SlSortFuncK.RowK2
import Derived.Test.YtaiepnaokhpmcaaGreatProg
import Derived.DataReads
import Derived.ChangeOld
import Derived.DataElems
import Derived.SizedLaws
import Derived.ChangeKeysEq
import Derived.Sort.LotA
import Derived.Shelf.SlSortCmp.NoneTotal
import Derived.Lib.Walk
import Derived.Shelf.SlLaysE0
import Derived.Shelf.RegionOpenPlain
import Derived.Deep.LoopGhost
import Derived.Lib.SliceRun
import Derived.Lib.Bytealg
import Derived.Test.YtaiepnaokhpmcaaGreatZz2
set_option linter.unusedVariables false
set_option linter.unusedSimpArgs false
set_option linter.unusedSectionVars false
namespace Go.E
open Go.Sort Go.RowKit
section
variable {α : Type} [Inhabited α] {enc : α → List Value} {k : Nat} {w0 W W' : World} {blk off : Nat} {d d' : Array α}
theorem flatK_list (hk : ∀ x, (enc x).length = k) (d : Array α) : (flatK enc k d).toList = (d.toList.map enc).flatten := by
 have hsz : ∀ r ∈ d.toList.map enc, r.length = k := by
  intro r hr
  obtain ⟨x, _, rfl⟩ := List.mem_map.1 hr
  exact hk x
 apply List.ext_getElem?
 intro t
 by_cases ht : t < d.size * k
 ·have k0 : 0 < k := by
   rcases Nat.eq_zero_or_pos k with h | h
   ·subst h; simp at ht
   ·exact h
  have hq : t % k < k := Nat.mod_lt _ k0
  have hj : t / k < d.size := (Nat.div_lt_iff_lt_mul k0).2 ht
  have hr : (d.toList.map enc)[t / k]? = some (enc d[t / k]) := by simp [hj]
  have := flatten_get hsz hr hq
  rw [show t / k * k + t % k = t by rw [Nat.mul_comm]; exact Nat.div_add_mod t k] at this
  rw [this, Array.getElem?_toList, getElem?_pos _ t (by simpa using ht)]
  have e := get_flatK enc k d t ht
  rw [getElem!_pos _ t (by simpa using ht)] at e
  rw [e, getElem!_pos d _ hj, getElem?_pos _ (t % k) (by rw [hk]; exact hq), getElem!_pos _ (t % k) (by rw [hk]; exact hq)]
 ·rw [List.getElem?_eq_none (by simp; omega), List.getElem?_eq_none (by rw [flatten_len hsz]; simp; omega)]
theorem Fam.facts (h : Fam enc k blk off w0 d W) : W.os = w0.os ∧ W.tape = w0.tape ∧ W.output = w0.output ∧ ∀ j, j < w0.heap.size → j ≠ blk → W.heap[j]? = w0.heap[j]? := by
 obtain ⟨q, os, rfl⟩ := h
 refine ⟨rfl, rfl, rfl, fun j hj hne => ?_⟩
 show ((w0.heap.modify blk _) ++ os)[j]? = _
 rw [Array.getElem?_append_left (by simpa using hj), Array.getElem?_modify, if_neg (Ne.symm hne)]
theorem Fam.block (h : Fam enc k blk off w0 d W) {cur : Array Value} {e : TypeId} {fz : Nat × Nat} (hc : w0.heap[blk]? = some (.cells cur e fz)) : ∃ cur', cur'.size = cur.size ∧ W.heap[blk]? = some (.cells cur' e fz) := by
 obtain ⟨q, os, rfl⟩ := h
 have hb : blk < w0.heap.size := (Array.getElem?_eq_some_iff.1 hc).1
 refine ⟨putCells id off (flatK enc k d) cur, by simp [putCells], ?_⟩
 show ((w0.heap.modify blk _) ++ os)[blk]? = _
 rw [Array.getElem?_append_left (by simpa using hb), Array.getElem?_modify, if_pos rfl, hc]
 rfl
theorem holds_of_owns (hk : ∀ x, (enc x).length = k) {base ty n cap : Nat} {xs : List Value} (ho : w0.ownsRow base ty k (.slice (some ⟨blk, 0, none⟩) n cap) n xs) (hn : n = d.size) (hx : xs = (d.toList.map enc).flatten) : HoldsK enc k w0 blk 0 d := by
 obtain ⟨_, h⟩ := ho
 rcases h with ⟨h, _⟩ | ⟨g, cap', cur, e1, hb, hh, h1, h2, h3, h4⟩
 ·cases h
 ·simp only [Value.slice.injEq, Option.some.injEq, Addr.mk.injEq] at e1
  obtain ⟨⟨rfl, _, _⟩, _, rfl⟩ := e1
  intro j hj
  rw [← flatK_list hk] at hx
  rw [hx] at h4
  have hj' : j < n * k := by rw [hn]; simpa using hj
  have e : cur[j]? = some (flatK enc k d)[j]! := by
   have := congrArg (fun l => l[j]?) h4
   simp only [List.getElem?_take, hj', if_true, Array.getElem?_toList] at this
   rw [this, getElem?_pos _ j hj, getElem!_pos _ j hj]
  refine ⟨?_, ?_⟩
  ·simp [World.cell?, hh, e]
  ·simp [World.frozen?, hh]
theorem owns_of_holds (hk : ∀ x, (enc x).length = k) {base ty n cap : Nat} {cur : Array Value} (hH : HoldsK enc k W blk 0 d) (hn : n = d.size) (hb : base ≤ blk) (hh : W.heap[blk]? = some (.cells cur ty (0, 0))) (h1 : n ≤ cap) (h2 : cap ≤ maxLen) (h3 : cur.size = cap * k) :
  W.ownsRow base ty k (.slice (some ⟨blk, 0, none⟩) n cap) n (d.toList.map enc).flatten := by
 rw [← flatK_list hk]
 refine ⟨by simp [hn], .inr ⟨blk, cap, cur, rfl, hb, hh, h1, h2, h3, ?_⟩⟩
 have hle : n * k ≤ cur.size := by rw [h3]; exact Nat.mul_le_mul_right _ h1
 apply List.ext_getElem?
 intro j
 by_cases hj : j < n * k
 ·have := (hH j (by simpa [hn] using hj)).1
  simp only [World.cell?, Nat.zero_add, hh, Option.isSome_none, Bool.false_eq_true, if_false, id] at this
  rw [List.getElem?_take, if_pos hj, Array.getElem?_toList, this, Array.getElem?_toList, getElem?_pos _ j (by simpa [hn] using hj), getElem!_pos _ j (by simpa [hn] using hj)]
 ·rw [List.getElem?_eq_none (by simp; omega), List.getElem?_eq_none (by simp [← hn]; omega)]
theorem Fam.owns (hk : ∀ x, (enc x).length = k) (h : Fam enc k blk 0 w0 d' W) (hs : d'.size = d.size) {base ty n cap : Nat} {xs : List Value} (hx : xs = (d.toList.map enc).flatten) (hn : n = d.size) (ho : w0.ownsRow base ty k (.slice (some ⟨blk, 0, none⟩) n cap) n xs) :
  W.ownsRow base ty k (.slice (some ⟨blk, 0, none⟩) n cap) n (d'.toList.map enc).flatten := by
 have hH := holds_of_owns hk ho hn hx
 obtain ⟨_, h0⟩ := ho
 rcases h0 with ⟨h0, _⟩ | ⟨g, cap', cur, e1, hb, hh, h1, h2, h3, h4⟩
 ·cases h0
 ·simp only [Value.slice.injEq, Option.some.injEq, Addr.mk.injEq] at e1
  obtain ⟨⟨rfl, _, _⟩, _, rfl⟩ := e1
  have hlt : blk < w0.heap.size := (Array.getElem?_eq_some_iff.1 hh).1
  obtain ⟨cur', c1, c2⟩ := h.block hh
  exact owns_of_holds hk (h.holds hlt hH hs) (by rw [hn, hs]) hb c2 h1 h2 (by rw [c1, h3])
end
end Go.E
namespace Go.Proofs.YtaiepnaokhpmcaaGreat
open Go.E
set_option maxRecDepth 100000
set_option maxHeartbeats 4000000
open Go Go.Sort Go.RowKit Go.Lib Go.Shelf Go.Proofs
def renSr : Go.Shelf.Ren := ⟨fun
 | 6 => 239 | 14 => 249 | 15 => 198 | 20 => 259 | 21 => 260 | 22 => 261
 | 23 => 262 | 24 => 263 | 25 => 264 | 26 => 265 | 27 => 266 | 28 => 230 | 29 => 231
 | 46 => 272 | 47 => 244 | 48 => 245 | 49 => 273 | 50 => 274 | 57 => 276 | n => n,
 fun | 0 => 0 | 3 => 3 | 4 => 4 | 5 => 5 | 9 => 9 | 22 => 150 | 24 => 154 | 25 => 236 | 39 => 160 | 45 => 222 | 46 => 223 | 50 => 127 | 53 => 229 | 55 => 78 | 66 => 238 | 70 => 242 | 76 => 245 | 77 => 111 | n => n,
 fun n => n⟩
theorem laysSr : Go.Proofs.SlLaysF0.n6 Tryz.prog renSr := {
 mixed := (by kernel_rfl),
 f6 := ⟨Tryz.f239.name, by decide, Tryz.func239.trans (congrArg some (by kernel_rfl))⟩,
 f14 := ⟨Tryz.f249.name, by decide, Tryz.func249.trans (congrArg some (by kernel_rfl))⟩,
 f15 := Tryz.func198.trans (congrArg some (by kernel_rfl)),
 f20 := ⟨Tryz.f259.name, by decide, Tryz.func259.trans (congrArg some (by kernel_rfl))⟩,
 f21 := ⟨Tryz.f260.name, by decide, Tryz.func260.trans (congrArg some (by kernel_rfl))⟩,
 f22 := ⟨Tryz.f261.name, by decide, Tryz.func261.trans (congrArg some (by kernel_rfl))⟩,
 f23 := ⟨Tryz.f262.name, by decide, Tryz.func262.trans (congrArg some (by kernel_rfl))⟩,
 f24 := ⟨Tryz.f263.name, by decide, Tryz.func263.trans (congrArg some (by kernel_rfl))⟩,
 f25 := ⟨Tryz.f264.name, by decide, Tryz.func264.trans (congrArg some (by kernel_rfl))⟩,
 f26 := ⟨Tryz.f265.name, by decide, Tryz.func265.trans (congrArg some (by kernel_rfl))⟩,
 f27 := ⟨Tryz.f266.name, by decide, Tryz.func266.trans (congrArg some (by kernel_rfl))⟩,
 f28 := Tryz.func230.trans (congrArg some (by kernel_rfl)),
 f29 := Tryz.func231.trans (congrArg some (by kernel_rfl)),
 f46 := ⟨Tryz.f272.name, by decide, Tryz.func272.trans (congrArg some (by kernel_rfl))⟩,
 f47 := Tryz.func244.trans (congrArg some (by kernel_rfl)),
 f48 := Tryz.func245.trans (congrArg some (by kernel_rfl)),
 f49 := ⟨Tryz.f273.name, by decide, Tryz.func273.trans (congrArg some (by kernel_rfl))⟩,
 f50 := ⟨Tryz.f274.name, by decide, Tryz.func274.trans (congrArg some (by kernel_rfl))⟩,
 f57 := ⟨Tryz.f276.name, by decide, Tryz.func276.trans (congrArg some (by kernel_rfl))⟩,
 t0 := Tryz.underlying0, a0 := Tryz.isAgg0, z0 := Tryz.sizeOf0, v0 := Tryz.zeroValue0,
 t3 := Tryz.underlying3, a3 := Tryz.isAgg3, z3 := Tryz.sizeOf3, v3 := Tryz.zeroValue3,
 t4 := Tryz.underlying4, a4 := Tryz.isAgg4, z4 := Tryz.sizeOf4, v4 := Tryz.zeroValue4,
 t5 := Tryz.underlying5, a5 := Tryz.isAgg5, z5 := Tryz.sizeOf5, v5 := Tryz.zeroValue5,
 t9 := Tryz.underlying9, a9 := Tryz.isAgg9, z9 := Tryz.sizeOf9, v9 := Tryz.zeroValue9,
 t22 := Tryz.underlying150, a22 := Tryz.isAgg150, z22 := Tryz.sizeOf150, v22 := Tryz.zeroValue150,
 t25 := Tryz.underlying236, a25 := Tryz.isAgg236, z25 := Tryz.sizeOf236, v25 := Tryz.zeroValue236,
 t39 := Tryz.underlying160, a39 := Tryz.isAgg160, z39 := Tryz.sizeOf160, v39 := Tryz.zeroValue160,
 t45 := Tryz.underlying222, a45 := Tryz.isAgg222, z45 := Tryz.sizeOf222, v45 := Tryz.zeroValue222,
 t46 := Tryz.underlying223, a46 := Tryz.isAgg223, z46 := Tryz.sizeOf223, v46 := Tryz.zeroValue223,
 t50 := Tryz.underlying127, a50 := Tryz.isAgg127, z50 := Tryz.sizeOf127, v50 := Tryz.zeroValue127,
 t53 := Tryz.underlying229, a53 := Tryz.isAgg229, z53 := Tryz.sizeOf229, v53 := Tryz.zeroValue229,
 t55 := Tryz.underlying78, a55 := Tryz.isAgg78, z55 := Tryz.sizeOf78, v55 := Tryz.zeroValue78,
 t66 := Tryz.underlying238, a66 := Tryz.isAgg238, z66 := Tryz.sizeOf238, v66 := Tryz.zeroValue238,
 t70 := Tryz.underlying242, a70 := Tryz.isAgg242, z70 := Tryz.sizeOf242, v70 := Tryz.zeroValue242,
 t76 := Tryz.underlying245, a76 := Tryz.isAgg245, z76 := Tryz.sizeOf245, v76 := Tryz.zeroValue245,
 t77 := Tryz.underlying111, a77 := Tryz.isAgg111, z77 := Tryz.sizeOf111, v77 := Tryz.zeroValue111 }
section
variable {α : Type} {encA : α → List AV}
def encW (encA : α → List AV) (x : α) : List Value := (encA x).map valA
theorem encW_flat (d : List α) : (d.map (encW encA)).flatten = ((d.map encA).flatten).map valA := by
 induction d with
 | nil => rfl
 | cons x d ih => simp only [List.map_cons, List.flatten_cons, List.map_append, ih, encW]
end
def okR (r : Run) : Prop := 1 ≤ r.lo ∧ r.lo ≤ 1000000000
instance (r : Run) : Decidable (okR r) := by unfold okR; infer_instance
def RunB : Type := {r : Run // okR r}
instance : Inhabited RunB := ⟨⟨⟨1, 1⟩, by unfold okR; decide⟩⟩
def toB (r : Run) : RunB := if h : okR r then ⟨r, h⟩ else default
def encB (r : RunB) : List AV := c154 r.1
def cfB (x y : RunB) : Int := x.1.lo - y.1.lo
theorem ltB (x y : RunB) : ltOf cfB x y = decide (x.1.lo < y.1.lo) := by
 unfold ltOf cfB
 congr 1
 exact propext ⟨fun h => by omega, fun h => by omega⟩
theorem swoB : SWO (ltOf cfB) := by
 refine ⟨fun x => ?_, fun x y z h1 h2 => ?_, fun x y z h1 h2 => ?_⟩ <;> simp only [ltB, decide_eq_true_eq, decide_eq_false_iff_not] at * <;> omega
def pdqB (l : List RunB) : List RunB := (pdq (ltOf cfB) l.toArray 0 l.toArray.size (Lib.bitLen l.toArray.size) true true).toList
def pdqR (l : List Run) : List Run := (pdqB (l.map toB)).map (·.1)
theorem toB_val {l : List Run} (h : ∀ r ∈ l, okR r) : (l.map toB).map (·.1) = l := by
 rw [List.map_map]
 conv => rhs; rw [← List.map_id l]
 refine List.map_congr_left fun r hr => ?_
 simp [toB, h r hr]
theorem pdqB_perm (l : List RunB) : (pdqB l).Perm l := by
 have h := (pdq_sorts (ltOf cfB) swoB l.toArray 0 l.toArray.size (Lib.bitLen l.toArray.size) true true (Nat.zero_le _) (Nat.le_refl _) (Or.inl rfl)).1
 obtain ⟨hsz, _, hp⟩ := h
 unfold pdqB
 generalize pdq (ltOf cfB) l.toArray 0 l.toArray.size (Lib.bitLen l.toArray.size) true true = d at hsz hp ⊢
 have e1 : d.extract 0 l.toArray.size = d := by rw [← hsz]; exact Array.extract_size
 rw [e1, Array.extract_size] at hp
 exact hp
theorem pdqR_perm {l : List Run} (h : ∀ r ∈ l, okR r) : (pdqR l).Perm l := by
 have := (pdqB_perm (l.map toB)).map (·.1)
 rw [toB_val h] at this
 exact this
theorem pdqR_rises (l : List Run) : (pdqR l).Pairwise fun x y => x.lo ≤ y.lo := by
 have h := pdq_sorts (ltOf cfB) swoB (l.map toB).toArray 0 (l.map toB).toArray.size (Lib.bitLen (l.map toB).toArray.size) true true (Nat.zero_le _) (Nat.le_refl _) (Or.inl rfl)
 have hs := h.1.1
 have h2 := h.2
 unfold pdqR pdqB
 rw [List.pairwise_map, List.pairwise_iff_getElem]
 intro i j hi hj hij
 rw [Array.length_toList] at hi hj
 have := h2 i j (Nat.zero_le _) hij (by omega)
 rw [ltB, decide_eq_false_iff_not, getElem!_pos _ j hj, getElem!_pos _ i hi] at this
 rw [Array.getElem_toList, Array.getElem_toList]
 omega
set_option maxHeartbeats 4000000 in
theorem cmpB (x y : RunB) (W : World) : Calls Tryz.prog 240 #[.agg (encW encB x).toArray, .agg (encW encB y).toArray] W fun e w' => e = .returned (.int .i64 (cfB x y)) ∧ ∃ q os, w' = grow (W.drewN q) os := by
 have hx := x.2
 have hy := y.2
 unfold okR at hx hy
 have wr : IntKind.i64.wrap (x.1.lo - y.1.lo) = x.1.lo - y.1.lo := by rw [IntKind.wrap_i64]; omega
 unfold cfB encW encB c154
 generalize x.1 = p at hx wr ⊢
 generalize y.1 = q at hy wr ⊢
 obtain ⟨a, b⟩ := p
 obtain ⟨c, d⟩ := q
 simp only [List.map_cons, List.map_nil, valA] at wr ⊢
 go_enter Tryz.func240, Tryz.ntmps240
 go_wp2
 go_ret
 exact ⟨rfl, 0, #[_, _], by rw [alloc_eq_grow, alloc_eq_grow, grow_grow]; rfl⟩
theorem encB_len (x : RunB) : (encW encB x).length = 2 := rfl
theorem encB_plain (x : RunB) : ∀ a ∈ encB x, plainA a = true := by
 intro a ha
 simp only [encB, c154, List.mem_cons, List.not_mem_nil, or_false] at ha
 rcases ha with rfl | rfl <;> rfl
theorem io239 (l : List Run) (hok : ∀ r ∈ l, okR r) (hlen : l.length < 4611686018427387904) :
  IOConG Tryz.prog 239 240 none false 154 2 (l.map c154) ((pdqR l).map c154) := by
 have hpm := pdqR_perm hok
 have hone : ∀ x, ∀ v ∈ encW encB x, v.oneCell' = true := by
  intro x v hv
  obtain ⟨a, ha, rfl⟩ := List.mem_map.1 hv
  exact plain_one (encB_plain x a ha)
 have hpl : ∀ m : List Run, ∀ a ∈ (m.map c154).flatten, plainA a = true := by
  intro m a ha
  obtain ⟨r, hr, har⟩ := List.mem_flatten.1 ha
  obtain ⟨x, _, rfl⟩ := List.mem_map.1 hr
  simp only [c154, List.mem_cons, List.not_mem_nil, or_false] at har
  rcases har with rfl | rfl <;> rfl
 have hsz : ∀ r ∈ l.map c154, r.length = 2 := fun r hr => by obtain ⟨x, _, rfl⟩ := List.mem_map.1 hr; rfl
 have hB : (l.map toB).map encB = l.map c154 := by
  conv => rhs; rw [← toB_val hok, List.map_map]
  rfl
 have hBp : (pdqB (l.map toB)).map encB = (pdqR l).map c154 := by
  unfold pdqR
  rw [List.map_map]
  rfl
 refine ⟨⟨_, Tryz.func239, by kernel_rfl, by kernel_rfl⟩, by rw [List.length_map, List.length_map, hpm.length_eq], fun r hr => by obtain ⟨x, _, rfl⟩ := List.mem_map.1 hr; rfl, fun w base v cv S xs hS hb ho hx1 hxr _ => ?_⟩
 have hxs : xs = (l.map c154).flatten.map valA := by
  apply List.ext_getElem?
  intro j
  by_cases hj : j < xs.length
  ·have hj' : j < (l.map c154).flatten.length := by rw [flatten_len hsz, ← ho.1]; exact hj
   rw [List.getElem?_eq_getElem hj, List.getElem?_map, List.getElem?_eq_getElem hj', Option.map_some]
   have := hxr j _ _ (List.getElem?_eq_getElem hj') (List.getElem?_eq_getElem hj)
   rw [plain_val (hpl _ _ (List.getElem_mem hj')) this]
  ·rw [List.getElem?_eq_none (by omega), List.getElem?_eq_none (by rw [List.length_map, flatten_len hsz, ← ho.1]; omega)]
 rw [hxs, List.length_map] at ho
 rw [List.length_map]
 simp only [Bool.false_eq_true, if_false, ioVal]
 have hout : ∀ (w' : World), ∀ (j:Nat) (a : AV) (u : Value), ((pdqR l).map c154).flatten[j]? = some a → (((pdqR l).map c154).flatten.map valA)[j]? = some u → RelV0 S w' a u := by
  intro w' j a u ha hu
  rw [List.getElem?_map, ha, Option.map_some, Option.some.injEq] at hu
  rw [← hu]
  exact plain_rel (hpl _ a (List.mem_of_getElem? ha))
 have hout1 : ∀ u ∈ ((pdqR l).map c154).flatten.map valA, u.oneCell' = true := by
  intro u hu
  obtain ⟨x, hx, rfl⟩ := List.mem_map.1 hu
  exact plain_one (hpl _ x hx)
 rcases ho.2 with ⟨rfl, h0⟩ | ⟨b, cap, cur, rfl, hb', hh, h1, h2, h3, h4⟩
 ·have : l = [] := List.eq_nil_of_length_eq_zero h0
  subst this
  refine (AnyF.slices_SortFunc_none (P := Tryz.prog) (ρ := renSr) laysSr none 0 _ w).mono ?_
  rintro e' w' ⟨rfl, rfl⟩
  have e0 : pdqR [] = [] := List.eq_nil_of_length_eq_zero (by rw [hpm.length_eq]; rfl)
  refine ⟨rfl, [], ⟨by simp, .inl ⟨rfl, rfl⟩⟩, fun u hu => by simp at hu, fun j a u ha hu => by simp at hu, fun j _ _ => rfl, rfl, rfl, rfl, Nat.le_refl _⟩
 ·have hbl : b < w.heap.size := (Array.getElem?_eq_some_iff.1 hh).1
  have hflat : (l.map c154).flatten.map valA = ((l.map toB).map (encW encB)).flatten := by rw [← hB, ← encW_flat]
  rw [hflat] at ho
  have hHd : HoldsK (encW encB) 2 w b 0 (l.map toB).toArray := holds_of_owns encB_len ho (by simp) (by simp)
  have hw := AnyQ.slices_SortFunc_eq (P := Tryz.prog) (ρ := renSr) laysSr 2 (fun _ => by kernel_rfl) (fun _ => by kernel_rfl) (encW encB) encB_len hone cfB swoB 240 #[] b 0 cap (l.map toB).toArray w
   (enters_of Tryz.func240 (by kernel_rfl) rfl) (fun m os dk hs x y => cmpB x y _) hHd hbl (by simpa using hlen)
  have hsize : (l.map toB).toArray.size = l.length := by simp
  rw [hsize] at hw
  refine hw.mono ?_
  rintro e' w' ⟨rfl, n, os, hw'⟩
  have hF : Fam (encW encB) 2 b 0 w (pdqB (l.map toB)).toArray w' := ⟨w.drawn + n, os, by rw [hw']; unfold pdqB; rw [hsize]; rfl⟩
  have f := hF.facts
  have ow := hF.owns (d := (l.map toB).toArray) encB_len (by simpa using (pdqB_perm (l.map toB)).length_eq) (by simp) (by simp) ho
  refine ⟨rfl, ((pdqR l).map c154).flatten.map valA, ?_, hout1, hout w', fun j hj hjb => f.2.2.2 j hj (fun e => hjb (by rw [e]; rfl)), f.1, f.2.1, f.2.2.1, hF.size⟩
  have e2 : ((pdqR l).map c154).flatten.map valA = ((pdqB (l.map toB)).map (encW encB)).flatten := by rw [← hBp, ← encW_flat]
  rw [e2]
  simpa using ow
end Go.Proofs.YtaiepnaokhpmcaaGreat
namespace Go.Proofs.YtaiepnaokhpmcaaGreat
open Go.E
set_option maxRecDepth 100000
set_option maxHeartbeats 4000000
def lastR (out : List Run) : Run := out[((out.length:Int) - 1).toNat]!
def addR (out : List Run) (r : Run) : List Run :=
 if 0 < (out.length:Int) ∧ r.lo ≤ (lastR out).hi + 1 then out.set ((out.length:Int) - 1).toNat ⟨(lastR out).lo, max (lastR out).hi r.hi⟩ else out ++ [r]
theorem bang_in {α : Type} [Inhabited α] {l : List α} {i : Nat} (h : i < l.length) : l[i]! ∈ l := by
 rw [getElem!_pos l i h]
 exact List.getElem_mem h
def clipR (r : Run) : Run := ⟨max r.lo 1, min r.hi 1000000000⟩
def hiOk (out : List Run) : Prop := ∀ x ∈ out, x.hi ≤ 1000000000 ∧ 0 ≤ x.hi
theorem con181 (r : Run) : Con Tryz.prog 181 [.agg (c154 r)] (.tup [.agg (c154 (clipR r)), .b (decide ((clipR r).lo ≤ (clipR r).hi))]) :=
 by
 refine st_con tab_ok (by kernel_rfl) [.cell 2 154, .tmp 3] 18 Go.Proofs.Tryz.func181 (by kernel_rfl) (by kernel_rfl) ?_
 intro e0 cx
 refine sq ?_
 refine rg (A := True) cx [] [1, 2] [1, 2] trivial ?_
 refine sn (sq ?_)
 refine rg (A := (AV.i .i64 (if (1:Int) > r.lo then (1:Int) else r.lo) = AV.i .i64 (max r.lo (1:Int))) ∧ (AV.i .i64 (if (1000000000:Int) < r.hi then (1000000000:Int) else r.hi) = AV.i .i64 (min r.hi (1000000000:Int)))) cx [(2, { tell := some (.i .i64 (max r.lo (1:Int))) }), (5, { tell := some (.i .i64 (min r.hi (1000000000:Int))) })] [1, 2] [1, 2] ⟨(told_max), (told_min)⟩ ?_
 refine sn (sq ?_)
 refine ra (A := (AV.b (decide (max r.lo (1:Int) ≤ min r.hi (1000000000:Int))) = AV.b (decide (max r.lo (1:Int) ≤ min r.hi (1000000000:Int))))) cx [(5, { tell := some (.b (decide (max r.lo (1:Int) ≤ min r.hi (1000000000:Int)))) })] [2, 3] [2] (by kernel_rfl) ?_
 refine sn ?_
 refine st_ret (by kernel_rfl) ?_
 refine q_ret (r := .tup [.agg [.i .i64 (max r.lo (1:Int)), .i .i64 (min r.hi (1000000000:Int))], .b (decide (max r.lo (1:Int) ≤ min r.hi (1000000000:Int)))]) (obl := []) (by kernel_rfl) trivial (AVle.tup (ZLe.cons (AVle.eq (show AV.agg [AV.i .i64 (max r.lo (1:Int)), AV.i .i64 (min r.hi (1000000000:Int))] = AV.agg [AV.i .i64 (clipR r).lo, AV.i .i64 (clipR r).hi] from ?g1)) (ZLe.cons (AVle.eq (show AV.b (decide (max r.lo (1:Int) ≤ min r.hi (1000000000:Int))) = AV.b (decide ((clipR r).lo ≤ (clipR r).hi)) from ?g0)) ZLe.nil))); rotate_left 2
 case g0 => exact rfl
 case g1 => exact rfl
theorem con241 (out : List Run) (r : Run) (hh : hiOk out) (hb : (out.length + 1) * 16 ≤ 140737488351232) : ConU Tryz.prog 241 154 2 (out.map c154) [.agg (c154 r)] ((addR out r).map c154) :=
 by
 have hlast : 0 < (out.length:Int) → out[((out.length:Int) - 1).toNat]!.hi ≤ 1000000000 ∧ 0 ≤ out[((out.length:Int) - 1).toNat]!.hi := fun h => hh _ (bang_in (by omega))
 refine st_conU tab_ok (by kernel_rfl) (.tmp 4) 41 Go.Proofs.Tryz.func241 (by kernel_rfl) (by kernel_rfl) (by (with_reducible refine len_map (fun _ => ?_) _); kernel_rfl) (by (with_reducible refine len_map (fun _ => ?_) _); kernel_rfl) (plain_flat (fun _ => by kernel_rfl) _) ?_
 intro e0 cx
 refine sq ?_
 refine rg (A := True) cx [] [0, 3] [0, 3] trivial ?_
 refine sn (sq ?_)
 refine sq ?_
 refine rg (A := _) cx [(1, { tell := some (.i .i64 ((↑out.length:Int))) })] [0, 3, 5] [0, 3] (told_len c154 out) ?_
 refine sn (sq ?_)
 refine st_join (σ' := ⟨[(0, .own 0 0), (3, .ptr (3) (0) (0) (0)), (5, .i .i64 ((↑out.length:Int))), (21, .b (decide ((0:Int) < (↑out.length:Int) ∧ r.lo ≤ out[((↑out.length:Int) - (1:Int)).toNat]!.hi + (1:Int))))], [(0, ⟨0, 154, .row 2 (List.map c154 out)⟩), (3, ⟨0, 154, .var [.i .i64 (r.lo), .i .i64 (r.hi)]⟩)]⟩) ?_ ?_
 refine st_split ((0:Int) < (↑out.length:Int)) (fun h_1 => ?_) (fun h_1 => ?_)
 refine ra (A := _ ∧ (AV.i .i64 (IntKind.i64.wrap ((↑out.length:Int) - (1:Int))) = AV.i .i64 ((↑out.length:Int) - (1:Int))) ∧ ((0:Int) ≤ (↑out.length:Int) - (1:Int)) ∧ (((↑out.length:Int) - (1:Int)).toNat < (List.map c154 out).length) ∧ ((2:Nat) = 2) ∧ (E.rowAt { ver := 0, ty := 154, k := BK.row (2) (List.map c154 out) : Blk } ((↑out.length:Int) - (1:Int)).toNat (c154 out[((↑out.length:Int) - (1:Int)).toNat]!)) ∧ (AV.i .i64 (IntKind.i64.wrap (out[((↑out.length:Int) - (1:Int)).toNat]!.hi + (1:Int))) = AV.i .i64 (out[((↑out.length:Int) - (1:Int)).toNat]!.hi + (1:Int))) ∧ (AV.b (decide (r.lo ≤ out[((↑out.length:Int) - (1:Int)).toNat]!.hi + (1:Int))) = AV.b (decide (r.lo ≤ out[((↑out.length:Int) - (1:Int)).toNat]!.hi + (1:Int)))) ∧ (AV.b (decide (r.lo ≤ out[((↑out.length:Int) - (1:Int)).toNat]!.hi + (1:Int))) = AV.b (decide ((0:Int) < (↑out.length:Int) ∧ r.lo ≤ out[((↑out.length:Int) - (1:Int)).toNat]!.hi + (1:Int))))) cx [(1, { tell := some (.b (true)) }), (7, { tell := some (.i .i64 ((↑out.length:Int) - (1:Int))) }), (10, { row := (c154 out[((↑out.length:Int) - (1:Int)).toNat]!) }), (11, { tell := some (.i .i64 (out[((↑out.length:Int) - (1:Int)).toNat]!.hi + (1:Int))) }), (12, { tell := some (.b (decide (r.lo ≤ out[((↑out.length:Int) - (1:Int)).toNat]!.hi + (1:Int)))) }), (13, { tell := some (.b (decide ((0:Int) < (↑out.length:Int) ∧ r.lo ≤ out[((↑out.length:Int) - (1:Int)).toNat]!.hi + (1:Int)))) })] [0, 3, 5, 21] [0, 3] ⟨(told_true h_1), (told_i64 (by omega) (by omega)), (by omega), (by (first | omega | (simp only [List.length_map]; omega))), (by kernel_rfl), ?g0, (told_i64 ?g1 ?g2), (by kernel_rfl), (by simp only [eq_true h_1, told_simp1, told_simp2, and_true, true_and, and_false, false_and, or_true, true_or, or_false, false_or, not_true_eq_false, not_false_eq_true, decide_true, decide_false, Bool.decide_eq_true])⟩ ?_; rotate_left 3
 exact ⟨rfl, by kernel_rfl⟩
 refine ra (A := _ ∧ (AV.b false = AV.b (decide ((0:Int) < (↑out.length:Int) ∧ r.lo ≤ out[((↑out.length:Int) - (1:Int)).toNat]!.hi + (1:Int))))) cx [(1, { tell := some (.b (false)) }), (13, { tell := some (.b (decide ((0:Int) < (↑out.length:Int) ∧ r.lo ≤ out[((↑out.length:Int) - (1:Int)).toNat]!.hi + (1:Int)))) })] [0, 3, 5, 21] [0, 3] ⟨(told_false h_1), (by simp only [eq_false h_1, told_simp1, told_simp2, and_true, true_and, and_false, false_and, or_true, true_or, or_false, false_or, not_true_eq_false, not_false_eq_true, decide_true, decide_false, Bool.decide_eq_true])⟩ ?_
 exact ⟨rfl, by kernel_rfl⟩
 refine sn ?_
 refine st_dec ((0:Int) < (↑out.length:Int) ∧ r.lo ≤ out[((↑out.length:Int) - (1:Int)).toNat]!.hi + (1:Int)) (by kernel_rfl) (by kernel_rfl) (fun h_2 => ?_) (fun h_2 => ?_)
 refine sq ?_
 refine ra (A := (AV.i .i64 (IntKind.i64.wrap ((↑out.length:Int) - (1:Int))) = AV.i .i64 ((↑out.length:Int) - (1:Int))) ∧ (AV.i .i64 (IntKind.i64.wrap ((↑out.length:Int) - (1:Int))) = AV.i .i64 ((↑out.length:Int) - (1:Int))) ∧ ((0:Int) ≤ (↑out.length:Int) - (1:Int)) ∧ (((↑out.length:Int) - (1:Int)).toNat < (List.map c154 out).length) ∧ ((2:Nat) = 2) ∧ (E.rowAt { ver := 0, ty := 154, k := BK.row (2) (List.map c154 out) : Blk } ((↑out.length:Int) - (1:Int)).toNat (c154 out[((↑out.length:Int) - (1:Int)).toNat]!)) ∧ (AV.i .i64 (if r.hi > out[((↑out.length:Int) - (1:Int)).toNat]!.hi then r.hi else out[((↑out.length:Int) - (1:Int)).toNat]!.hi) = AV.i .i64 (max out[((↑out.length:Int) - (1:Int)).toNat]!.hi r.hi)) ∧ ((0:Int) ≤ (↑out.length:Int) - (1:Int)) ∧ (((↑out.length:Int) - (1:Int)).toNat < (List.map c154 out).length) ∧ ((2:Nat) = 2) ∧ ((List.map c154 out)[((↑out.length:Int) - (1:Int)).toNat]? = some (c154 out[((↑out.length:Int) - (1:Int)).toNat]!)) ∧ ((cellsA (AV.i .i64 (max out[((↑out.length:Int) - (1:Int)).toNat]!.hi r.hi))).length = (1:Nat)) ∧ (1 + (1:Nat) ≤ 2) ∧ ((List.map c154 out).set ((↑out.length:Int) - (1:Int)).toNat (List.take (1) (c154 out[((↑out.length:Int) - (1:Int)).toNat]!) ++ cellsA (AV.i .i64 (max out[((↑out.length:Int) - (1:Int)).toNat]!.hi r.hi)) ++ List.drop (1 + (1:Nat)) (c154 out[((↑out.length:Int) - (1:Int)).toNat]!)) = List.map c154 (out.set ((↑out.length:Int) - (1:Int)).toNat { lo := out[((↑out.length:Int) - (1:Int)).toNat]!.lo, hi := max out[((↑out.length:Int) - (1:Int)).toNat]!.hi r.hi : Run }))) cx [(2, { tell := some (.i .i64 ((↑out.length:Int) - (1:Int))) }), (5, { tell := some (.i .i64 ((↑out.length:Int) - (1:Int))) }), (8, { row := (c154 out[((↑out.length:Int) - (1:Int)).toNat]!) }), (11, { tell := some (.i .i64 (max out[((↑out.length:Int) - (1:Int)).toNat]!.hi r.hi)) }), (14, { row := (c154 out[((↑out.length:Int) - (1:Int)).toNat]!), rows := some (List.map c154 (out.set ((↑out.length:Int) - (1:Int)).toNat { lo := out[((↑out.length:Int) - (1:Int)).toNat]!.lo, hi := max out[((↑out.length:Int) - (1:Int)).toNat]!.hi r.hi : Run })) })] [0] [0] ⟨(told_i64 (by omega) (by omega)), (told_i64 (by omega) (by omega)), (by omega), (by (first | omega | (simp only [List.length_map]; omega))), (by kernel_rfl), ?g3, (told_max), (by omega), (by (first | omega | (simp only [List.length_map]; omega))), (by kernel_rfl), (by (with_reducible refine get_map ?_; omega)), (by kernel_rfl), (by (first | omega | (simp only [List.length_map]; omega))), (by (with_reducible refine set_map ?_; kernel_rfl))⟩ ?_; rotate_left 1
 refine sn (sq ?_)
 refine rg (A := True) cx [] [4] [0] trivial ?_
 refine sn ?_
 refine st_ret (by kernel_rfl) ?_
 refine q_seq_ret ?_
 refine qb_own (rows' := (List.map c154 (out.set ((↑out.length:Int) - (1:Int)).toNat { lo := out[((↑out.length:Int) - (1:Int)).toNat]!.lo, hi := max out[((↑out.length:Int) - (1:Int)).toNat]!.hi r.hi : Run }))) .ret (.inr rfl) 4 0 0 (by kernel_rfl) (by kernel_rfl) (by kernel_rfl) ?g4; rotate_left 1
 refine st_skip (by kernel_rfl) ?_
 refine sn (sq ?_)
 refine rg (A := (154 = (154:Nat)) ∧ ((2:Nat) = 2) ∧ ([AV.i .i64 (0:Int), AV.i .i64 (0:Int)].length = (2:Nat)) ∧ (∀ (r_1 : List AV), r_1 ∈ List.map c154 [r] → r_1.length = 2) ∧ ((List.map c154 out).length + (List.map c154 [r]).length ≤ maxLen) ∧ (((List.map c154 out).length + (List.map c154 [r]).length) * (16:Nat) ≤ (140737488355328:Nat)) ∧ (List.map c154 out ++ List.map c154 [r] = List.map c154 (out ++ [r]))) cx [(3, { rows := some (List.map c154 (out ++ [r])) })] [4] [0] ⟨(by kernel_rfl), (by kernel_rfl), (by kernel_rfl), (by (with_reducible refine len_map (fun _ => ?_) _; kernel_rfl)), (by (simp only [Go.maxLen, List.length_map, List.length_append, List.length_cons, List.length_nil]; omega)), (by (simp only [Go.maxLen, List.length_map, List.length_append, List.length_cons, List.length_nil]; omega)), (by (with_reducible refine app_map ?_; kernel_rfl))⟩ ?_
 refine sn ?_
 refine st_ret (by kernel_rfl) ?_
 refine qb_own (rows' := (List.map c154 (out ++ [r]))) .ret (.inr rfl) 4 0 0 (by kernel_rfl) (by kernel_rfl) (by kernel_rfl) ?g5; rotate_left 1
 revert h_1; rotate_left
 revert h_1; rotate_left
 revert h_1; rotate_left
 revert h_2; rotate_left
 revert h_2; rotate_left
 revert h_2; rotate_left
 case g0 => intro h; exact get_map (by omega)
 case g1 => intro h; have := hlast h; omega
 case g2 => intro h; have := hlast h; omega
 case g3 => intro h; exact get_map (by omega)
 case g4 => intro h; unfold addR lastR; rw [if_pos h]
 case g5 => intro h; unfold addR lastR; rw [if_neg h]
end Go.Proofs.YtaiepnaokhpmcaaGreat
namespace Go.Proofs.YtaiepnaokhpmcaaGreat
open Go.E
set_option maxRecDepth 100000
set_option maxHeartbeats 4000000
def c150 (l : List Run) : List AV := [.sl (l.map c154)]
def keepR (l : List Run) : List Run := (l.map clipR).filter (fun r => decide (r.lo ≤ r.hi))
def foldR (l : List Run) : List Run := l.foldl addR []
def unR (ss : List (List Run)) : List Run := foldR (pdqR (keepR ss.flatten))
def isKept (ss : List (List Run)) (i:Int) (all : List Run) : Prop := all = keepR (ss.take i.toNat).flatten
def isKept2 (ss : List (List Run)) (i j:Int) (all : List Run) : Prop := all = keepR ((ss.take i.toNat).flatten ++ (ss[i.toNat]!).take j.toNat)
def isFold (l : List Run) (i:Int) (out : List Run) : Prop := out = foldR (l.take i.toNat)
def inv133a (ss : List (List Run)) (i:Int) (all : List Run) : Prop := 0 ≤ i ∧ i ≤ ss.length ∧ isKept ss i all
def dec133a (ss : List (List Run)) (i:Int) (all : List Run) : Nat := (ss.length - i).toNat
def inv133b (ss : List (List Run)) (i:Int) (j:Int) (all : List Run) : Prop := 0 ≤ j ∧ j ≤ (ss[i.toNat]!).length ∧ isKept2 ss i j all
def dec133b (ss : List (List Run)) (i:Int) (j:Int) (all : List Run) : Nat := ((ss[i.toNat]!).length - j).toNat
def inv133c (s : List Run) (i:Int) (l out : List Run) : Prop := l = s ∧ 0 ≤ i ∧ i ≤ l.length ∧ (out.length:Int) ≤ i ∧ hiOk out ∧ isFold l i out
def dec133c (s : List Run) (i:Int) (l out : List Run) : Nat := (s.length - i).toNat
theorem keepR_app (a b : List Run) : keepR (a ++ b) = keepR a ++ keepR b := by simp [keepR]
theorem keepR_len (l : List Run) : (keepR l).length ≤ l.length := by
 unfold keepR
 exact Nat.le_trans (List.length_filter_le _ _) (by simp)
def good1 (r : Run) : Prop := okR r ∧ r.lo ≤ r.hi ∧ r.hi ≤ 1000000000
theorem keep_good {l : List Run} : ∀ r ∈ keepR l, good1 r := by
 intro r hr
 unfold keepR at hr
 obtain ⟨h1, h2⟩ := List.mem_filter.1 hr
 obtain ⟨x, _, rfl⟩ := List.mem_map.1 h1
 simp only [decide_eq_true_eq] at h2
 unfold good1 okR
 simp only [clipR] at *
 omega
theorem flatR_le {α : Type} (ss : List (List α)) (i:Nat) : (ss.take i).flatten.length ≤ ss.flatten.length := by
 have h : (ss.take i).flatten ++ (ss.drop i).flatten = ss.flatten := by rw [← List.flatten_append, List.take_append_drop]
 rw [← h, List.length_append]
 omega
theorem flatR_step {α : Type} {ss : List (List α)} {i : Int} (h0 : 0 ≤ i) (h : i < ss.length) : (ss.take (i + 1).toNat).flatten = (ss.take i.toNat).flatten ++ ss[i.toNat]! := by
 rw [← take_step h0 h, List.flatten_append]
 simp
theorem part_le {α : Type} {ss : List (List α)} {i : Int} (j:Nat) (h0 : 0 ≤ i) (h : i < ss.length) : ((ss.take i.toNat).flatten ++ (ss[i.toNat]!).take j).length ≤ ss.flatten.length := by
 have h1 := flatR_le ss (i + 1).toNat
 rw [flatR_step h0 h, List.length_append] at h1
 rw [List.length_append, List.length_take]
 omega
theorem kept2_len {ss : List (List Run)} {i j : Int} {all : List Run} (h0 : 0 ≤ i) (h : i < ss.length) (hk : isKept2 ss i j all) : all.length ≤ ((ss.take i.toNat).flatten ++ (ss[i.toNat]!).take j.toNat).length := by
 unfold isKept2 at hk
 rw [hk]
 exact keepR_len _
theorem keepR_one (r : Run) : keepR [r] = if (clipR r).lo ≤ (clipR r).hi then [clipR r] else [] := by
 unfold keepR
 by_cases h : (clipR r).lo ≤ (clipR r).hi <;> simp [List.filter_cons, h]
theorem kept2_next {ss : List (List Run)} {i j : Int} {all : List Run} (j0 : 0 ≤ j) (jl : j < (ss[i.toNat]!).length) (hk : isKept2 ss i j all) :
  isKept2 ss i (j + 1) (if (clipR (ss[i.toNat]!)[j.toNat]!).lo ≤ (clipR (ss[i.toNat]!)[j.toNat]!).hi then all ++ [clipR (ss[i.toNat]!)[j.toNat]!] else all) := by
 unfold isKept2 at *
 rw [← take_step j0 jl, ← List.append_assoc, keepR_app, ← hk]
 by_cases h : (clipR (ss[i.toNat]!)[j.toNat]!).lo ≤ (clipR (ss[i.toNat]!)[j.toNat]!).hi
 ·rw [if_pos h, keepR_one, if_pos h]
 ·rw [if_neg h, keepR_one, if_neg h, List.append_nil]
theorem kept2_room {ss : List (List Run)} {i j : Int} {all : List Run} (hb : ss.flatten.length * 16 ≤ 140737488351232) (h0 : 0 ≤ i) (h : i < ss.length) (j0 : 0 ≤ j) (jl : j < (ss[i.toNat]!).length) (hk : isKept2 ss i j all) : (all.length + 1) * 16 ≤ 140737488351232 ∧ j + 1 ≤ 9223372036854775807 := by
 have h1 := kept2_len h0 h hk
 have h2 := part_le (j + 1).toNat h0 h
 have h3 := part_le (ss[i.toNat]!).length h0 h
 rw [List.length_append, List.length_take] at h1 h2 h3
 omega
theorem kept_start {ss : List (List Run)} {i : Int} {all : List Run} (hk : isKept ss i all) : isKept2 ss i 0 all := by
 unfold isKept isKept2 at *
 simpa using hk
theorem kept_next {ss : List (List Run)} {i j : Int} {all : List Run} (h0 : 0 ≤ i) (h : i < ss.length) (jl : ¬ j < (ss[i.toNat]!).length) (hk : isKept2 ss i j all) : isKept ss (i + 1) all := by
 unfold isKept isKept2 at *
 rw [flatR_step h0 h, hk, List.take_of_length_le (l := ss[i.toNat]!) (by omega)]
theorem kept_end {ss : List (List Run)} {i : Int} {all : List Run} (h : ¬ i < ss.length) (hk : isKept ss i all) : all = keepR ss.flatten := by
 unfold isKept at hk
 rw [hk, List.take_of_length_le (by omega)]
theorem addR_len (out : List Run) (r : Run) : (addR out r).length ≤ out.length + 1 := by
 unfold addR
 split <;> simp
theorem addR_hi {out : List Run} {r : Run} (h : hiOk out) (h1 : r.hi ≤ 1000000000 ∧ 0 ≤ r.hi) : hiOk (addR out r) := by
 unfold addR
 split
 ·rename_i hc
  intro x hx
  rcases List.mem_or_eq_of_mem_set hx with hx | rfl
  ·exact h x hx
  ·have := h _ (bang_in (l := out) (i := ((out.length:Int) - 1).toNat) (by omega))
   unfold lastR
   simp only
   omega
 ·intro x hx
  rcases List.mem_append.1 hx with hx | hx
  ·exact h x hx
  ·have : x = r := by simpa using hx
   subst this
   exact h1
theorem fold_next {l out : List Run} {i : Int} (h0 : 0 ≤ i) (h : i < l.length) (hf : isFold l i out) : isFold l (i + 1) (addR out l[i.toNat]!) := by
 unfold isFold foldR at *
 rw [← take_step h0 h, List.foldl_append, ← hf]
 rfl
theorem sorted_good {l : List Run} (hl : ∀ r ∈ l, good1 r) : ∀ r ∈ pdqR l, good1 r := fun r hr => hl r ((pdqR_perm fun r hr => (hl r hr).1).subset hr)
theorem con208 (ss : List (List Run)) (hb : ss.flatten.length * 16 ≤ 140737488351232) : ConB Tryz.prog 208 [.sl (ss.map c150)] 154 (.row 2 ((unR ss).map c154)) :=
 by
 refine conB_lens 0 (c150) (ss) (by kernel_rfl) Go.Proofs.Tryz.func208 (by kernel_rfl) fun hl_0 => ?_
 refine st_conB tab_ok (by kernel_rfl) (.tmp 2) 50 Go.Proofs.Tryz.func208 (by kernel_rfl) (by kernel_rfl) ?_
 intro e0 cx
 refine sq ?_
 refine rg (A := True) cx [] [0] [] trivial ?_
 refine sn (sq ?_)
 refine rg (A := True) cx [] [0, 3] [] trivial ?_
 refine sn (sq ?_)
 refine sq ?_
 refine rg (A := _) cx [(1, { tell := some (.i .i64 ((↑ss.length:Int))) })] [3, 13, 14, 15] [] (told_len c150 ss) ?_
 refine sn ?_
 refine st_block 0 (by kernel_rfl) ?_
 refine awp_adopt 3 1003 154 2 (σ' := ⟨[(3, .own 1003 0), (13, .sl (List.map c150 ss)), (14, .i .i64 ((↑ss.length:Int))), (15, .i .i64 ((0:Int)))], [(1003, ⟨0, 154, .row 2 (List.map c154 [])⟩)]⟩) (by kernel_rfl) ?_
 refine st_loop (X := Int × List Run) (fun x => ⟨[(3, .own 1003 0), (13, .sl (List.map c150 ss)), (14, .i .i64 ((↑ss.length:Int))), (15, .i .i64 (x.fst))], [(1003, ⟨0, 154, .row 2 (List.map c154 x.snd)⟩)]⟩) (fun x ↦ dec133a ss x.fst x.snd) (fun x ↦ inv133a ss x.fst x.snd) [3, 13, 14, 15] [1003] (((0:Int), [])) (by kernel_rfl) (by kernel_rfl) (show inv133a ss (0:Int) [] from ?g0) ?_; rotate_left 1
 rintro ⟨i_0, all_1⟩ h_2
 obtain ⟨h_3, h_4, h_5⟩ : (0:Int) ≤ i_0 ∧ i_0 ≤ (↑ss.length:Int) ∧ isKept ss i_0 all_1 := h_2
 refine sq ?_
 refine rg (A := (AV.b (decide (i_0 < (↑ss.length:Int))) = AV.b (decide (i_0 < (↑ss.length:Int))))) cx [(0, { tell := some (.b (decide (i_0 < (↑ss.length:Int)))) })] [3, 13, 14, 15, 16] [1003] (by kernel_rfl) ?_
 refine sn (sq ?_)
 refine st_dec (i_0 < (↑ss.length:Int)) (by kernel_rfl) (by kernel_rfl) (fun h_6 => ?_) (fun h_6 => ?_)
 refine st_skip (by kernel_rfl) ?_
 refine sn (sq ?_)
 refine st_block 1 (by kernel_rfl) ?_
 refine sq ?_
 refine rg (A := ((0:Int) ≤ i_0) ∧ ((List.map c150 ss)[i_0.toNat]? = some (c150 ss[i_0.toNat]!)) ∧ ((c150 ss[i_0.toNat]!).length = (1:Nat))) cx [(0, { row := (c150 ss[i_0.toNat]!) })] [3, 13, 14, 15, 5] [1003] ⟨(by (with_reducible assumption)), (by (with_reducible refine get_map ?_; omega)), (by kernel_rfl)⟩ ?_
 refine sn (sq ?_)
 refine rg (A := _) cx [(1, { tell := some (.i .i64 ((↑ss[i_0.toNat]!.length:Int))) })] [3, 13, 14, 15, 19, 20, 21] [1003] (told_len c154 ss[i_0.toNat]!) ?_
 refine sn ?_
 refine st_block 2 (by kernel_rfl) ?_
 refine st_loop (X := Int × List Run) (fun x => ⟨[(3, .own 1003 0), (13, .sl (List.map c150 ss)), (14, .i .i64 ((↑ss.length:Int))), (15, .i .i64 (i_0)), (19, .sl (List.map c154 ss[i_0.toNat]!)), (20, .i .i64 ((↑ss[i_0.toNat]!.length:Int))), (21, .i .i64 (x.fst))], [(1003, ⟨0, 154, .row 2 (List.map c154 x.snd)⟩)]⟩) (fun x ↦ dec133b ss i_0 x.fst x.snd) (fun x ↦ inv133b ss i_0 x.fst x.snd) [3, 13, 14, 15, 19, 20, 21] [1003] (((0:Int), all_1)) (by kernel_rfl) (by kernel_rfl) (show inv133b ss i_0 (0:Int) all_1 from ?g1) ?_; rotate_left 1
 rintro ⟨j_7, all_8⟩ h_9
 obtain ⟨h_10, h_11, h_12⟩ : (0:Int) ≤ j_7 ∧ j_7 ≤ (↑ss[i_0.toNat]!.length:Int) ∧ isKept2 ss i_0 j_7 all_8 := h_9
 refine sq ?_
 refine rg (A := (AV.b (decide (j_7 < (↑ss[i_0.toNat]!.length:Int))) = AV.b (decide (j_7 < (↑ss[i_0.toNat]!.length:Int))))) cx [(0, { tell := some (.b (decide (j_7 < (↑ss[i_0.toNat]!.length:Int)))) })] [3, 13, 14, 15, 19, 20, 21, 22] [1003] (by kernel_rfl) ?_
 refine sn (sq ?_)
 refine st_dec (j_7 < (↑ss[i_0.toNat]!.length:Int)) (by kernel_rfl) (by kernel_rfl) (fun h_13 => ?_) (fun h_13 => ?_)
 refine st_skip (by kernel_rfl) ?_
 refine sn (sq ?_)
 refine st_block 3 (by kernel_rfl) ?_
 refine sq ?_
 refine rg (A := ((0:Int) ≤ j_7) ∧ ((List.map c154 ss[i_0.toNat]!)[j_7.toNat]? = some (c154 ss[i_0.toNat]![j_7.toNat]!)) ∧ ((c154 ss[i_0.toNat]![j_7.toNat]!).length = (2:Nat)) ∧ ((2:Nat) ≤ [AV.i .i64 ss[i_0.toNat]![j_7.toNat]!.lo, AV.i .i64 ss[i_0.toNat]![j_7.toNat]!.hi].length)) cx [(0, { row := (c154 ss[i_0.toNat]![j_7.toNat]!) })] [3, 13, 14, 15, 19, 20, 21, 7] [1003, 7] ⟨(by (with_reducible assumption)), (by (with_reducible refine get_map ?_; omega)), (by kernel_rfl), (by (simp only [List.length_append, List.length_cons, List.length_nil]; omega))⟩ ?_
 refine sn (sq ?_)
 refine rg (A := _) cx [(1, { val := some (resC (con181 (ss[i_0.toNat]![j_7.toNat]!))) })] [3, 13, 14, 15, 19, 20, 21, 8, 9] [1003, 8] (con181 (ss[i_0.toNat]![j_7.toNat]!)) ?_
 refine sn (sq ?_)
 refine rg (A := True) cx [] [3, 13, 14, 15, 19, 20, 21, 8, 30] [1003, 8] trivial ?_
 refine sn ?_
 refine st_dec ((clipR ss[i_0.toNat]![j_7.toNat]!).lo ≤ (clipR ss[i_0.toNat]![j_7.toNat]!).hi) (by kernel_rfl) (by kernel_rfl) (fun h_14 => ?_) (fun h_14 => ?_)
 refine rg (A := (154 = (154:Nat)) ∧ ((2:Nat) = 2) ∧ ([AV.i .i64 (0:Int), AV.i .i64 (0:Int)].length = (2:Nat)) ∧ (∀ (r : List AV), r ∈ List.map c154 [clipR ss[i_0.toNat]![j_7.toNat]!] → r.length = 2) ∧ ((List.map c154 all_8).length + (List.map c154 [clipR ss[i_0.toNat]![j_7.toNat]!]).length ≤ maxLen) ∧ (((List.map c154 all_8).length + (List.map c154 [clipR ss[i_0.toNat]![j_7.toNat]!]).length) * (16:Nat) ≤ (140737488355328:Nat)) ∧ (List.map c154 all_8 ++ List.map c154 [clipR ss[i_0.toNat]![j_7.toNat]!] = List.map c154 (all_8 ++ [clipR ss[i_0.toNat]![j_7.toNat]!]))) cx [(3, { rows := some (List.map c154 (all_8 ++ [clipR ss[i_0.toNat]![j_7.toNat]!])) })] [3, 13, 14, 15, 19, 20, 21] [1003] ⟨(by kernel_rfl), (by kernel_rfl), (by kernel_rfl), (by (with_reducible refine len_map (fun _ => ?_) _; kernel_rfl)), ?g2, ?g3, (by (with_reducible refine app_map ?_; kernel_rfl))⟩ ?_; rotate_left 2
 refine q_blk_normal ?_
 refine sn ?_
 refine rg (A := (AV.i .i64 (IntKind.i64.wrap (j_7 + (1:Int))) = AV.i .i64 (j_7 + (1:Int)))) cx [(0, { tell := some (.i .i64 (j_7 + (1:Int))) })] [3, 13, 14, 15, 19, 20, 21] [1003] (told_i64 (by omega) ?g4) ?_; rotate_left 1
 refine sn ?_
 refine loop_next ((j_7 + (1:Int), all_8 ++ [clipR ss[i_0.toNat]![j_7.toNat]!])) (by kernel_rfl) (show ((↑ss[i_0.toNat]!.length:Int) - (j_7 + (1:Int))).toNat < ((↑ss[i_0.toNat]!.length:Int) - j_7).toNat from (by omega)) (show inv133b ss i_0 (j_7 + (1:Int)) (all_8 ++ [clipR ss[i_0.toNat]![j_7.toNat]!]) from ?g5); rotate_left 1
 refine st_skip (by kernel_rfl) ?_
 refine q_blk_normal ?_
 refine sn ?_
 refine rg (A := (AV.i .i64 (IntKind.i64.wrap (j_7 + (1:Int))) = AV.i .i64 (j_7 + (1:Int)))) cx [(0, { tell := some (.i .i64 (j_7 + (1:Int))) })] [3, 13, 14, 15, 19, 20, 21] [1003] (told_i64 (by omega) ?g6) ?_; rotate_left 1
 refine sn ?_
 refine loop_next ((j_7 + (1:Int), all_8)) (by kernel_rfl) (show ((↑ss[i_0.toNat]!.length:Int) - (j_7 + (1:Int))).toNat < ((↑ss[i_0.toNat]!.length:Int) - j_7).toNat from (by omega)) (show inv133b ss i_0 (j_7 + (1:Int)) all_8 from ?g7); rotate_left 1
 refine st_exit 2 (by kernel_rfl) ?_
 refine q_seq_exit ?_
 refine q_seq_exit ?_
 refine q_blk_hit ?_
 refine q_blk_normal ?_
 refine sn ?_
 refine rg (A := (AV.i .i64 (IntKind.i64.wrap (i_0 + (1:Int))) = AV.i .i64 (i_0 + (1:Int)))) cx [(0, { tell := some (.i .i64 (i_0 + (1:Int))) })] [3, 13, 14, 15] [1003] (told_i64 (by omega) (by omega)) ?_
 refine sn ?_
 refine loop_next ((i_0 + (1:Int), all_8)) (by kernel_rfl) (show ((↑ss.length:Int) - (i_0 + (1:Int))).toNat < ((↑ss.length:Int) - i_0).toNat from (by omega)) (show inv133a ss (i_0 + (1:Int)) all_8 from ?g8); rotate_left 1
 refine st_exit 0 (by kernel_rfl) ?_
 refine q_seq_exit ?_
 refine q_seq_exit ?_
 refine q_blk_hit ?_
 refine sn (sq ?_)
 refine rg (A := (IOConG Tryz.prog (239 : FuncId) (240 : FuncId) none false (154:Nat) (2:Nat) (List.map c154 all_1) (List.map c154 (pdqR all_1)))) cx [(1, { rows := some (List.map c154 (pdqR all_1)) })] [3] [1003] (io239 (all_1) ?g9 ?g10) ?_; rotate_left 2
 refine sn (sq ?_)
 refine rg (A := True) cx [] [3, 10] [1003] trivial ?_
 refine sn (sq ?_)
 refine sq ?_
 refine rg (A := _) cx [(1, { tell := some (.i .i64 ((↑(pdqR all_1).length:Int))) })] [10, 39, 40, 41] [1003] (told_len c154 (pdqR all_1)) ?_
 refine sn ?_
 refine st_block 4 (by kernel_rfl) ?_
 refine awp_adopt 10 1010 154 2 (σ' := ⟨[(10, .own 1010 0), (39, .own 1003 0), (40, .i .i64 ((↑(pdqR all_1).length:Int))), (41, .i .i64 ((0:Int)))], [(1003, ⟨0, 154, .row 2 (List.map c154 (pdqR all_1))⟩), (1010, ⟨0, 154, .row 2 (List.map c154 [])⟩)]⟩) (by kernel_rfl) ?_
 refine st_loop (X := Int × List Run × List Run) (fun x => ⟨[(10, .own 1010 0), (39, .own 1003 0), (40, .i .i64 ((↑(pdqR all_1).length:Int))), (41, .i .i64 (x.fst))], [(1003, ⟨0, 154, .row 2 (List.map c154 x.snd.fst)⟩), (1010, ⟨0, 154, .row 2 (List.map c154 x.snd.snd)⟩)]⟩) (fun x ↦ dec133c (pdqR all_1) x.fst x.snd.fst x.snd.snd) (fun x ↦ inv133c (pdqR all_1) x.fst x.snd.fst x.snd.snd) [10, 39, 40, 41] [1003, 1010] (((0:Int), pdqR all_1, [])) (by kernel_rfl) (by kernel_rfl) (show inv133c (pdqR all_1) (0:Int) (pdqR all_1) [] from ?g11) ?_; rotate_left 1
 rintro ⟨i_15, l_16, out_17⟩ h_18
 obtain ⟨h_19, h_20, h_21, h_22, h_23, h_24⟩ : l_16 = pdqR all_1 ∧ (0:Int) ≤ i_15 ∧ i_15 ≤ (↑l_16.length:Int) ∧ (↑out_17.length:Int) ≤ i_15 ∧ hiOk out_17 ∧ isFold l_16 i_15 out_17 := h_18
 refine sq ?_
 refine rg (A := (AV.b (decide (i_15 < (↑(pdqR all_1).length:Int))) = AV.b (decide (i_15 < (↑(pdqR all_1).length:Int))))) cx [(0, { tell := some (.b (decide (i_15 < (↑(pdqR all_1).length:Int)))) })] [10, 39, 40, 41, 42] [1003, 1010] (by kernel_rfl) ?_
 refine sn (sq ?_)
 refine st_dec (i_15 < (↑(pdqR all_1).length:Int)) (by kernel_rfl) (by kernel_rfl) (fun h_25 => ?_) (fun h_25 => ?_)
 refine st_skip (by kernel_rfl) ?_
 refine sn (sq ?_)
 refine st_block 5 (by kernel_rfl) ?_
 refine sq ?_
 refine rg (A := ((0:Int) ≤ i_15) ∧ (i_15.toNat < (List.map c154 l_16).length) ∧ ((2:Nat) = 2) ∧ (E.rowAt { ver := 0, ty := 154, k := BK.row (2) (List.map c154 l_16) : Blk } i_15.toNat (c154 l_16[i_15.toNat]!)) ∧ (0 + (2:Nat) ≤ (c154 l_16[i_15.toNat]!).length)) cx [(1, { row := (c154 l_16[i_15.toNat]!) })] [10, 39, 40, 41, 12] [1003, 1010, 12] ⟨(by (with_reducible assumption)), ?g12, (by kernel_rfl), ?g13, ?g14⟩ ?_; rotate_left 3
 refine sn ?_
 refine rg (A := _) cx [(2, { val := some (.vw (0) (0) (0) (0)), rows := some (List.map c154 (addR out_17 l_16[i_15.toNat]!)) })] [10, 39, 40, 41] [1003, 1010] (con241 (out_17) (l_16[i_15.toNat]!) (by (with_reducible assumption)) ?g15) ?_; rotate_left 1
 refine q_blk_normal ?_
 refine sn ?_
 refine rg (A := (AV.i .i64 (IntKind.i64.wrap (i_15 + (1:Int))) = AV.i .i64 (i_15 + (1:Int)))) cx [(0, { tell := some (.i .i64 (i_15 + (1:Int))) })] [10, 39, 40, 41] [1003, 1010] (told_i64 (by omega) ?g16) ?_; rotate_left 1
 refine sn ?_
 refine loop_next ((i_15 + (1:Int), l_16, addR out_17 l_16[i_15.toNat]!)) (by kernel_rfl) (show ((↑(pdqR all_1).length:Int) - (i_15 + (1:Int))).toNat < ((↑(pdqR all_1).length:Int) - i_15).toNat from (by omega)) (show inv133c (pdqR all_1) (i_15 + (1:Int)) l_16 (addR out_17 l_16[i_15.toNat]!) from ?g17); rotate_left 1
 refine st_exit 4 (by kernel_rfl) ?_
 refine q_seq_exit ?_
 refine q_seq_exit ?_
 refine q_blk_hit ?_
 refine sn (sq ?_)
 refine rg (A := True) cx [] [2] [1010] trivial ?_
 refine sn ?_
 refine st_ret (by kernel_rfl) ?_
 refine qb_own (rows' := (List.map c154 out_17)) .ret (.inr rfl) 2 1010 0 (by kernel_rfl) (by kernel_rfl) (by kernel_rfl) ?g18; rotate_left 1
 rotate_left
 revert i_0 all_1 h_3 h_4 h_5 h_6; rotate_left
 revert i_0 all_1 h_3 h_4 h_5 h_6 j_7 all_8 h_10 h_11 h_12 h_13 h_14; rotate_left
 revert i_0 all_1 h_3 h_4 h_5 h_6 j_7 all_8 h_10 h_11 h_12 h_13 h_14; rotate_left
 revert i_0 all_1 h_3 h_4 h_5 h_6 j_7 all_8 h_10 h_11 h_12 h_13 h_14; rotate_left
 revert i_0 all_1 h_3 h_4 h_5 h_6 j_7 all_8 h_10 h_11 h_12 h_13 h_14; rotate_left
 revert i_0 all_1 h_3 h_4 h_5 h_6 j_7 all_8 h_10 h_11 h_12 h_13 h_14; rotate_left
 revert i_0 all_1 h_3 h_4 h_5 h_6 j_7 all_8 h_10 h_11 h_12 h_13 h_14; rotate_left
 revert i_0 all_1 h_3 h_4 h_5 h_6 j_7 all_8 h_10 h_11 h_12 h_13; rotate_left
 revert i_0 all_1 h_3 h_4 h_5 h_6; rotate_left
 revert i_0 all_1 h_3 h_4 h_5 h_6; rotate_left
 revert i_0 all_1 h_3 h_4 h_5 h_6; rotate_left
 revert i_0 all_1 h_3 h_4 h_5 h_6 i_15 l_16 out_17 h_19 h_20 h_21 h_22 h_23 h_24 h_25; rotate_left
 revert i_0 all_1 h_3 h_4 h_5 h_6 i_15 l_16 out_17 h_19 h_20 h_21 h_22 h_23 h_24 h_25; rotate_left
 revert i_0 all_1 h_3 h_4 h_5 h_6 i_15 l_16 out_17 h_19 h_20 h_21 h_22 h_23 h_24 h_25; rotate_left
 revert i_0 all_1 h_3 h_4 h_5 h_6 i_15 l_16 out_17 h_19 h_20 h_21 h_22 h_23 h_24 h_25; rotate_left
 revert i_0 all_1 h_3 h_4 h_5 h_6 i_15 l_16 out_17 h_19 h_20 h_21 h_22 h_23 h_24 h_25; rotate_left
 revert i_0 all_1 h_3 h_4 h_5 h_6 i_15 l_16 out_17 h_19 h_20 h_21 h_22 h_23 h_24 h_25; rotate_left
 revert i_0 all_1 h_3 h_4 h_5 h_6 i_15 l_16 out_17 h_19 h_20 h_21 h_22 h_23 h_24 h_25; rotate_left
 case g0 => exact ⟨by omega, by omega, rfl⟩
 case g1 => intro i a h0 h1 h2 h3; exact ⟨by omega, by omega, kept_start h2⟩
 case g2 => intro i a h0 h1 h2 h3 j b k0 k1 k2 k3 k4; have := kept2_room hb h0 h3 k0 k3 k2; simp only [List.length_map, List.length_cons, List.length_nil, Go.maxLen]; omega
 case g3 => intro i a h0 h1 h2 h3 j b k0 k1 k2 k3 k4; have := kept2_room hb h0 h3 k0 k3 k2; simp only [List.length_map, List.length_cons, List.length_nil]; omega
 case g4 => intro i a h0 h1 h2 h3 j b k0 k1 k2 k3 k4; exact (kept2_room hb h0 h3 k0 k3 k2).2
 case g5 => intro i a h0 h1 h2 h3 j b k0 k1 k2 k3 k4; have := kept2_next k0 k3 k2; rw [if_pos k4] at this; exact ⟨by omega, by omega, this⟩
 case g6 => intro i a h0 h1 h2 h3 j b k0 k1 k2 k3 k4; exact (kept2_room hb h0 h3 k0 k3 k2).2
 case g7 => intro i a h0 h1 h2 h3 j b k0 k1 k2 k3 k4; have := kept2_next k0 k3 k2; rw [if_neg k4] at this; exact ⟨by omega, by omega, this⟩
 case g8 => intro i a h0 h1 h2 h3 j b k0 k1 k2 k3; exact ⟨by omega, by omega, kept_next h0 h3 k3 k2⟩
 case g9 => intro i a h0 h1 h2 h3 r hr; rw [kept_end h3 h2] at hr; exact (keep_good r hr).1
 case g10 => intro i a h0 h1 h2 h3; rw [kept_end h3 h2]; have := keepR_len ss.flatten; omega
 case g11 => intro i a h0 h1 h2 h3; exact ⟨rfl, by omega, by omega, by simp, fun x hx => by simp at hx, rfl⟩
 case g12 => intro i a h0 h1 h2 h3 j l o k0 k1 k2 k3 k4 k5 k6; subst k0; simp only [List.length_map]; omega
 case g13 => intro i a h0 h1 h2 h3 j l o k0 k1 k2 k3 k4 k5 k6; subst k0; exact get_map (by omega)
 case g14 => intros; exact Nat.le_of_ble_eq_true rfl
 case g15 =>
  intro i a h0 h1 h2 h3 j l o k0 k1 k2 k3 k4 k5 k6
  subst k0
  have e := kept_end h3 h2
  have hg : ∀ r ∈ a, okR r := fun r hr => by rw [e] at hr; exact (keep_good r hr).1
  have := (pdqR_perm hg).length_eq
  have h5 := keepR_len ss.flatten
  rw [← e] at h5
  omega
 case g16 =>
  intro i a h0 h1 h2 h3 j l o k0 k1 k2 k3 k4 k5 k6
  subst k0
  have e := kept_end h3 h2
  have hg : ∀ r ∈ a, okR r := fun r hr => by rw [e] at hr; exact (keep_good r hr).1
  have := (pdqR_perm hg).length_eq
  have h5 := keepR_len ss.flatten
  rw [← e] at h5
  omega
 case g17 =>
  intro i a h0 h1 h2 h3 j l o k0 k1 k2 k3 k4 k5 k6
  subst k0
  have e := kept_end h3 h2
  have hg : ∀ r ∈ a, good1 r := fun r hr => by rw [e] at hr; exact keep_good r hr
  have hr := sorted_good hg _ (bang_in (l := pdqR a) (i := j.toNat) (by omega))
  have hlo := addR_len o (pdqR a)[j.toNat]!
  unfold good1 okR at hr
  exact ⟨rfl, by omega, by omega, by omega, addR_hi k4 (by omega), fold_next k1 k6 k5⟩
 case g18 =>
  intro i a h0 h1 h2 h3 j l o k0 k1 k2 k3 k4 k5 k6
  subst k0
  unfold isFold at k5
  rw [k5, kept_end h3 h2, List.take_of_length_le (by rw [← kept_end h3 h2]; omega)]
  rfl
end Go.Proofs.YtaiepnaokhpmcaaGreat
namespace Go.E
open Go Go.Proofs Go.Shelf Go.RowKit Go.Lib
variable {P : Program} {ρ : Ren}
set_option maxHeartbeats 2000000 in
set_option maxRecDepth 100000 in
theorem clone_some (L : SlLaysE0.n41 P ρ) (i0 : TypeInfo) (z : Value) (size bytes:Nat) (hi : P.info? (ρ.t 23) = some i0) (hz0 : i0.zero = some z) (hz1 : i0.size = size) (hz2 : i0.bytes = bytes) (hzs : z.cells.size = size) (hsz : 0 < size) (z23 : ∀ w, (Go.sizeOf (ρ.t 23)).run P w = .ok size w)
  (ad : Addr) (n c:Nat) (news : List Value) (w : World) (hl : news.length = n * size) (hn : n ≤ maxLen) (hbig : n * bytes ≤ 140737488355328)
  (hc : ∀ j u, news[j]? = some u → w.cell? (ad.add j) = some u) (h1 : ∀ u ∈ news, u.oneCell' = true) :
  Calls P (ρ.f 41) #[.slice (some ad) n c] w fun e w' => ∃ v', e = .returned v' ∧ w'.ownsRow w.heap.size (ρ.t 23) size v' n news ∧ Below w.heap.size w w' := by
 have mixed := L.mixed; have t4 := L.t4; have a4 := L.a4; have z4 := L.z4; have v4 := L.v4; have t22 := L.t22; have a22 := L.a22; have z22 := L.z22; have v22 := L.v22
 have q22 : ∀ (w : World) (a : Option Addr) (n c n' c' : Nat), (binOp .eql (ρ.t 22) (.slice a n c) (.slice none n' c')).run P w = .ok (.bool a.isNone) w := fun w a n c n' c' => Lib.run_eql_slice_nil w _ _ a n c n' c' L.t22
 have u22 : ∀ w, Sem.run P (underlying (ρ.t 22)) w = .ok (TypeDesc.slice (ρ.t 23)) w := run_underlying t22
 have A : Aside (∀ j u, news[j]? = some u → w.cell? (ad.add j) = some u) := hc
 clear hc
 obtain ⟨_, _, FG⟩ := L.f41
 go_enter FG, SlBodyN.n41_ntmps ρ
 go_wp2_with (at_builtin; refine wpList_append_own _ rfl _ _ (ρ.t 22) rfl w.heap.size (ρ.t 23) i0 z size bytes t22 hi hz0 hz1 hz2 hzs hsz _ _ _ rfl (World.ownsRow_made w #[] 0 (Nat.le_refl _) (Nat.zero_le _) (by simp)) ad n c news rfl ?qc1 ?qc2 ?qc3 ?qc4 ?qc5 ?qc6 ?_)
 case qc1 => exact hl
 case qc2 =>
  intro j u hj
  exact Lib.cell?_alloc_some _ (A.out j u hj)
 case qc3 => exact h1
 case qc4 => rw [Nat.zero_add]; exact hn
 case qc5 => rw [Nat.zero_add]; exact hbig
 case qc6 => simp
 intro v' w1 hown hgrow hnil
 go_wp2
 go_ret
 refine ⟨v', rfl, by simpa using hown, ?_⟩
 exact ((Below.refl _ w).alloc (Nat.le_refl _) _).grown hgrow (by simp) (by intro k hk; simp [Value.ownBlock] at hk; omega)
set_option maxHeartbeats 1000000 in
theorem clone_none (L : SlLaysE0.n41 P ρ) (n c:Nat) (w : World) :
  Calls P (ρ.f 41) #[.slice none n c] w fun e w' => e = .returned (.slice none 0 0) ∧ w' = w := by
 have mixed := L.mixed; have t4 := L.t4; have a4 := L.a4; have z4 := L.z4; have v4 := L.v4; have t22 := L.t22; have a22 := L.a22; have z22 := L.z22; have v22 := L.v22
 have q22 : ∀ (w : World) (a : Option Addr) (n c n' c' : Nat), (binOp .eql (ρ.t 22) (.slice a n c) (.slice none n' c')).run P w = .ok (.bool a.isNone) w := fun w a n c n' c' => Lib.run_eql_slice_nil w _ _ a n c n' c' L.t22
 obtain ⟨_, _, FG⟩ := L.f41
 go_enter FG, SlBodyN.n41_ntmps ρ
 go_wp2
 go_ret
 exact ⟨rfl, rfl⟩
theorem conB_clone (L : SlLaysE0.n41 P ρ) {T : Tab} (hT : TabOk P T) {te : TI} (hte : look T (ρ.t 23) = some te) (hcl : Callable P (ρ.f 41)) (hz : te.zero.length = te.size) (h0 : 0 < te.size) {rows : List (List AV)} (hsz : ∀ r ∈ rows, r.length = te.size)
  (hbig : rows.length * te.bytes ≤ 140737488355328) : ConB P (ρ.f 41) [.sl rows] (ρ.t 23) (.row te.size rows) := by
 refine ⟨hcl, fun w S0 vs hS hl hv => ?_⟩
 obtain ⟨v, rfl⟩ : ∃ v, vs = [v] := by
  match vs, hl with
  | [v], _ => exact ⟨v, rfl⟩
 have hr := hv 0 _ v rfl rfl
 have hm : rows.length ≤ maxLen := by cases hr with | sl _ A cap sz u hc hm => exact hm
 obtain ⟨i, zv, i1, i2, i3, i4, i5⟩ := inf hT hte
 rcases (shows_sl hr).flat hsz with ⟨rfl, rfl⟩ | ⟨ad, cap, xs, rfl, x1, x2, x3, x4⟩
 ·refine (clone_none L 0 0 w).mono ?_
  rintro e w' ⟨rfl, rfl⟩
  exact ⟨_, rfl, ⟨fun r hr => by simp at hr, [], World.ownsRow_nil _ _ _ _, fun u hu => by simp at hu, fun j b u hb => by simp at hb⟩, Below.refl _ _⟩
 ·have hzl : zv.cells.size = te.size := by
   have := congrArg List.length i5
   simpa [hz] using this
  refine (clone_some L i zv te.size te.bytes i1 i4 i2 i3 hzl h0 (szOf hT hte) ad rows.length cap xs w x1 hm hbig x2 x3).mono ?_
  rintro e w' ⟨v', rfl, ho, hb⟩
  refine ⟨v', rfl, ⟨hsz, xs, ho, x3, fun j b u hb' hu => (x4 j b u hb' hu).mono (fun k hk => ⟨.inl hk, fun e => ?_⟩) (fun k hk => hb.block k (hS k hk))⟩, hb⟩
  have := hS k hk
  rcases ho.2 with ⟨rfl, _⟩ | ⟨g, cap', cur, rfl, g1, _⟩
  ·simp [blkOf] at e
  ·simp [blkOf] at e; omega
end Go.E
namespace Go.Proofs.YtaiepnaokhpmcaaGreat
open Go.E
set_option maxRecDepth 100000
set_option maxHeartbeats 4000000
open Go Go.Shelf Go.Proofs
def renClR : Go.Shelf.Ren := ⟨fun | 41 => 183 | n => n, fun | 4 => 4 | 22 => 150 | 23 => 154 | n => n, fun n => n⟩
theorem laysClR : Go.Proofs.SlLaysE0.n41 Tryz.prog renClR := { mixed := by kernel_rfl, f41 := ⟨Tryz.f183.name, by decide, Tryz.func183.trans (congrArg some (by kernel_rfl))⟩, t4 := Tryz.underlying4, a4 := Tryz.isAgg4, z4 := Tryz.sizeOf4, v4 := Tryz.zeroValue4, t22 := Tryz.underlying150, a22 := Tryz.isAgg150, z22 := Tryz.sizeOf150, v22 := Tryz.zeroValue150 }
theorem con183 (es : List Run) (hl : es.length * 16 ≤ 140737488355328) : ConB Tryz.prog 183 [.sl (es.map c154)] 154 (.row 2 (es.map c154)) :=
 conB_clone (T := tab) laysClR tab_ok (te := _) rfl ⟨_, Tryz.func183, by kernel_rfl, by kernel_rfl⟩ (by kernel_rfl) (by decide +kernel) (fun r hr => by obtain ⟨x, _, rfl⟩ := List.mem_map.1 hr; kernel_rfl) (by rw [List.length_map]; exact hl)
def renClI : Go.Shelf.Ren := ⟨fun | 41 => 148 | n => n, fun | 4 => 4 | 22 => 23 | 23 => 3 | n => n, fun n => n⟩
theorem laysClI : Go.Proofs.SlLaysE0.n41 Tryz.prog renClI := { mixed := by kernel_rfl, f41 := ⟨Tryz.f148.name, by decide, Tryz.func148.trans (congrArg some (by kernel_rfl))⟩, t4 := Tryz.underlying4, a4 := Tryz.isAgg4, z4 := Tryz.sizeOf4, v4 := Tryz.zeroValue4, t22 := Tryz.underlying23, a22 := Tryz.isAgg23, z22 := Tryz.sizeOf23, v22 := Tryz.zeroValue23 }
theorem con148 (es : List Int) (hl : es.length * 8 ≤ 140737488355328) : ConB Tryz.prog 148 [.sl (es.map c3)] 3 (.row 1 (es.map c3)) :=
 conB_clone (T := tab) laysClI tab_ok (te := _) rfl ⟨_, Tryz.func148, by kernel_rfl, by kernel_rfl⟩ (by kernel_rfl) (by decide +kernel) (fun r hr => by obtain ⟨x, _, rfl⟩ := List.mem_map.1 hr; kernel_rfl) (by rw [List.length_map]; exact hl)
def nrm (a : List Run) : List Run := unR [a]
def leadR (n : List Run) : Int × List Run := if n.length = 0 ∨ ¬ n[0]!.lo = 1 then (0, n) else (n[0]!.hi, n.drop 1)
theorem foldR_len (l : List Run) : (foldR l).length ≤ l.length := by
 have : ∀ (l out : List Run), (l.foldl addR out).length ≤ out.length + l.length := by
  intro l
  induction l with
  | nil => intro out; simp
  | cons r l ih =>
   intro out
   have h1 := ih (addR out r)
   have h2 := addR_len out r
   simp only [List.foldl_cons, List.length_cons]
   omega
 have h := this l []
 simpa [foldR] using h
theorem rng_nrm (a : List Run) : (nrm a).length ≤ a.length := by
 have h1 := foldR_len (pdqR (keepR [a].flatten))
 have h2 := (pdqR_perm (l := keepR [a].flatten) fun r hr => (keep_good r hr).1).length_eq
 have h3 := keepR_len [a].flatten
 unfold nrm unR
 simp only [List.flatten_cons, List.flatten_nil, List.append_nil] at *
 omega
theorem con182 (a : List Run) (hb : a.length * 16 ≤ 140737488351232) : Con Tryz.prog 182 [.sl (a.map c154)] (.sl ((nrm a).map c154)) :=
 by
 refine con_lens 0 (c154) (a) (by kernel_rfl) Go.Proofs.Tryz.func182 (by kernel_rfl) fun hl_0 => ?_
 refine st_con tab_ok (by kernel_rfl) [.tmp 2] 6 Go.Proofs.Tryz.func182 (by kernel_rfl) (by kernel_rfl) ?_
 intro e0 cx
 refine sq ?_
 refine rg (A := True) cx [] [0] [] trivial ?_
 refine sn (sq ?_)
 refine rg (A := _) cx [(2, { val := some (.own (154:Nat) (2:Nat)), rows := some (List.map c154 (unR [a])) })] [2] [5] (con208 ([a]) ?g0) ?_; rotate_left 1
 refine sn ?_
 refine st_ret (by kernel_rfl) ?_
 refine q_ret (r := .sl (((E.look [(2, { val := some (AV.own (154:Nat) (2:Nat)), rows := some (List.map c154 (unR [a])) : Ov })] (2)).getD { : Ov }).rows.getD [])) (obl := []) (by kernel_rfl) trivial (AVle.eq (show AV.sl (((E.look [(2, { val := some (AV.own (154:Nat) (2:Nat)), rows := some (List.map c154 (unR [a])) : Ov })] (2)).getD { : Ov }).rows.getD []) = AV.sl (List.map c154 (nrm a)) from ?g1)); rotate_left 1
 case g0 => exact (by simpa using hb)
 case g1 => exact rfl
theorem con147 (a : List Run) (hb : a.length * 16 ≤ 140737488351232) : Con Tryz.prog 147 [.sl (a.map c154)] (.tup [.i .i64 (leadR (nrm a)).1, .sl ((leadR (nrm a)).2.map c154)]) :=
 by
 have hn := rng_nrm a
 refine con_lens 0 (c154) (a) (by kernel_rfl) Go.Proofs.Tryz.func147 (by kernel_rfl) fun hl_0 => ?_
 refine st_con tab_ok (by kernel_rfl) [.tmp 2, .tmp 3] 25 Go.Proofs.Tryz.func147 (by kernel_rfl) (by kernel_rfl) ?_
 intro e0 cx
 refine sq ?_
 refine rg (A := True) cx [] [0] [] trivial ?_
 refine sn (sq ?_)
 have hl_0 := (rng_nrm a)
 refine rg (A := _) cx [(1, { val := some (.sl (List.map c154 (nrm a))) })] [4] [] (con182 (a) (by (with_reducible assumption))) ?_
 refine sn (sq ?_)
 refine sq ?_
 refine st_join (σ' := ⟨[(4, .sl (List.map c154 (nrm a))), (16, .b (decide ((↑(nrm a).length:Int) = (0:Int) ∨ ¬(nrm a)[(0:Nat)]!.lo = (1:Int))))], []⟩) ?_ ?_
 refine st_split ((↑(nrm a).length:Int) = (0:Int)) (fun h_2 => ?_) (fun h_2 => ?_)
 refine rg (A := _ ∧ _ ∧ (AV.b true = AV.b (decide ((↑(nrm a).length:Int) = (0:Int) ∨ ¬(nrm a)[(0:Nat)]!.lo = (1:Int))))) cx [(1, { tell := some (.i .i64 ((↑(nrm a).length:Int))) }), (2, { tell := some (.b (true)) }), (9, { tell := some (.b (decide ((↑(nrm a).length:Int) = (0:Int) ∨ ¬(nrm a)[(0:Nat)]!.lo = (1:Int)))) })] [4, 16] [] ⟨(told_len c154 (nrm a)), (told_true h_2), (by simp only [eq_true h_2, told_simp1, told_simp2, and_true, true_and, and_false, false_and, or_true, true_or, or_false, false_or, not_true_eq_false, not_false_eq_true, decide_true, decide_false, Bool.decide_eq_true])⟩ ?_
 exact ⟨rfl, by kernel_rfl⟩
 refine rg (A := _ ∧ _ ∧ ((0:Int) ≤ (0:Int)) ∧ ((List.map c154 (nrm a))[Int.toNat (0:Int)]? = some (c154 (nrm a)[(0:Nat)]!)) ∧ ((c154 (nrm a)[(0:Nat)]!).length = (2:Nat)) ∧ (AV.b ((nrm a)[(0:Nat)]!.lo != (1:Int)) = AV.b (decide ¬(nrm a)[(0:Nat)]!.lo = (1:Int))) ∧ (AV.b (decide ¬(nrm a)[(0:Nat)]!.lo = (1:Int)) = AV.b (decide ((↑(nrm a).length:Int) = (0:Int) ∨ ¬(nrm a)[(0:Nat)]!.lo = (1:Int))))) cx [(1, { tell := some (.i .i64 ((↑(nrm a).length:Int))) }), (2, { tell := some (.b (false)) }), (5, { row := (c154 (nrm a)[(0:Nat)]!) }), (8, { tell := some (.b (decide ¬(nrm a)[(0:Nat)]!.lo = (1:Int))) }), (9, { tell := some (.b (decide ((↑(nrm a).length:Int) = (0:Int) ∨ ¬(nrm a)[(0:Nat)]!.lo = (1:Int)))) })] [4, 16] [] ⟨(told_len c154 (nrm a)), (told_false h_2), (by omega), ?g0, (by kernel_rfl), (told_neq), (by simp only [eq_false h_2, told_simp1, told_simp2, and_true, true_and, and_false, false_and, or_true, true_or, or_false, false_or, not_true_eq_false, not_false_eq_true, decide_true, decide_false, Bool.decide_eq_true])⟩ ?_; rotate_left 1
 exact ⟨rfl, by kernel_rfl⟩
 refine sn ?_
 refine st_dec ((↑(nrm a).length:Int) = (0:Int) ∨ ¬(nrm a)[(0:Nat)]!.lo = (1:Int)) (by kernel_rfl) (by kernel_rfl) (fun h_3 => ?_) (fun h_3 => ?_)
 refine sq ?_
 refine rg (A := True) cx [] [2, 3] [] trivial ?_
 refine sn ?_
 refine st_ret (by kernel_rfl) ?_
 refine q_seq_ret ?_
 refine q_ret (r := .tup [.i .i64 ((0:Int)), .sl (List.map c154 (nrm a))]) (obl := []) (by kernel_rfl) trivial (AVle.tup (ZLe.cons (AVle.eq (show AV.i .i64 (0:Int) = AV.i .i64 (leadR (nrm a)).fst from ?g2)) (ZLe.cons (AVle.eq (show AV.sl (List.map c154 (nrm a)) = AV.sl (List.map c154 (leadR (nrm a)).snd) from ?g1)) ZLe.nil))); rotate_left 2
 refine st_skip (by kernel_rfl) ?_
 refine sn (sq ?_)
 refine ra (A := ((0:Int) ≤ (0:Int)) ∧ ((List.map c154 (nrm a))[Int.toNat (0:Int)]? = some (c154 (nrm a)[(0:Nat)]!)) ∧ ((c154 (nrm a)[(0:Nat)]!).length = (2:Nat)) ∧ (AV.sl (List.drop (Int.toNat (1:Int)) (List.take (none.getD (↑(List.map c154 (nrm a)).length:Int)).toNat (List.map c154 (nrm a)))) = AV.sl (List.map c154 (List.drop (Int.toNat (1:Int)) (nrm a)))) ∧ ((0:Int) ≤ (1:Int)) ∧ ((1:Int) ≤ none.getD (↑(List.map c154 (nrm a)).length:Int)) ∧ (none.getD (↑(List.map c154 (nrm a)).length:Int) ≤ (↑(List.map c154 (nrm a)).length:Int)) ∧ (∀ (r : List AV), r ∈ List.map c154 (nrm a) → r.length = (2:Nat)) ∧ _) cx [(1, { row := (c154 (nrm a)[(0:Nat)]!) }), (5, { tell := some (.sl (List.map c154 (List.drop (Int.toNat (1:Int)) (nrm a)))) }), (6, { val := some (.own (154:Nat) (2:Nat)), rows := some (List.map c154 (List.drop (Int.toNat (1:Int)) (nrm a))) })] [2, 3] [24] ⟨(by omega), ?g3, (by kernel_rfl), (told_slN c154 (nrm a) (Int.toNat (1:Int))), (by omega), ?g4, ?g5, (by (with_reducible refine len_map (fun _ => ?_) _; kernel_rfl)), (con183 (List.drop (Int.toNat (1:Int)) (nrm a)) ?g6)⟩ ?_; rotate_left 4
 refine sn ?_
 refine st_ret (by kernel_rfl) ?_
 refine q_ret (r := .tup [.i .i64 ((nrm a)[(0:Nat)]!.hi), .sl (((E.look [(6, { val := some (AV.own (154:Nat) (2:Nat)), rows := some (List.map c154 (List.drop (Int.toNat (1:Int)) (nrm a))) : Ov })] (6)).getD { : Ov }).rows.getD [])]) (obl := []) (by kernel_rfl) trivial (AVle.tup (ZLe.cons (AVle.eq (show AV.i .i64 (nrm a)[(0:Nat)]!.hi = AV.i .i64 (leadR (nrm a)).fst from ?g8)) (ZLe.cons (AVle.eq (show AV.sl (((E.look [(6, { val := some (AV.own (154:Nat) (2:Nat)), rows := some (List.map c154 (List.drop (Int.toNat (1:Int)) (nrm a))) : Ov })] (6)).getD { : Ov }).rows.getD []) = AV.sl (List.map c154 (leadR (nrm a)).snd) from ?g7)) ZLe.nil))); rotate_left 2
 revert h_2; rotate_left
 revert h_3; rotate_left
 revert h_3; rotate_left
 revert h_3; rotate_left
 revert h_3; rotate_left
 revert h_3; rotate_left
 revert h_3; rotate_left
 revert h_3; rotate_left
 revert h_3; rotate_left
 case g0 => intro h; exact get_map (by omega)
 case g1 => intro h; unfold leadR; rw [if_pos (h.imp (fun k => by omega) id)]
 case g2 => intro h; unfold leadR; rw [if_pos (h.imp (fun k => by omega) id)]
 case g3 => intro h; exact get_map (by omega)
 case g4 => intro h; have : ¬ ((nrm a).length:Int) = 0 := fun k => h (.inl k); simp only [Option.getD_none, List.length_map]; omega
 case g5 => intro h; exact Int.le_refl _
 case g6 => intro h; rw [List.length_drop]; omega
 case g7 => intro h; show AV.sl (List.map c154 (List.drop 1 (nrm a))) = _; unfold leadR; rw [if_neg (fun k => h (k.imp (fun k => by omega) id))]
 case g8 => intro h; unfold leadR; rw [if_neg (fun k => h (k.imp (fun k => by omega) id))]
end Go.Proofs.YtaiepnaokhpmcaaGreat
namespace Go.Proofs.YtaiepnaokhpmcaaGreat
open Go.E
set_option maxRecDepth 100000
set_option maxHeartbeats 4000000
def sepR (l : List Run) : Prop := l.Pairwise (fun x y => x.hi + 1 < y.lo) ∧ ∀ r ∈ l, 1 ≤ r.lo ∧ r.lo ≤ r.hi ∧ r.hi ≤ 1000000000
def inR (l : List Run) (n:Int) : Prop := ∃ r ∈ l, r.lo ≤ n ∧ n ≤ r.hi
theorem snoc_of {α : Type} [Inhabited α] {l : List α} (h : 0 < (l.length:Int)) : ∃ p, l = p ++ [l[((l.length:Int) - 1).toNat]!] := by
 refine ⟨l.take (l.length - 1), ?_⟩
 have e : ((l.length:Int) - 1).toNat = l.length - 1 := by omega
 rw [e]
 have h1 := List.take_succ_eq_append_getElem (l := l) (i := l.length - 1) (by omega)
 rw [getElem!_pos l (l.length - 1) (by omega), ← h1, List.take_of_length_le (by omega)]
theorem addR_snoc (p : List Run) (x r : Run) : addR (p ++ [x]) r = if r.lo ≤ x.hi + 1 then p ++ [⟨x.lo, max x.hi r.hi⟩] else p ++ [x] ++ [r] := by
 have e : (((p ++ [x]).length:Int) - 1).toNat = p.length := by rw [List.length_append, List.length_singleton]; omega
 have hx : lastR (p ++ [x]) = x := by unfold lastR; rw [e]; simp
 unfold addR
 rw [hx, e]
 by_cases h : r.lo ≤ x.hi + 1
 ·rw [if_pos ⟨by rw [List.length_append, List.length_singleton]; omega, h⟩, if_pos h]
  simp
 ·rw [if_neg (fun k => h k.2), if_neg h]
theorem addR_nil (r : Run) : addR [] r = [r] := by simp [addR]
theorem sepR_nil : sepR [] := ⟨List.Pairwise.nil, fun r hr => by cases hr⟩
theorem addR_sep {out : List Run} {r : Run} (h : sepR out) (hr : good1 r) : sepR (addR out r) := by
  unfold good1 okR at hr
  by_cases h0 : out = []
  · subst h0
    rw [addR_nil]
    exact ⟨by simp, fun x hx => by have : x = r := by simpa using hx
                                   subst this; omega⟩
  · obtain ⟨p, hp⟩ := snoc_of (l := out) (by have := List.length_pos_iff.2 h0; omega)
    generalize out[((out.length:Int) - 1).toNat]! = x at hp
    subst hp
    obtain ⟨h1, h2⟩ := h
    rw [List.pairwise_append] at h1
    obtain ⟨q1, _, q3⟩ := h1
    have hx := h2 x (by simp)
    rw [addR_snoc]
    split
    · refine ⟨List.pairwise_append.2 ⟨q1, by simp, fun a ha b hb => ?_⟩, fun a ha => ?_⟩
      · have : b = ⟨x.lo, max x.hi r.hi⟩ := by simpa using hb
        subst this
        exact q3 a ha x (by simp)
      · rcases List.mem_append.1 ha with ha | ha
        · exact h2 a (by simp [ha])
        · have : a = ⟨x.lo, max x.hi r.hi⟩ := by simpa using ha
          subst this
          simp only
          omega
    · rename_i hn
      refine ⟨List.pairwise_append.2 ⟨List.pairwise_append.2 ⟨q1, by simp, q3⟩, by simp, fun a ha b hb => ?_⟩, fun a ha => ?_⟩
      · have : b = r := by simpa using hb
        subst this
        rcases List.mem_append.1 ha with ha | ha
        · have := q3 a ha x (by simp); omega
        · have : a = x := by simpa using ha
          subst this
          omega
      · rcases List.mem_append.1 ha with ha | ha
        · exact h2 a ha
        · have : a = r := by simpa using ha
          subst this
          omega
theorem addR_in {out : List Run} {r : Run} (hl : ∀ x ∈ out, x.lo ≤ r.lo) (hs : sepR out) (n:Int) : inR (addR out r) n ↔ inR out n ∨ (r.lo ≤ n ∧ n ≤ r.hi) := by
 by_cases h0 : out = []
 ·subst h0
  rw [addR_nil]
  simp [inR]
 ·obtain ⟨p, hp⟩ := snoc_of (l := out) (by have := List.length_pos_iff.2 h0; omega)
  generalize out[((out.length:Int) - 1).toNat]! = x at hp
  subst hp
  have hx := hs.2 x (by simp)
  have hlx := hl x (by simp)
  rw [addR_snoc]
  have app : ∀ (a b : List Run), inR (a ++ b) n ↔ inR a n ∨ inR b n := by
   intro a b
   unfold inR
   constructor
   ·rintro ⟨y, hy, h⟩
    rcases List.mem_append.1 hy with hy | hy
    ·exact .inl ⟨y, hy, h⟩
    ·exact .inr ⟨y, hy, h⟩
   ·rintro (⟨y, hy, h⟩ | ⟨y, hy, h⟩)
    ·exact ⟨y, List.mem_append.2 (.inl hy), h⟩
    ·exact ⟨y, List.mem_append.2 (.inr hy), h⟩
  have one : ∀ y : Run, inR [y] n ↔ (y.lo ≤ n ∧ n ≤ y.hi) := by intro y; simp [inR]
  split
  ·rw [app, app, one, one, or_assoc]
   refine or_congr_right ?_
   simp only
   omega
  ·rw [app, one]
theorem fold_props (l : List Run) : ∀ (out : List Run), sepR out → (∀ r ∈ l, good1 r) → l.Pairwise (fun x y => x.lo ≤ y.lo) → (∀ x ∈ out, ∀ r ∈ l, x.lo ≤ r.lo) →
  sepR (l.foldl addR out) ∧ ∀ n, inR (l.foldl addR out) n ↔ inR out n ∨ inR l n := by
 induction l with
 | nil => intro out h _ _ _; exact ⟨h, fun n => by simp [inR]⟩
 | cons r l ih =>
  intro out h hg hp hl
  rw [List.pairwise_cons] at hp
  have hlo : ∀ x ∈ addR out r, ∀ y ∈ l, x.lo ≤ y.lo := by
   intro x hx y hy
   have hy1 := hp.1 y hy
   unfold addR at hx
   split at hx
   ·rename_i hc
    rcases List.mem_or_eq_of_mem_set hx with hx | rfl
    ·have := hl x hx r (by simp); omega
    ·have := hl _ (bang_in (l := out) (i := ((out.length:Int) - 1).toNat) (by omega)) r (by simp)
     unfold lastR
     simp only
     omega
   ·rcases List.mem_append.1 hx with hx | hx
    ·have := hl x hx r (by simp); omega
    ·have : x = r := by simpa using hx
     subst this
     exact hy1
  obtain ⟨g1, g2⟩ := ih (addR out r) (addR_sep h (hg r (by simp))) (fun y hy => hg y (by simp [hy])) hp.2 hlo
  refine ⟨g1, fun n => ?_⟩
  rw [List.foldl_cons, g2 n, addR_in (fun x hx => hl x hx r (by simp)) h n, or_assoc]
  refine or_congr_right ?_
  simp [inR]
theorem unR_sep (ss : List (List Run)) : sepR (unR ss) := by
 have hg : ∀ r ∈ keepR ss.flatten, good1 r := keep_good
 exact (fold_props _ [] sepR_nil (sorted_good hg) (pdqR_rises _) (fun x hx => by cases hx)).1
theorem unR_in (ss : List (List Run)) (n:Int) : inR (unR ss) n ↔ 1 ≤ n ∧ n ≤ 1000000000 ∧ inR ss.flatten n := by
 have hg : ∀ r ∈ keepR ss.flatten, good1 r := keep_good
 have h := (fold_props _ [] sepR_nil (sorted_good hg) (pdqR_rises _) (fun x hx => by cases hx)).2 n
 unfold unR foldR
 rw [h]
 have hp := pdqR_perm (l := keepR ss.flatten) fun r hr => (hg r hr).1
 constructor
 ·rintro (⟨r, hr, _⟩ | ⟨r, hr, h1, h2⟩)
  ·cases hr
  ·have hr := hp.subset hr
   unfold keepR at hr
   obtain ⟨hr, _⟩ := List.mem_filter.1 hr
   obtain ⟨x, hx, rfl⟩ := List.mem_map.1 hr
   simp only [clipR] at h1 h2
   exact ⟨by omega, by omega, x, hx, by omega, by omega⟩
 ·rintro ⟨h1, h2, x, hx, h3, h4⟩
  refine .inr ⟨clipR x, hp.symm.subset ?_, ?_, ?_⟩
  ·unfold keepR
   refine List.mem_filter.2 ⟨List.mem_map.2 ⟨x, hx, rfl⟩, ?_⟩
   show decide ((clipR x).lo ≤ (clipR x).hi) = true
   rw [decide_eq_true_iff]
   show max x.lo 1 ≤ min x.hi 1000000000
   omega
  ·simp only [clipR]; omega
  ·simp only [clipR]; omega
theorem sepR_lo {l : List Run} (h : sepR l) : ∀ i : Nat, i < l.length → 2 * (i:Int) + 1 ≤ l[i]!.lo
 | 0, hi => by have := h.2 _ (bang_in hi); omega
 | i + 1, hi => by
  have h1 := sepR_lo h i (by omega)
  have h2 := List.pairwise_iff_getElem.1 h.1 i (i + 1) (by omega) hi (by omega)
  rw [← getElem!_pos l i (by omega), ← getElem!_pos l (i + 1) hi] at h2
  have h3 := h.2 _ (bang_in (l := l) (i := i) (by omega))
  omega
theorem sepR_len {l : List Run} (h : sepR l) : l.length ≤ 500000000 := by
 by_cases h0 : l.length = 0
 ·omega
 ·have h1 := sepR_lo h (l.length - 1) (by omega)
  have h2 := h.2 _ (bang_in (l := l) (i := l.length - 1) (by omega))
  omega
theorem nrm_sep (a : List Run) : sepR (nrm a) := unR_sep [a]
theorem nrm_in (a : List Run) (n:Int) : inR (nrm a) n ↔ 1 ≤ n ∧ n ≤ 1000000000 ∧ inR a n := by
 have := unR_in [a] n
 simpa [nrm] using this
theorem sep_unique : ∀ {a b : List Run}, sepR a → sepR b → (∀ n, inR a n ↔ inR b n) → a = b
 | [], [], _, _, _ => rfl
 | [], y :: b, _, hb, h => by
  have := hb.2 y (by simp)
  obtain ⟨r, hr, _⟩ := (h y.lo).2 ⟨y, by simp, by omega, by omega⟩
  cases hr
 | x :: a, [], ha, _, h => by
  have := ha.2 x (by simp)
  obtain ⟨r, hr, _⟩ := (h x.lo).1 ⟨x, by simp, by omega, by omega⟩
  cases hr
 | x :: a, y :: b, ha, hb, h => by
  have hx := ha.2 x (by simp)
  have hy := hb.2 y (by simp)
  have pa := List.pairwise_cons.1 ha.1
  have pb := List.pairwise_cons.1 hb.1
  have la : ∀ n, inR a n → x.hi + 1 < n := fun n ⟨r, hr, h1, _⟩ => by have := pa.1 r hr; omega
  have lb : ∀ n, inR b n → y.hi + 1 < n := fun n ⟨r, hr, h1, _⟩ => by have := pb.1 r hr; omega
  have ca : ∀ n, inR (x :: a) n ↔ (x.lo ≤ n ∧ n ≤ x.hi) ∨ inR a n := fun n => by simp [inR]
  have cb : ∀ n, inR (y :: b) n ↔ (y.lo ≤ n ∧ n ≤ y.hi) ∨ inR b n := fun n => by simp [inR]
  have e1 : x.lo = y.lo := by
   have h1 := (cb x.lo).1 ((h x.lo).1 ((ca x.lo).2 (.inl (by omega))))
   have h2 := (ca y.lo).1 ((h y.lo).2 ((cb y.lo).2 (.inl (by omega))))
   rcases h1 with h1 | h1
   ·rcases h2 with h2 | h2
    ·omega
    ·have := la _ h2; omega
   ·have := lb _ h1
    rcases h2 with h2 | h2
    ·omega
    ·have := la _ h2; omega
  have e2 : x.hi = y.hi := by
   have h1 := (cb x.hi).1 ((h x.hi).1 ((ca x.hi).2 (.inl (by omega))))
   have h2 := (ca y.hi).1 ((h y.hi).2 ((cb y.hi).2 (.inl (by omega))))
   have h3 : ¬ x.hi < y.hi := fun k => by
    have := (ca (x.hi + 1)).1 ((h (x.hi + 1)).2 ((cb (x.hi + 1)).2 (.inl (by omega))))
    rcases this with g | g
    ·omega
    ·have := la _ g; omega
   have h4 : ¬ y.hi < x.hi := fun k => by
    have := (cb (y.hi + 1)).1 ((h (y.hi + 1)).1 ((ca (y.hi + 1)).2 (.inl (by omega))))
    rcases this with g | g
    ·omega
    ·have := lb _ g; omega
   omega
  have e : x = y := by cases x; cases y; simp only at e1 e2; rw [e1, e2]
  subst e
  rw [sep_unique (a := a) (b := b) ⟨pa.2, fun r hr => ha.2 r (by simp [hr])⟩ ⟨pb.2, fun r hr => hb.2 r (by simp [hr])⟩ fun n => ?_]
  have := h n
  rw [ca, cb] at this
  constructor
  ·intro g
   have g1 := la n g
   rcases this.1 (.inr g) with k | k
   ·omega
   ·exact k
  ·intro g
   have g1 := lb n g
   rcases this.2 (.inr g) with k | k
   ·omega
   ·exact k
end Go.Proofs.YtaiepnaokhpmcaaGreat
namespace Go.Proofs.YtaiepnaokhpmcaaGreat
open Go.E
set_option maxRecDepth 100000
set_option maxHeartbeats 4000000
def leadT (T : Nat → List Run) (r:Nat) : Int := (leadR (nrm (T r))).1
def restT (T : Nat → List Run) (r:Nat) : List Span := (leadR (nrm (T r))).2.map fun x => ⟨r, x.lo, x.hi⟩
def szT (T : Nat → List Run) : Nat → Int
 | 0 => 0
 | n + 1 => if 0 < leadT T n then n + 1 else szT T n
def cloudT (T : Nat → List Run) : Nat → List Span
 | 0 => []
 | n + 1 => cloudT T n ++ restT T n
def vecT (T : Nat → List Run) (n:Nat) : List Int := (List.range n).map (leadT T) ++ List.replicate (16 - n) 0
def tabP (T : Nat → List Run) : Past := ⟨(vecT T 16).take (szT T 16).toNat, cloudT T 16⟩
def isSz (T : Nat → List Run) (r s:Int) : Prop := s = szT T r.toNat
def isVec (T : Nat → List Run) (r:Int) (v : List Int) : Prop := v = vecT T r.toNat
def isCloud (T : Nat → List Run) (r:Int) (c : List Span) : Prop := c = cloudT T r.toNat
def isCloud2 (T : Nat → List Run) (r j:Int) (c : List Span) : Prop := c = cloudT T r.toNat ++ (restT T r.toNat).take j.toNat
def inv81a (T : Nat → List Run) (s r:Int) (v : List Int) (c : List Span) : Prop := 0 ≤ r ∧ r ≤ 16 ∧ 0 ≤ s ∧ s ≤ r ∧ v.length = 16 ∧ isSz T r s ∧ isVec T r v ∧ isCloud T r c
def dec81a (s r:Int) (v : List Int) (c : List Span) : Nat := (16 - r).toNat
def inv81b (T : Nat → List Run) (r:Int) (w : List Int) (j:Int) (v : List Int) (c : List Span) : Prop := v = w ∧ 0 ≤ j ∧ j ≤ (leadR (nrm (T r.toNat))).2.length ∧ isCloud2 T r j c
def dec81b (T : Nat → List Run) (r:Int) (j:Int) (v : List Int) (c : List Span) : Nat := ((leadR (nrm (T r.toNat))).2.length - j).toNat
theorem rest_len (T : Nat → List Run) (r:Nat) : (leadR (nrm (T r))).2.length ≤ 500000000 := by
 have h := sepR_len (nrm_sep (T r))
 unfold leadR
 split
 ·exact h
 ·simp only [List.length_drop]; omega
theorem cloud_len (T : Nat → List Run) : ∀ n : Nat, (cloudT T n).length ≤ n * 500000000
 | 0 => by simp [cloudT]
 | n + 1 => by
  have h1 := cloud_len T n
  have h2 := rest_len T n
  rw [cloudT, List.length_append, restT, List.length_map]
  omega
theorem cloud2_len {T : Nat → List Run} {r j : Int} {c : List Span} (h0 : 0 ≤ r) (h1 : r < 16) (hc : isCloud2 T r j c) : c.length ≤ 8000000000 := by
 unfold isCloud2 at hc
 have h2 := cloud_len T r.toNat
 have h3 := rest_len T r.toNat
 rw [hc, List.length_append, List.length_take, restT, List.length_map]
 omega
theorem cloud2_start {T : Nat → List Run} {r : Int} {c : List Span} (hc : isCloud T r c) : isCloud2 T r 0 c := by
 unfold isCloud isCloud2 at *
 simpa using hc
theorem cloud2_next {T : Nat → List Run} {r j : Int} {c : List Span} (h0 : 0 ≤ r) (j0 : 0 ≤ j) (jl : j < (leadR (nrm (T r.toNat))).2.length) (hc : isCloud2 T r j c) :
  isCloud2 T r (j + 1) (c ++ [⟨r, ((leadR (nrm (T r.toNat))).2[j.toNat]!).lo, ((leadR (nrm (T r.toNat))).2[j.toNat]!).hi⟩]) := by
 unfold isCloud2 at *
 have hl : (j:Int) < (restT T r.toNat).length := by rw [restT, List.length_map]; exact jl
 rw [← take_step j0 hl, ← List.append_assoc, ← hc]
 have e : (restT T r.toNat)[j.toNat]! = ⟨r, ((leadR (nrm (T r.toNat))).2[j.toNat]!).lo, ((leadR (nrm (T r.toNat))).2[j.toNat]!).hi⟩ := by
  have hj : j.toNat < (leadR (nrm (T r.toNat))).2.length := by omega
  rw [getElem!_pos (restT T r.toNat) j.toNat (by omega), getElem!_pos (leadR (nrm (T r.toNat))).2 j.toNat hj]
  simp only [restT, List.getElem_map]
  congr 1
  omega
 rw [e]
theorem cloud_next {T : Nat → List Run} {r j : Int} {c : List Span} (h0 : 0 ≤ r) (jl : ¬ j < (leadR (nrm (T r.toNat))).2.length) (hc : isCloud2 T r j c) : isCloud T (r + 1) c := by
 unfold isCloud2 isCloud at *
 rw [hc, show (r + 1).toNat = r.toNat + 1 by omega, cloudT, List.take_of_length_le (by rw [restT, List.length_map]; omega)]
theorem vec_next {T : Nat → List Run} {r : Int} {v : List Int} (h0 : 0 ≤ r) (h1 : r < 16) (hv : isVec T r v) : isVec T (r + 1) (v.set r.toNat (leadR (nrm (T r.toNat))).1) := by
 unfold isVec at *
 rw [hv, show (r + 1).toNat = r.toNat + 1 by omega]
 unfold vecT
 generalize hn : r.toNat = n
 have hn' : n < 16 := by omega
 rw [List.set_append_right _ _ (by simp), List.length_map, List.length_range, Nat.sub_self, show 16 - n = (16 - (n + 1)) + 1 by omega, List.replicate_succ, List.set_cons_zero, List.range_succ, List.map_append, List.append_assoc]
 rfl
theorem sz_next {T : Nat → List Run} {r s : Int} (h0 : 0 ≤ r) (hs : isSz T r s) : isSz T (r + 1) (if 0 < (leadR (nrm (T r.toNat))).1 then r + 1 else s) := by
 unfold isSz at *
 rw [show (r + 1).toNat = r.toNat + 1 by omega, szT, leadT, hs]
 split
 ·omega
 ·rfl
theorem tab_end {T : Nat → List Run} {r s : Int} {v : List Int} {c : List Span} (h1 : r ≤ 16) (h : ¬ r < 16) (hs : isSz T r s) (hv : isVec T r v) (hc : isCloud T r c) : tabP T = ⟨v.take s.toNat, c⟩ := by
 unfold isSz isVec isCloud at *
 have : r.toNat = 16 := by omega
 rw [this] at hs hv hc
 unfold tabP
 rw [hs, hv, hc]
theorem con103 (t : Nat → List Run) (hb : ∀ r : Nat, r < 16 → (t r).length * 16 ≤ 140737488351232) : Con Tryz.prog 103 [.eptr (tabC c154 16 t)] (.agg (c26 (tabP t))) :=
 by
 refine st_con tab_ok (by kernel_rfl) [.cell 2 26] 59 Go.Proofs.Tryz.func103 (by kernel_rfl) (by kernel_rfl) ?_
 intro e0 cx
 refine sq ?_
 refine rg (A := True) cx [] [0, 2] [2] trivial ?_
 refine sn (sq ?_)
 refine rg (A := True) cx [] [0, 2, 3] [2, 3] trivial ?_
 refine sn (sq ?_)
 refine rg (A := ((16:Int) = (↑(16:Nat):Int)) ∧ ((16:Int) = (↑(16:Nat):Int)) ∧ ((8:Nat) * (16:Nat) ≤ (281474976710656:Nat)) ∧ ((16:Nat) ≤ maxLen) ∧ ([AV.i .i64 (0:Int)].length = (1:Nat)) ∧ (ZLe [AV.i .i64 (0:Int)] [AV.i .i64 (0:Int)]) ∧ (List.replicate (16:Nat) [AV.i .i64 (0:Int)] = List.map c3 (List.replicate (16:Nat) (0:Int)))) cx [(0, { row := [.i .i64 ((0:Int))], rows := some (List.map c3 (List.replicate (16:Nat) (0:Int))), n := (16:Nat) })] [0, 2, 3, 4] [2, 3, 11] ⟨(by kernel_rfl), (by kernel_rfl), (by omega), (by (simp only [Go.maxLen]; omega)), (by kernel_rfl), (by (with_reducible exact ZLe.refl _)), (by (with_reducible refine rep_map ?_; kernel_rfl))⟩ ?_
 refine sn (sq ?_)
 refine rg (A := True) cx [] [0, 2, 3, 4, 5] [2, 3, 11] trivial ?_
 refine sn (sq ?_)
 refine sq ?_
 refine rg (A := True) cx [] [0, 2, 3, 4, 5, 12] [2, 3, 11] trivial ?_
 refine sn ?_
 refine st_block 0 (by kernel_rfl) ?_
 refine awp_cellIn 3 104 3 1 5301 (σ' := ⟨[(0, .eptr (tabC c154 (16:Nat) t)), (2, .ptr (2) (0) (0) (0)), (3, .ptr (3) (0) (0) (0)), (4, .own 11 0), (5, .i .i64 ((0:Int))), (12, .i .i64 ((0:Int)))], [(2, ⟨0, 26, .var [.nl, .nl]⟩), (3, ⟨0, 26, .var [.nl, .own 5301 0]⟩), (11, ⟨0, 3, .row 1 (List.map c3 (List.replicate (16:Nat) (0:Int)))⟩), (5301, ⟨0, 104, .row 3 (List.map c104 [])⟩)]⟩) (by kernel_rfl) ?_
 refine st_loop (X := Int × Int × List Int × List Span) (fun x => ⟨[(0, .eptr (tabC c154 (16:Nat) t)), (2, .ptr (2) (0) (0) (0)), (3, .ptr (3) (0) (0) (0)), (4, .own 11 0), (5, .i .i64 (x.fst)), (12, .i .i64 (x.snd.fst))], [(2, ⟨0, 26, .var [.nl, .nl]⟩), (3, ⟨0, 26, .var [.nl, .own 5301 0]⟩), (11, ⟨0, 3, .row 1 (List.map c3 x.snd.snd.fst)⟩), (5301, ⟨0, 104, .row 3 (List.map c104 x.snd.snd.snd)⟩)]⟩) (fun x ↦ dec81a x.fst x.snd.fst x.snd.snd.fst x.snd.snd.snd) (fun x ↦ inv81a t x.fst x.snd.fst x.snd.snd.fst x.snd.snd.snd) [0, 2, 3, 4, 5, 12] [2, 3, 11, 5301] (((0:Int), (0:Int), List.replicate (16:Nat) (0:Int), [])) (by kernel_rfl) (by kernel_rfl) (show inv81a t (0:Int) (0:Int) (List.replicate (16:Nat) (0:Int)) [] from ?g0) ?_; rotate_left 1
 rintro ⟨s_0, r_1, v_2, c_3⟩ h_4
 obtain ⟨h_5, h_6, h_7, h_8, h_9, h_10, h_11, h_12⟩ : (0:Int) ≤ r_1 ∧ r_1 ≤ (16:Int) ∧ (0:Int) ≤ s_0 ∧ s_0 ≤ r_1 ∧ v_2.length = (16:Nat) ∧ isSz t r_1 s_0 ∧ isVec t r_1 v_2 ∧ isCloud t r_1 c_3 := h_4
 refine sq ?_
 refine rg (A := (AV.b (decide (r_1 < (16:Int))) = AV.b (decide (r_1 < (16:Int))))) cx [(0, { tell := some (.b (decide (r_1 < (16:Int)))) })] [0, 2, 3, 4, 5, 12, 13] [2, 3, 11, 5301] (by kernel_rfl) ?_
 refine sn (sq ?_)
 refine st_dec (r_1 < (16:Int)) (by kernel_rfl) (by kernel_rfl) (fun h_13 => ?_) (fun h_13 => ?_)
 refine st_skip (by kernel_rfl) ?_
 refine sn (sq ?_)
 refine st_block 1 (by kernel_rfl) ?_
 refine sq ?_
 refine rg (A := True) cx [] [0, 2, 3, 4, 5, 12, 6] [2, 3, 11, 5301] trivial ?_
 refine sn (sq ?_)
 have hl_14 := (rng_nrm (t r_1.toNat))
 refine rg (A := ((0:Int) ≤ r_1) ∧ (r_1 < (↑(16:Nat):Int)) ∧ ((List.drop (r_1.toNat * (1:Nat)) (tabC c154 (16:Nat) t))[(0:Nat)]? = some (AV.sl (List.map c154 (t r_1.toNat)))) ∧ _) cx [(4, { row := [.sl (List.map c154 (t r_1.toNat))] }), (5, { val := some (.tup [.i .i64 ((leadR (nrm (t r_1.toNat))).fst), .sl (List.map c154 (leadR (nrm (t r_1.toNat))).snd)]) })] [0, 2, 3, 4, 5, 12, 6, 7, 8] [2, 3, 11, 5301] ⟨(by (with_reducible assumption)), (by omega), (by (exact get_tabC_drop (by omega))), (con147 (t r_1.toNat) ?g1)⟩ ?_; rotate_left 1
 refine sn (sq ?_)
 refine rg (A := ((0:Int) ≤ r_1) ∧ (r_1.toNat < (List.map c3 v_2).length) ∧ ((1:Nat) = 1) ∧ ((List.map c3 v_2)[r_1.toNat]? = some (c3 v_2[r_1.toNat]!)) ∧ ((cellsA (AV.i .i64 (leadR (nrm (t r_1.toNat))).fst)).length = (1:Nat)) ∧ (0 + (1:Nat) ≤ 1) ∧ ((List.map c3 v_2).set r_1.toNat (List.take (0) (c3 v_2[r_1.toNat]!) ++ cellsA (AV.i .i64 (leadR (nrm (t r_1.toNat))).fst) ++ List.drop (0 + (1:Nat)) (c3 v_2[r_1.toNat]!)) = List.map c3 (v_2.set r_1.toNat (leadR (nrm (t r_1.toNat))).fst))) cx [(4, { row := (c3 v_2[r_1.toNat]!), rows := some (List.map c3 (v_2.set r_1.toNat (leadR (nrm (t r_1.toNat))).fst)) })] [0, 2, 3, 4, 5, 12, 6, 7, 8] [2, 3, 11, 5301] ⟨(by (with_reducible assumption)), (by (first | omega | (simp only [List.length_map]; omega))), (by kernel_rfl), (by (with_reducible refine get_map ?_; omega)), (by kernel_rfl), (by (first | omega | (simp only [List.length_map]; omega))), (by (with_reducible refine set_map ?_; kernel_rfl))⟩ ?_
 refine sn (sq ?_)
 refine sq ?_
 refine rg (A := (AV.b (decide ((leadR (nrm (t r_1.toNat))).fst > (0:Int))) = AV.b (decide ((0:Int) < (leadR (nrm (t r_1.toNat))).fst)))) cx [(1, { tell := some (.b (decide ((0:Int) < (leadR (nrm (t r_1.toNat))).fst))) })] [0, 2, 3, 4, 5, 12, 6, 8, 29] [2, 3, 11, 5301] (by kernel_rfl) ?_
 refine sn ?_
 refine st_dec ((0:Int) < (leadR (nrm (t r_1.toNat))).fst) (by kernel_rfl) (by kernel_rfl) (fun h_15 => ?_) (fun h_15 => ?_)
 refine rg (A := (AV.i .i64 (IntKind.i64.wrap (r_1 + (1:Int))) = AV.i .i64 (r_1 + (1:Int)))) cx [(1, { tell := some (.i .i64 (r_1 + (1:Int))) })] [0, 2, 3, 4, 5, 12, 6, 8] [2, 3, 11, 5301] (told_i64 (by omega) (by omega)) ?_
 refine sn (sq ?_)
 refine rg (A := _) cx [(1, { tell := some (.i .i64 ((↑(leadR (nrm (t r_1.toNat))).snd.length:Int))) })] [0, 2, 3, 4, 5, 12, 6, 32, 33, 34] [2, 3, 11, 5301] (told_len c154 (leadR (nrm (t r_1.toNat))).snd) ?_
 refine sn ?_
 refine st_block 2 (by kernel_rfl) ?_
 refine st_loop (X := Int × List Int × List Span) (fun x => ⟨[(0, .eptr (tabC c154 (16:Nat) t)), (2, .ptr (2) (0) (0) (0)), (3, .ptr (3) (0) (0) (0)), (4, .own 11 0), (5, .i .i64 (r_1 + (1:Int))), (12, .i .i64 (r_1)), (6, .i .i64 (r_1)), (32, .sl (List.map c154 (leadR (nrm (t r_1.toNat))).snd)), (33, .i .i64 ((↑(leadR (nrm (t r_1.toNat))).snd.length:Int))), (34, .i .i64 (x.fst))], [(2, ⟨0, 26, .var [.nl, .nl]⟩), (3, ⟨0, 26, .var [.nl, .own 5301 0]⟩), (11, ⟨0, 3, .row 1 (List.map c3 x.snd.fst)⟩), (5301, ⟨0, 104, .row 3 (List.map c104 x.snd.snd)⟩)]⟩) (fun x ↦ dec81b t r_1 x.fst x.snd.fst x.snd.snd) (fun x ↦ inv81b t r_1 (v_2.set r_1.toNat (leadR (nrm (t r_1.toNat))).fst) x.fst x.snd.fst x.snd.snd) [0, 2, 3, 4, 5, 12, 6, 32, 33, 34] [2, 3, 11, 5301] (((0:Int), v_2.set r_1.toNat (leadR (nrm (t r_1.toNat))).fst, c_3)) (by kernel_rfl) (by kernel_rfl) (show inv81b t r_1 (v_2.set r_1.toNat (leadR (nrm (t r_1.toNat))).fst) (0:Int) (v_2.set r_1.toNat (leadR (nrm (t r_1.toNat))).fst) c_3 from ?g2) ?_; rotate_left 1
 rintro ⟨j_16, v_17, c_18⟩ h_19
 obtain ⟨h_20, h_21, h_22, h_23⟩ : v_17 = v_2.set r_1.toNat (leadR (nrm (t r_1.toNat))).fst ∧ (0:Int) ≤ j_16 ∧ j_16 ≤ (↑(leadR (nrm (t r_1.toNat))).snd.length:Int) ∧ isCloud2 t r_1 j_16 c_18 := h_19
 refine sq ?_
 refine rg (A := (AV.b (decide (j_16 < (↑(leadR (nrm (t r_1.toNat))).snd.length:Int))) = AV.b (decide (j_16 < (↑(leadR (nrm (t r_1.toNat))).snd.length:Int))))) cx [(0, { tell := some (.b (decide (j_16 < (↑(leadR (nrm (t r_1.toNat))).snd.length:Int)))) })] [0, 2, 3, 4, 5, 12, 6, 32, 33, 34, 35] [2, 3, 11, 5301] (by kernel_rfl) ?_
 refine sn (sq ?_)
 refine st_dec (j_16 < (↑(leadR (nrm (t r_1.toNat))).snd.length:Int)) (by kernel_rfl) (by kernel_rfl) (fun h_24 => ?_) (fun h_24 => ?_)
 refine st_skip (by kernel_rfl) ?_
 refine sn (sq ?_)
 refine st_block 3 (by kernel_rfl) ?_
 refine sq ?_
 refine rg (A := ((0:Int) ≤ j_16) ∧ ((List.map c154 (leadR (nrm (t r_1.toNat))).snd)[j_16.toNat]? = some (c154 (leadR (nrm (t r_1.toNat))).snd[j_16.toNat]!)) ∧ ((c154 (leadR (nrm (t r_1.toNat))).snd[j_16.toNat]!).length = (2:Nat)) ∧ ((2:Nat) ≤ [AV.i .i64 (leadR (nrm (t r_1.toNat))).snd[j_16.toNat]!.lo, AV.i .i64 (leadR (nrm (t r_1.toNat))).snd[j_16.toNat]!.hi].length)) cx [(0, { row := (c154 (leadR (nrm (t r_1.toNat))).snd[j_16.toNat]!) })] [0, 2, 3, 4, 5, 12, 6, 32, 33, 34, 10] [2, 3, 11, 5301, 10] ⟨(by (with_reducible assumption)), (by (with_reducible refine get_map ?_; omega)), (by kernel_rfl), (by (simp only [List.length_append, List.length_cons, List.length_nil]; omega))⟩ ?_
 refine sn ?_
 refine rg (A := (104 = (104:Nat)) ∧ ((3:Nat) = 3) ∧ ([AV.i .i64 (0:Int), AV.i .i64 (0:Int), AV.i .i64 (0:Int)].length = (3:Nat)) ∧ (∀ (r : List AV), r ∈ List.map c104 [{ rep := r_1, lo := (leadR (nrm (t r_1.toNat))).snd[j_16.toNat]!.lo, hi := (leadR (nrm (t r_1.toNat))).snd[j_16.toNat]!.hi : Span }] → r.length = 3) ∧ ((List.map c104 c_18).length + (List.map c104 [{ rep := r_1, lo := (leadR (nrm (t r_1.toNat))).snd[j_16.toNat]!.lo, hi := (leadR (nrm (t r_1.toNat))).snd[j_16.toNat]!.hi : Span }]).length ≤ maxLen) ∧ (((List.map c104 c_18).length + (List.map c104 [{ rep := r_1, lo := (leadR (nrm (t r_1.toNat))).snd[j_16.toNat]!.lo, hi := (leadR (nrm (t r_1.toNat))).snd[j_16.toNat]!.hi : Span }]).length) * (24:Nat) ≤ (140737488355328:Nat)) ∧ (List.map c104 c_18 ++ List.map c104 [{ rep := r_1, lo := (leadR (nrm (t r_1.toNat))).snd[j_16.toNat]!.lo, hi := (leadR (nrm (t r_1.toNat))).snd[j_16.toNat]!.hi : Span }] = List.map c104 (c_18 ++ [{ rep := r_1, lo := (leadR (nrm (t r_1.toNat))).snd[j_16.toNat]!.lo, hi := (leadR (nrm (t r_1.toNat))).snd[j_16.toNat]!.hi : Span }]))) cx [(9, { rows := some (List.map c104 (c_18 ++ [{ rep := r_1, lo := (leadR (nrm (t r_1.toNat))).snd[j_16.toNat]!.lo, hi := (leadR (nrm (t r_1.toNat))).snd[j_16.toNat]!.hi : Span }])) })] [0, 2, 3, 4, 5, 12, 6, 32, 33, 34] [2, 3, 11, 5301] ⟨(by kernel_rfl), (by kernel_rfl), (by kernel_rfl), (by (with_reducible refine len_map (fun _ => ?_) _; kernel_rfl)), ?g3, ?g4, (by (with_reducible refine app_map ?_; kernel_rfl))⟩ ?_; rotate_left 2
 refine q_blk_normal ?_
 refine sn ?_
 refine rg (A := (AV.i .i64 (IntKind.i64.wrap (j_16 + (1:Int))) = AV.i .i64 (j_16 + (1:Int)))) cx [(0, { tell := some (.i .i64 (j_16 + (1:Int))) })] [0, 2, 3, 4, 5, 12, 6, 32, 33, 34] [2, 3, 11, 5301] (told_i64 (by omega) ?g5) ?_; rotate_left 1
 refine sn ?_
 refine loop_next ((j_16 + (1:Int), v_17, c_18 ++ [{ rep := r_1, lo := (leadR (nrm (t r_1.toNat))).snd[j_16.toNat]!.lo, hi := (leadR (nrm (t r_1.toNat))).snd[j_16.toNat]!.hi : Span }])) (by kernel_rfl) (show ((↑(leadR (nrm (t r_1.toNat))).snd.length:Int) - (j_16 + (1:Int))).toNat < ((↑(leadR (nrm (t r_1.toNat))).snd.length:Int) - j_16).toNat from (by omega)) (show inv81b t r_1 (v_2.set r_1.toNat (leadR (nrm (t r_1.toNat))).fst) (j_16 + (1:Int)) v_17 (c_18 ++ [{ rep := r_1, lo := (leadR (nrm (t r_1.toNat))).snd[j_16.toNat]!.lo, hi := (leadR (nrm (t r_1.toNat))).snd[j_16.toNat]!.hi : Span }]) from ?g6); rotate_left 1
 refine st_exit 2 (by kernel_rfl) ?_
 refine q_seq_exit ?_
 refine q_seq_exit ?_
 refine q_blk_hit ?_
 refine q_blk_normal ?_
 refine sn ?_
 refine rg (A := (AV.i .i64 (IntKind.i64.wrap (r_1 + (1:Int))) = AV.i .i64 (r_1 + (1:Int)))) cx [(0, { tell := some (.i .i64 (r_1 + (1:Int))) })] [0, 2, 3, 4, 5, 12] [2, 3, 11, 5301] (told_i64 (by omega) (by omega)) ?_
 refine sn ?_
 refine loop_next ((r_1 + (1:Int), r_1 + (1:Int), v_17, c_18)) (by kernel_rfl) (show ((16:Int) - (r_1 + (1:Int))).toNat < ((16:Int) - r_1).toNat from (by omega)) (show inv81a t (r_1 + (1:Int)) (r_1 + (1:Int)) v_17 c_18 from ?g7); rotate_left 1
 refine st_skip (by kernel_rfl) ?_
 refine sn (sq ?_)
 refine rg (A := _) cx [(1, { tell := some (.i .i64 ((↑(leadR (nrm (t r_1.toNat))).snd.length:Int))) })] [0, 2, 3, 4, 5, 12, 6, 32, 33, 34] [2, 3, 11, 5301] (told_len c154 (leadR (nrm (t r_1.toNat))).snd) ?_
 refine sn ?_
 refine st_block 2 (by kernel_rfl) ?_
 refine st_loop (X := Int × List Int × List Span) (fun x => ⟨[(0, .eptr (tabC c154 (16:Nat) t)), (2, .ptr (2) (0) (0) (0)), (3, .ptr (3) (0) (0) (0)), (4, .own 11 0), (5, .i .i64 (s_0)), (12, .i .i64 (r_1)), (6, .i .i64 (r_1)), (32, .sl (List.map c154 (leadR (nrm (t r_1.toNat))).snd)), (33, .i .i64 ((↑(leadR (nrm (t r_1.toNat))).snd.length:Int))), (34, .i .i64 (x.fst))], [(2, ⟨0, 26, .var [.nl, .nl]⟩), (3, ⟨0, 26, .var [.nl, .own 5301 0]⟩), (11, ⟨0, 3, .row 1 (List.map c3 x.snd.fst)⟩), (5301, ⟨0, 104, .row 3 (List.map c104 x.snd.snd)⟩)]⟩) (fun x ↦ dec81b t r_1 x.fst x.snd.fst x.snd.snd) (fun x ↦ inv81b t r_1 (v_2.set r_1.toNat (leadR (nrm (t r_1.toNat))).fst) x.fst x.snd.fst x.snd.snd) [0, 2, 3, 4, 5, 12, 6, 32, 33, 34] [2, 3, 11, 5301] (((0:Int), v_2.set r_1.toNat (leadR (nrm (t r_1.toNat))).fst, c_3)) (by kernel_rfl) (by kernel_rfl) (show inv81b t r_1 (v_2.set r_1.toNat (leadR (nrm (t r_1.toNat))).fst) (0:Int) (v_2.set r_1.toNat (leadR (nrm (t r_1.toNat))).fst) c_3 from ?g8) ?_; rotate_left 1
 rintro ⟨j_25, v_26, c_27⟩ h_28
 obtain ⟨h_29, h_30, h_31, h_32⟩ : v_26 = v_2.set r_1.toNat (leadR (nrm (t r_1.toNat))).fst ∧ (0:Int) ≤ j_25 ∧ j_25 ≤ (↑(leadR (nrm (t r_1.toNat))).snd.length:Int) ∧ isCloud2 t r_1 j_25 c_27 := h_28
 refine sq ?_
 refine rg (A := (AV.b (decide (j_25 < (↑(leadR (nrm (t r_1.toNat))).snd.length:Int))) = AV.b (decide (j_25 < (↑(leadR (nrm (t r_1.toNat))).snd.length:Int))))) cx [(0, { tell := some (.b (decide (j_25 < (↑(leadR (nrm (t r_1.toNat))).snd.length:Int)))) })] [0, 2, 3, 4, 5, 12, 6, 32, 33, 34, 35] [2, 3, 11, 5301] (by kernel_rfl) ?_
 refine sn (sq ?_)
 refine st_dec (j_25 < (↑(leadR (nrm (t r_1.toNat))).snd.length:Int)) (by kernel_rfl) (by kernel_rfl) (fun h_33 => ?_) (fun h_33 => ?_)
 refine st_skip (by kernel_rfl) ?_
 refine sn (sq ?_)
 refine st_block 3 (by kernel_rfl) ?_
 refine sq ?_
 refine rg (A := ((0:Int) ≤ j_25) ∧ ((List.map c154 (leadR (nrm (t r_1.toNat))).snd)[j_25.toNat]? = some (c154 (leadR (nrm (t r_1.toNat))).snd[j_25.toNat]!)) ∧ ((c154 (leadR (nrm (t r_1.toNat))).snd[j_25.toNat]!).length = (2:Nat)) ∧ ((2:Nat) ≤ [AV.i .i64 (leadR (nrm (t r_1.toNat))).snd[j_25.toNat]!.lo, AV.i .i64 (leadR (nrm (t r_1.toNat))).snd[j_25.toNat]!.hi].length)) cx [(0, { row := (c154 (leadR (nrm (t r_1.toNat))).snd[j_25.toNat]!) })] [0, 2, 3, 4, 5, 12, 6, 32, 33, 34, 10] [2, 3, 11, 5301, 10] ⟨(by (with_reducible assumption)), (by (with_reducible refine get_map ?_; omega)), (by kernel_rfl), (by (simp only [List.length_append, List.length_cons, List.length_nil]; omega))⟩ ?_
 refine sn ?_
 refine rg (A := (104 = (104:Nat)) ∧ ((3:Nat) = 3) ∧ ([AV.i .i64 (0:Int), AV.i .i64 (0:Int), AV.i .i64 (0:Int)].length = (3:Nat)) ∧ (∀ (r : List AV), r ∈ List.map c104 [{ rep := r_1, lo := (leadR (nrm (t r_1.toNat))).snd[j_25.toNat]!.lo, hi := (leadR (nrm (t r_1.toNat))).snd[j_25.toNat]!.hi : Span }] → r.length = 3) ∧ ((List.map c104 c_27).length + (List.map c104 [{ rep := r_1, lo := (leadR (nrm (t r_1.toNat))).snd[j_25.toNat]!.lo, hi := (leadR (nrm (t r_1.toNat))).snd[j_25.toNat]!.hi : Span }]).length ≤ maxLen) ∧ (((List.map c104 c_27).length + (List.map c104 [{ rep := r_1, lo := (leadR (nrm (t r_1.toNat))).snd[j_25.toNat]!.lo, hi := (leadR (nrm (t r_1.toNat))).snd[j_25.toNat]!.hi : Span }]).length) * (24:Nat) ≤ (140737488355328:Nat)) ∧ (List.map c104 c_27 ++ List.map c104 [{ rep := r_1, lo := (leadR (nrm (t r_1.toNat))).snd[j_25.toNat]!.lo, hi := (leadR (nrm (t r_1.toNat))).snd[j_25.toNat]!.hi : Span }] = List.map c104 (c_27 ++ [{ rep := r_1, lo := (leadR (nrm (t r_1.toNat))).snd[j_25.toNat]!.lo, hi := (leadR (nrm (t r_1.toNat))).snd[j_25.toNat]!.hi : Span }]))) cx [(9, { rows := some (List.map c104 (c_27 ++ [{ rep := r_1, lo := (leadR (nrm (t r_1.toNat))).snd[j_25.toNat]!.lo, hi := (leadR (nrm (t r_1.toNat))).snd[j_25.toNat]!.hi : Span }])) })] [0, 2, 3, 4, 5, 12, 6, 32, 33, 34] [2, 3, 11, 5301] ⟨(by kernel_rfl), (by kernel_rfl), (by kernel_rfl), (by (with_reducible refine len_map (fun _ => ?_) _; kernel_rfl)), ?g9, ?g10, (by (with_reducible refine app_map ?_; kernel_rfl))⟩ ?_; rotate_left 2
 refine q_blk_normal ?_
 refine sn ?_
 refine rg (A := (AV.i .i64 (IntKind.i64.wrap (j_25 + (1:Int))) = AV.i .i64 (j_25 + (1:Int)))) cx [(0, { tell := some (.i .i64 (j_25 + (1:Int))) })] [0, 2, 3, 4, 5, 12, 6, 32, 33, 34] [2, 3, 11, 5301] (told_i64 (by omega) ?g11) ?_; rotate_left 1
 refine sn ?_
 refine loop_next ((j_25 + (1:Int), v_26, c_27 ++ [{ rep := r_1, lo := (leadR (nrm (t r_1.toNat))).snd[j_25.toNat]!.lo, hi := (leadR (nrm (t r_1.toNat))).snd[j_25.toNat]!.hi : Span }])) (by kernel_rfl) (show ((↑(leadR (nrm (t r_1.toNat))).snd.length:Int) - (j_25 + (1:Int))).toNat < ((↑(leadR (nrm (t r_1.toNat))).snd.length:Int) - j_25).toNat from (by omega)) (show inv81b t r_1 (v_2.set r_1.toNat (leadR (nrm (t r_1.toNat))).fst) (j_25 + (1:Int)) v_26 (c_27 ++ [{ rep := r_1, lo := (leadR (nrm (t r_1.toNat))).snd[j_25.toNat]!.lo, hi := (leadR (nrm (t r_1.toNat))).snd[j_25.toNat]!.hi : Span }]) from ?g12); rotate_left 1
 refine st_exit 2 (by kernel_rfl) ?_
 refine q_seq_exit ?_
 refine q_seq_exit ?_
 refine q_blk_hit ?_
 refine q_blk_normal ?_
 refine sn ?_
 refine rg (A := (AV.i .i64 (IntKind.i64.wrap (r_1 + (1:Int))) = AV.i .i64 (r_1 + (1:Int)))) cx [(0, { tell := some (.i .i64 (r_1 + (1:Int))) })] [0, 2, 3, 4, 5, 12] [2, 3, 11, 5301] (told_i64 (by omega) (by omega)) ?_
 refine sn ?_
 refine loop_next ((s_0, r_1 + (1:Int), v_26, c_27)) (by kernel_rfl) (show ((16:Int) - (r_1 + (1:Int))).toNat < ((16:Int) - r_1).toNat from (by omega)) (show inv81a t s_0 (r_1 + (1:Int)) v_26 c_27 from ?g13); rotate_left 1
 refine st_exit 0 (by kernel_rfl) ?_
 refine q_seq_exit ?_
 refine q_seq_exit ?_
 refine q_blk_hit ?_
 refine sn (sq ?_)
 refine sq ?_
 refine rg (A := (AV.b (decide (s_0 > (0:Int))) = AV.b (decide ((0:Int) < s_0)))) cx [(1, { tell := some (.b (decide ((0:Int) < s_0))) })] [2, 3, 4, 5, 52] [2, 3, 11, 5301] (by kernel_rfl) ?_
 refine sn ?_
 refine st_dec ((0:Int) < s_0) (by kernel_rfl) (by kernel_rfl) (fun h_34 => ?_) (fun h_34 => ?_)
 refine rg (A := ((0:Int) ≤ (0:Int)) ∧ ((0:Int) ≤ s_0) ∧ (s_0 ≤ (↑(List.map c3 v_2).length:Int)) ∧ ((0:Int) < (↑(List.map c3 v_2).length:Int)) ∧ (Option.map TI.size (E.look tab (3:Nat)) = some (1)) ∧ (ConB Tryz.prog (148:Nat) [AV.sl (List.take (s_0 - (0:Int)).toNat (List.drop (0) (List.map c3 v_2)))] (3:Nat) (BK.row (1:Nat) (List.map c3 (List.take (s_0 - (0:Int)).toNat (List.drop (0) v_2)))))) cx [(3, { val := some (.own (3:Nat) (1:Nat)), rows := some (List.map c3 (List.take (s_0 - (0:Int)).toNat (List.drop (0) v_2))) })] [2, 3] [2, 3, 5301, 56] ⟨(by omega), (by (with_reducible assumption)), (by (first | omega | (simp only [List.length_map]; omega))), (by (first | omega | (simp only [List.length_map]; omega))), (by kernel_rfl), (ConB.le (con148 (List.take (s_0 - (0:Int)).toNat (List.drop (0) v_2)) ?g14) (ZLe.cons (AVle.eq (by simp only [List.map_take, List.map_drop])) ZLe.nil))⟩ ?_; rotate_left 1
 refine sn (sq ?_)
 refine awp_norm [56, 5301] [2, 3] [2, 3] (σ' := ⟨[(2, .ptr (2) (0) (0) (0)), (3, .ptr (3) (0) (0) (0))], [(2, ⟨0, 26, .var [.nl, .nl]⟩), (3, ⟨0, 26, .var [.sl (((E.look [(3, { val := some (AV.own (3:Nat) (1:Nat)), rows := some (List.map c3 (List.take (s_0 - (0:Int)).toNat (List.drop (0) v_2))) : Ov })] (3)).getD { : Ov }).rows.getD []), .sl (List.map c104 c_3)]⟩)]⟩) (by kernel_rfl) ?_
 refine rg (A := True) cx [] [2] [2, 3] trivial ?_
 refine sn ?_
 refine st_ret (by kernel_rfl) ?_
 refine q_ret (r := .agg [.sl (((E.look [(3, { val := some (AV.own (3:Nat) (1:Nat)), rows := some (List.map c3 (List.take (s_0 - (0:Int)).toNat (List.drop (0) v_2))) : Ov })] (3)).getD { : Ov }).rows.getD []), .sl (List.map c104 c_3)]) (obl := []) (by kernel_rfl) trivial (AVle.eq (show AV.agg [AV.sl (((E.look [(3, { val := some (AV.own (3:Nat) (1:Nat)), rows := some (List.map c3 (List.take (s_0 - (0:Int)).toNat (List.drop (0) v_2))) : Ov })] (3)).getD { : Ov }).rows.getD []), AV.sl (List.map c104 c_3)] = AV.agg (c26 (tabP t)) from ?g15)); rotate_left 1
 refine st_skip (by kernel_rfl) ?_
 refine sn (sq ?_)
 refine awp_norm [5301] [2, 3, 4, 5, 52] [2, 3, 11] (σ' := ⟨[(2, .ptr (2) (0) (0) (0)), (3, .ptr (3) (0) (0) (0)), (4, .own 11 0), (5, .i .i64 (s_0)), (52, .b (decide ((0:Int) < s_0)))], [(2, ⟨0, 26, .var [.nl, .nl]⟩), (3, ⟨0, 26, .var [.nl, .sl (List.map c104 c_3)]⟩), (11, ⟨0, 3, .row 1 (List.map c3 v_2)⟩)]⟩) (by kernel_rfl) ?_
 refine rg (A := True) cx [] [2] [2] trivial ?_
 refine sn ?_
 refine st_ret (by kernel_rfl) ?_
 refine q_ret (r := .agg [.nl, .sl (List.map c104 c_3)]) (obl := []) (by kernel_rfl) trivial (AVle.agg (ZLe.cons (AVle.nl' (show List.map c3 (tabP t).vec = [] from ?g17)) (ZLe.cons (AVle.eq (show AV.sl (List.map c104 c_3) = AV.sl (List.map c104 (tabP t).cloud) from ?g16)) ZLe.nil))); rotate_left 2
 rotate_left
 clear hl_14; revert s_0 r_1 v_2 c_3 h_5 h_6 h_7 h_8 h_9 h_10 h_11 h_12 h_13; rotate_left
 clear hl_14; revert s_0 r_1 v_2 c_3 h_5 h_6 h_7 h_8 h_9 h_10 h_11 h_12 h_13 h_15; rotate_left
 clear hl_14; revert s_0 r_1 v_2 c_3 h_5 h_6 h_7 h_8 h_9 h_10 h_11 h_12 h_13 h_15 j_16 v_17 c_18 h_20 h_21 h_22 h_23 h_24; rotate_left
 clear hl_14; revert s_0 r_1 v_2 c_3 h_5 h_6 h_7 h_8 h_9 h_10 h_11 h_12 h_13 h_15 j_16 v_17 c_18 h_20 h_21 h_22 h_23 h_24; rotate_left
 clear hl_14; revert s_0 r_1 v_2 c_3 h_5 h_6 h_7 h_8 h_9 h_10 h_11 h_12 h_13 h_15 j_16 v_17 c_18 h_20 h_21 h_22 h_23 h_24; rotate_left
 clear hl_14; revert s_0 r_1 v_2 c_3 h_5 h_6 h_7 h_8 h_9 h_10 h_11 h_12 h_13 h_15 j_16 v_17 c_18 h_20 h_21 h_22 h_23 h_24; rotate_left
 clear hl_14; revert s_0 r_1 v_2 c_3 h_5 h_6 h_7 h_8 h_9 h_10 h_11 h_12 h_13 h_15 j_16 v_17 c_18 h_20 h_21 h_22 h_23 h_24; rotate_left
 clear hl_14; revert s_0 r_1 v_2 c_3 h_5 h_6 h_7 h_8 h_9 h_10 h_11 h_12 h_13 h_15; rotate_left
 clear hl_14; revert s_0 r_1 v_2 c_3 h_5 h_6 h_7 h_8 h_9 h_10 h_11 h_12 h_13 h_15 j_25 v_26 c_27 h_29 h_30 h_31 h_32 h_33; rotate_left
 clear hl_14; revert s_0 r_1 v_2 c_3 h_5 h_6 h_7 h_8 h_9 h_10 h_11 h_12 h_13 h_15 j_25 v_26 c_27 h_29 h_30 h_31 h_32 h_33; rotate_left
 clear hl_14; revert s_0 r_1 v_2 c_3 h_5 h_6 h_7 h_8 h_9 h_10 h_11 h_12 h_13 h_15 j_25 v_26 c_27 h_29 h_30 h_31 h_32 h_33; rotate_left
 clear hl_14; revert s_0 r_1 v_2 c_3 h_5 h_6 h_7 h_8 h_9 h_10 h_11 h_12 h_13 h_15 j_25 v_26 c_27 h_29 h_30 h_31 h_32 h_33; rotate_left
 clear hl_14; revert s_0 r_1 v_2 c_3 h_5 h_6 h_7 h_8 h_9 h_10 h_11 h_12 h_13 h_15 j_25 v_26 c_27 h_29 h_30 h_31 h_32 h_33; rotate_left
 revert s_0 r_1 v_2 c_3 h_5 h_6 h_7 h_8 h_9 h_10 h_11 h_12 h_13 h_34; rotate_left
 revert s_0 r_1 v_2 c_3 h_5 h_6 h_7 h_8 h_9 h_10 h_11 h_12 h_13 h_34; rotate_left
 revert s_0 r_1 v_2 c_3 h_5 h_6 h_7 h_8 h_9 h_10 h_11 h_12 h_13 h_34; rotate_left
 revert s_0 r_1 v_2 c_3 h_5 h_6 h_7 h_8 h_9 h_10 h_11 h_12 h_13 h_34; rotate_left
 case g0 => exact ⟨by omega, by omega, by omega, by omega, by simp, rfl, by simp [isVec, vecT], rfl⟩
 case g1 => intro s r v c h0 h1 h2 h3 h4 h5 h6 h7 h8; exact hb _ (by omega)
 case g2 => intro s r v c h0 h1 h2 h3 h4 h5 h6 h7 h8 h9; exact ⟨rfl, by omega, by omega, cloud2_start h7⟩
 case g8 => intro s r v c h0 h1 h2 h3 h4 h5 h6 h7 h8 h9; exact ⟨rfl, by omega, by omega, cloud2_start h7⟩
 case g3 => intro s r v c h0 h1 h2 h3 h4 h5 h6 h7 h8 h9 j w d k0 k1 k2 k3 k4; have := cloud2_len h0 h8 k3; simp only [List.length_map, List.length_cons, List.length_nil, Go.maxLen]; omega
 case g9 => intro s r v c h0 h1 h2 h3 h4 h5 h6 h7 h8 h9 j w d k0 k1 k2 k3 k4; have := cloud2_len h0 h8 k3; simp only [List.length_map, List.length_cons, List.length_nil, Go.maxLen]; omega
 case g4 => intro s r v c h0 h1 h2 h3 h4 h5 h6 h7 h8 h9 j w d k0 k1 k2 k3 k4; have := cloud2_len h0 h8 k3; simp only [List.length_map, List.length_cons, List.length_nil]; omega
 case g10 => intro s r v c h0 h1 h2 h3 h4 h5 h6 h7 h8 h9 j w d k0 k1 k2 k3 k4; have := cloud2_len h0 h8 k3; simp only [List.length_map, List.length_cons, List.length_nil]; omega
 case g5 => intro s r v c h0 h1 h2 h3 h4 h5 h6 h7 h8 h9 j w d k0 k1 k2 k3 k4; have := rest_len t r.toNat; omega
 case g11 => intro s r v c h0 h1 h2 h3 h4 h5 h6 h7 h8 h9 j w d k0 k1 k2 k3 k4; have := rest_len t r.toNat; omega
 case g6 => intro s r v c h0 h1 h2 h3 h4 h5 h6 h7 h8 h9 j w d k0 k1 k2 k3 k4; exact ⟨k0, by omega, by omega, cloud2_next h0 k1 k4 k3⟩
 case g12 => intro s r v c h0 h1 h2 h3 h4 h5 h6 h7 h8 h9 j w d k0 k1 k2 k3 k4; exact ⟨k0, by omega, by omega, cloud2_next h0 k1 k4 k3⟩
 case g7 =>
  intro s r v c h0 h1 h2 h3 h4 h5 h6 h7 h8 h9 j w d k0 k1 k2 k3 k4
  have hs := sz_next h0 h5
  rw [if_pos h9] at hs
  subst k0
  exact ⟨by omega, by omega, by omega, by omega, by simpa using h4, hs, vec_next h0 h8 h6, cloud_next h0 k4 k3⟩
 case g13 =>
  intro s r v c h0 h1 h2 h3 h4 h5 h6 h7 h8 h9 j w d k0 k1 k2 k3 k4
  have hs := sz_next h0 h5
  rw [if_neg h9] at hs
  subst k0
  exact ⟨by omega, by omega, by omega, by omega, by simpa using h4, hs, vec_next h0 h8 h6, cloud_next h0 k4 k3⟩
 case g14 => intro s r v c h0 h1 h2 h3 h4 h5 h6 h7 h8 h9; rw [List.drop_zero, List.length_take]; omega
 case g15 =>
  intro s r v c h0 h1 h2 h3 h4 h5 h6 h7 h8 h9
  rw [tab_end h1 h8 h5 h6 h7]
  show AV.agg [AV.sl (List.map c3 (List.take (s - 0).toNat (List.drop 0 v))), AV.sl (List.map c104 c)] = _
  rw [List.drop_zero, Int.sub_zero]
  rfl
 case g16 => intro s r v c h0 h1 h2 h3 h4 h5 h6 h7 h8 h9; rw [tab_end h1 h8 h5 h6 h7]
 case g17 => intro s r v c h0 h1 h2 h3 h4 h5 h6 h7 h8 h9; rw [tab_end h1 h8 h5 h6 h7, show s.toNat = 0 by omega]; rfl
end Go.Proofs.YtaiepnaokhpmcaaGreat
namespace Go.Proofs.YtaiepnaokhpmcaaGreat
open Go.E
set_option maxRecDepth 100000
set_option maxHeartbeats 4000000
def dotB (d : Dot) : Bool := decide (0 ≤ d.rep ∧ d.rep < 16 ∧ 1 ≤ d.num ∧ d.num ≤ 1000000000)
theorem tabP_congr {T U : Nat → List Run} (h : ∀ r : Nat, r < 16 → T r = U r) : tabP T = tabP U := by
 have hl : ∀ n : Nat, n ≤ 16 → szT T n = szT U n ∧ cloudT T n = cloudT U n := by
  intro n
  induction n with
  | zero => intro _; exact ⟨rfl, rfl⟩
  | succ n ih =>
   intro hn
   obtain ⟨h1, h2⟩ := ih (by omega)
   have e := h n (by omega)
   exact ⟨by rw [szT, szT, h1, leadT, leadT, e], by rw [cloudT, cloudT, h2, restT, restT, e]⟩
 have hv : vecT T 16 = vecT U 16 := by
  unfold vecT
  congr 1
  refine List.map_congr_left fun r hr => ?_
  have hr : r < 16 := by simpa using hr
  rw [leadT, leadT, h r hr]
 unfold tabP
 rw [(hl 16 (Nat.le_refl _)).1, (hl 16 (Nat.le_refl _)).2, hv]
theorem dotB_in {d : Dot} (h : dotB d = true) : 0 ≤ d.rep ∧ d.rep < 16 ∧ 1 ≤ d.num ∧ d.num ≤ 1000000000 := by
 unfold dotB at h
 simpa using h
end Go.Proofs.YtaiepnaokhpmcaaGreat
namespace Go.Proofs.YtaiepnaokhpmcaaGreat
open Go.E
set_option maxRecDepth 100000
set_option maxHeartbeats 4000000
def vecR (v : List Int) (r:Nat) : List Run := if r < v.length then [⟨1, v[r]!⟩] else []
def cloudR (c : List Span) (r:Nat) : List Run := (c.filter fun (s : Span) => decide (s.rep = (r:Int))).map fun s => ⟨s.lo, s.hi⟩
def openT (ps : List Past) (r:Nat) : List Run := (ps.map fun p => vecR p.vec r ++ cloudR p.cloud r).flatten
def isOpen (ps : List Past) (i:Int) (T : Nat → List Run) : Prop := ∀ r : Nat, r < 16 → T r = openT (ps.take i.toNat) r
def isOpenV (ps : List Past) (i j:Int) (T : Nat → List Run) : Prop := ∀ r : Nat, r < 16 → T r = openT (ps.take i.toNat) r ++ if (r:Int) < j then vecR (ps[i.toNat]!).vec r else []
def isOpenC (ps : List Past) (i j:Int) (T : Nat → List Run) : Prop := ∀ r : Nat, r < 16 → T r = openT (ps.take i.toNat) r ++ vecR (ps[i.toNat]!).vec r ++ cloudR ((ps[i.toNat]!).cloud.take j.toNat) r
def inv117a (ps : List Past) (i:Int) (T : Nat → List Run) : Prop := 0 ≤ i ∧ i ≤ ps.length ∧ isOpen ps i T
def dec117a (ps : List Past) (i:Int) (T : Nat → List Run) : Nat := (ps.length - i).toNat
def inv117b (ps : List Past) (i:Int) (n:Int) (j:Int) (T : Nat → List Run) (v : List Int) (c : List Span) : Prop := v = (ps[i.toNat]!).vec ∧ c = (ps[i.toNat]!).cloud ∧ 0 ≤ j ∧ j ≤ n ∧ isOpenV ps i j T
def dec117b (n:Int) (j:Int) (T : Nat → List Run) (v : List Int) (c : List Span) : Nat := (n - j).toNat
def inv117c (ps : List Past) (i:Int) (j:Int) (T : Nat → List Run) : Prop := 0 ≤ j ∧ j ≤ (ps[i.toNat]!).cloud.length ∧ isOpenC ps i j T
def dec117c (ps : List Past) (i:Int) (j:Int) (T : Nat → List Run) : Nat := ((ps[i.toNat]!).cloud.length - j).toNat
def totP (ps : List Past) : Nat := (ps.map fun p => p.cloud.length + 1).sum
theorem openT_app (a : List Past) (p : Past) (r:Nat) : openT (a ++ [p]) r = openT a r ++ (vecR p.vec r ++ cloudR p.cloud r) := by simp [openT]
theorem vecR_len (v : List Int) (r:Nat) : (vecR v r).length ≤ 1 := by unfold vecR; split <;> simp
theorem cloudR_len (c : List Span) (r:Nat) : (cloudR c r).length ≤ c.length := by
 unfold cloudR
 rw [List.length_map]
 exact List.length_filter_le _ _
theorem openT_len (r:Nat) : ∀ ps : List Past, (openT ps r).length ≤ totP ps
 | [] => by simp [openT]
 | p :: ps => by
  have h1 := openT_len r ps
  have h2 := vecR_len p.vec r
  have h3 := cloudR_len p.cloud r
  simp only [openT, totP, List.map_cons, List.flatten_cons, List.length_append, List.sum_cons] at *
  omega
theorem totP_app (a b : List Past) : totP (a ++ b) = totP a + totP b := by simp [totP]
theorem totP_take {ps : List Past} {i : Int} (h0 : 0 ≤ i) (h : i < ps.length) : totP (ps.take i.toNat) + (ps[i.toNat]!).cloud.length + 1 ≤ totP ps := by
 have e : totP ps = totP (ps.take (i + 1).toNat) + totP (ps.drop (i + 1).toNat) := by
  rw [← totP_app, List.take_append_drop]
 rw [← take_step h0 h] at e
 simp only [totP, List.map_append, List.sum_append, List.map_cons, List.map_nil, List.sum_cons, List.sum_nil] at *
 omega
theorem openV_start {ps : List Past} {i : Int} {T : Nat → List Run} (h : isOpen ps i T) : isOpenV ps i 0 T := fun r hr => by
 rw [h r hr, if_neg (by omega), List.append_nil]
theorem openV_next {ps : List Past} {i j : Int} {T : Nat → List Run} (j0 : 0 ≤ j) (jl : j < (ps[i.toNat]!).vec.length) (h : isOpenV ps i j T) :
  isOpenV ps i (j + 1) (updF T j.toNat (T j.toNat ++ [⟨1, (ps[i.toNat]!).vec[j.toNat]!⟩])) := by
 intro r hr
 unfold updF
 by_cases e : r = j.toNat
 ·rw [if_pos e, ← e, h r hr, if_neg (by omega), if_pos (by omega), List.append_nil, vecR, if_pos (by omega)]
 ·rw [if_neg e, h r hr]
  by_cases k : (r:Int) < j
  ·rw [if_pos k, if_pos (by omega)]
  ·rw [if_neg k, if_neg (by omega)]
theorem openC_start {ps : List Past} {i j : Int} {T : Nat → List Run} (j1 : j ≤ min ((ps[i.toNat]!).vec.length:Int) 16) (jl : ¬ j < min ((ps[i.toNat]!).vec.length:Int) 16) (h : isOpenV ps i j T) : isOpenC ps i 0 T := by
 intro r hr
 rw [h r hr, show (0:Int).toNat = 0 from rfl, List.take_zero, show cloudR [] r = [] from rfl, List.append_nil]
 by_cases k : (r:Int) < j
 ·rw [if_pos k]
 ·rw [if_neg k, vecR, if_neg (by omega)]
theorem cloudR_app (c : List Span) (s : Span) (r:Nat) : cloudR (c ++ [s]) r = cloudR c r ++ if s.rep = (r:Int) then [⟨s.lo, s.hi⟩] else [] := by
 unfold cloudR
 rw [List.filter_append, List.map_append]
 congr 1
 by_cases h : s.rep = (r:Int)
 ·rw [if_pos h]; simp [List.filter_cons, h]
 ·rw [if_neg h]; simp [List.filter_cons, h]
theorem openC_in {ps : List Past} {i j : Int} {T : Nat → List Run} (j0 : 0 ≤ j) (jl : j < (ps[i.toNat]!).cloud.length) (hr : 0 ≤ ((ps[i.toNat]!).cloud[j.toNat]!).rep ∧ ((ps[i.toNat]!).cloud[j.toNat]!).rep < 16) (h : isOpenC ps i j T) :
  isOpenC ps i (j + 1) (updF T ((ps[i.toNat]!).cloud[j.toNat]!).rep.toNat (T ((ps[i.toNat]!).cloud[j.toNat]!).rep.toNat ++ [⟨((ps[i.toNat]!).cloud[j.toNat]!).lo, ((ps[i.toNat]!).cloud[j.toNat]!).hi⟩])) := by
 intro r hr'
 rw [← take_step j0 jl, cloudR_app]
 unfold updF
 by_cases e : r = ((ps[i.toNat]!).cloud[j.toNat]!).rep.toNat
 ·rw [if_pos e, if_pos (by omega), ← e, h r hr', List.append_assoc, List.append_assoc]
 ·rw [if_neg e, if_neg (by omega), List.append_nil, h r hr']
theorem openC_out {ps : List Past} {i j : Int} {T : Nat → List Run} (j0 : 0 ≤ j) (jl : j < (ps[i.toNat]!).cloud.length) (hr : ¬ (0 ≤ ((ps[i.toNat]!).cloud[j.toNat]!).rep ∧ ((ps[i.toNat]!).cloud[j.toNat]!).rep < 16)) (h : isOpenC ps i j T) : isOpenC ps i (j + 1) T := by
 intro r hr'
 rw [← take_step j0 jl, cloudR_app, if_neg (by omega), List.append_nil, h r hr']
theorem open_next {ps : List Past} {i j : Int} {T : Nat → List Run} (h0 : 0 ≤ i) (h1 : i < ps.length) (jl : ¬ j < (ps[i.toNat]!).cloud.length) (h : isOpenC ps i j T) : isOpen ps (i + 1) T := by
 intro r hr
 rw [← take_step h0 h1, openT_app, h r hr, List.take_of_length_le (l := (ps[i.toNat]!).cloud) (by omega), List.append_assoc]
theorem openV_len {ps : List Past} {i j : Int} {T : Nat → List Run} (h0 : 0 ≤ i) (h1 : i < ps.length) (h : isOpenV ps i j T) {r : Nat} (hr : r < 16) (k : ¬ (r:Int) < j) : (T r).length + 1 ≤ totP ps := by
 rw [h r hr, if_neg k, List.append_nil]
 have := openT_len r (ps.take i.toNat)
 have := totP_take h0 h1
 omega
theorem openC_len {ps : List Past} {i j : Int} {T : Nat → List Run} (h0 : 0 ≤ i) (h1 : i < ps.length) (j0 : 0 ≤ j) (jl : j < (ps[i.toNat]!).cloud.length) (h : isOpenC ps i j T) {r : Nat} (hr : r < 16) : (T r).length + 1 ≤ totP ps + 1 ∧ j + 1 ≤ totP ps := by
 rw [h r hr, List.length_append, List.length_append]
 have := openT_len r (ps.take i.toNat)
 have := totP_take h0 h1
 have := vecR_len (ps[i.toNat]!).vec r
 have := cloudR_len ((ps[i.toNat]!).cloud.take j.toNat) r
 rw [List.length_take] at this
 omega
theorem con102 (ps : List Past) (hb : totP ps * 16 ≤ 140737488351232) : ConB Tryz.prog 102 [.sl (ps.map c26)] 152 (.arr (tabC c154 16 (openT ps))) :=
 by
 refine conB_lens 0 (c26) (ps) (by kernel_rfl) Go.Proofs.Tryz.func102 (by kernel_rfl) fun hl_0 => ?_
 refine st_conB tab_ok (by kernel_rfl) (.tmp 2) 78 Go.Proofs.Tryz.func102 (by kernel_rfl) (by kernel_rfl) ?_
 intro e0 cx
 refine sq ?_
 refine rg (A := True) cx [] [0] [] trivial ?_
 refine sn (sq ?_)
 refine rg (A := True) cx [] [0, 3] [10] trivial ?_
 refine sn (sq ?_)
 refine sq ?_
 refine rg (A := _) cx [(1, { tell := some (.i .i64 ((↑ps.length:Int))) })] [3, 11, 12, 13] [10] (told_len c26 ps) ?_
 refine sn ?_
 refine st_block 0 (by kernel_rfl) ?_
 refine awp_tabIn 10 154 2 101000 16 (σ' := ⟨[(3, .ptr (10) (0) (0) (0)), (11, .sl (List.map c26 ps)), (12, .i .i64 ((↑ps.length:Int))), (13, .i .i64 ((0:Int)))], [(10, ⟨0, 152, .var (ownsC 101000 16)⟩)] ++ tabRows 101000 154 2 16 (c154) (fun x ↦ [])⟩) (by kernel_rfl) ?_
 refine st_loop (X := Int × (Nat → List Run)) (fun x => ⟨[(3, .ptr (10) (0) (0) (0)), (11, .sl (List.map c26 ps)), (12, .i .i64 ((↑ps.length:Int))), (13, .i .i64 (x.fst))], [(10, ⟨0, 152, .var (ownsC 101000 16)⟩)] ++ tabRows 101000 154 2 16 (c154) (x.snd)⟩) (fun x ↦ dec117a ps x.fst x.snd) (fun x ↦ inv117a ps x.fst x.snd) [3, 11, 12, 13] ([10] ++ List.range' 101000 16) (((0:Int), fun x ↦ [])) (by kernel_rfl) (by kernel_rfl) (show inv117a ps (0:Int) fun x ↦ [] from ?g0) ?_; rotate_left 1
 rintro ⟨i_0, T_1⟩ h_2
 obtain ⟨h_3, h_4, h_5⟩ : (0:Int) ≤ i_0 ∧ i_0 ≤ (↑ps.length:Int) ∧ isOpen ps i_0 T_1 := h_2
 refine sq ?_
 refine rg (A := (AV.b (decide (i_0 < (↑ps.length:Int))) = AV.b (decide (i_0 < (↑ps.length:Int))))) cx [(0, { tell := some (.b (decide (i_0 < (↑ps.length:Int)))) })] [3, 11, 12, 13, 14] ([10] ++ List.range' 101000 16) (by kernel_rfl) ?_
 refine sn (sq ?_)
 refine st_dec (i_0 < (↑ps.length:Int)) (by kernel_rfl) (by kernel_rfl) (fun h_6 => ?_) (fun h_6 => ?_)
 refine st_skip (by kernel_rfl) ?_
 refine sn (sq ?_)
 refine st_block 1 (by kernel_rfl) ?_
 refine sq ?_
 refine rg (A := ((0:Int) ≤ i_0) ∧ ((List.map c26 ps)[i_0.toNat]? = some (c26 ps[i_0.toNat]!)) ∧ ((c26 ps[i_0.toNat]!).length = (2:Nat)) ∧ ((2:Nat) ≤ [AV.sl (List.map c3 ps[i_0.toNat]!.vec), AV.sl (List.map c104 ps[i_0.toNat]!.cloud)].length)) cx [(0, { row := (c26 ps[i_0.toNat]!) })] [3, 11, 12, 13, 5] ([10] ++ List.range' 101000 16 ++ [5]) ⟨(by (with_reducible assumption)), (by (with_reducible refine get_map ?_; omega)), (by kernel_rfl), (by (simp only [List.length_append, List.length_cons, List.length_nil]; omega))⟩ ?_
 refine sn (sq ?_)
 refine sq ?_
 refine rg (A := _ ∧ (AV.i .i64 (if (16:Int) < (↑ps[i_0.toNat]!.vec.length:Int) then (16:Int) else (↑ps[i_0.toNat]!.vec.length:Int)) = AV.i .i64 (min (↑ps[i_0.toNat]!.vec.length:Int) (16:Int)))) cx [(2, { tell := some (.i .i64 ((↑ps[i_0.toNat]!.vec.length:Int))) }), (3, { tell := some (.i .i64 (min (↑ps[i_0.toNat]!.vec.length:Int) (16:Int))) })] [3, 11, 12, 13, 5, 20, 21] ([10] ++ List.range' 101000 16 ++ [5]) ⟨(told_len c3 ps[i_0.toNat]!.vec), (told_min)⟩ ?_
 refine sn ?_
 refine st_block 2 (by kernel_rfl) ?_
 refine st_loop (X := Int × (Nat → List Run) × List Int × List Span) (fun x => ⟨[(3, .ptr (10) (0) (0) (0)), (11, .sl (List.map c26 ps)), (12, .i .i64 ((↑ps.length:Int))), (13, .i .i64 (i_0)), (5, .ptr (5) (0) (0) (0)), (20, .i .i64 (min (↑ps[i_0.toNat]!.vec.length:Int) (16:Int))), (21, .i .i64 (x.fst))], [(10, ⟨0, 152, .var (ownsC 101000 16)⟩)] ++ tabRows 101000 154 2 16 (c154) (x.snd.fst) ++ [(5, ⟨0, 26, .var [.sl (List.map c3 x.snd.snd.fst), .sl (List.map c104 x.snd.snd.snd)]⟩)]⟩) (fun x ↦ dec117b (min (↑ps[i_0.toNat]!.vec.length:Int) (16:Int)) x.fst x.snd.fst x.snd.snd.fst x.snd.snd.snd) (fun x ↦ inv117b ps i_0 (min (↑ps[i_0.toNat]!.vec.length:Int) (16:Int)) x.fst x.snd.fst x.snd.snd.fst x.snd.snd.snd) [3, 11, 12, 13, 5, 20, 21] ([10] ++ List.range' 101000 16 ++ [5]) (((0:Int), T_1, ps[i_0.toNat]!.vec, ps[i_0.toNat]!.cloud)) (by kernel_rfl) (by kernel_rfl) (show inv117b ps i_0 (min (↑ps[i_0.toNat]!.vec.length:Int) (16:Int)) (0:Int) T_1 ps[i_0.toNat]!.vec ps[i_0.toNat]!.cloud from ?g1) ?_; rotate_left 1
 rintro ⟨j_7, T_8, v_9, c_10⟩ h_11
 obtain ⟨h_12, h_13, h_14, h_15, h_16⟩ : v_9 = ps[i_0.toNat]!.vec ∧ c_10 = ps[i_0.toNat]!.cloud ∧ (0:Int) ≤ j_7 ∧ j_7 ≤ min (↑ps[i_0.toNat]!.vec.length:Int) (16:Int) ∧ isOpenV ps i_0 j_7 T_8 := h_11
 refine sq ?_
 refine rg (A := (AV.b (decide (j_7 < min (↑ps[i_0.toNat]!.vec.length:Int) (16:Int))) = AV.b (decide (j_7 < min (↑ps[i_0.toNat]!.vec.length:Int) (16:Int))))) cx [(0, { tell := some (.b (decide (j_7 < min (↑ps[i_0.toNat]!.vec.length:Int) (16:Int)))) })] [3, 11, 12, 13, 5, 20, 21, 22] ([10] ++ List.range' 101000 16 ++ [5]) (by kernel_rfl) ?_
 refine sn (sq ?_)
 refine st_dec (j_7 < min (↑ps[i_0.toNat]!.vec.length:Int) (16:Int)) (by kernel_rfl) (by kernel_rfl) (fun h_17 => ?_) (fun h_17 => ?_)
 refine st_skip (by kernel_rfl) ?_
 refine sn (sq ?_)
 refine st_block 3 (by kernel_rfl) ?_
 refine sq ?_
 refine rg (A := True) cx [] [3, 11, 12, 13, 5, 20, 21, 6] ([10] ++ List.range' 101000 16 ++ [5]) trivial ?_
 refine sn ?_
 refine st_any16 (F := fun kx => ⟨[(3, .ptr (10) (0) (0) (0)), (11, .sl (List.map c26 ps)), (12, .i .i64 ((↑ps.length:Int))), (13, .i .i64 (i_0)), (5, .ptr (5) (0) (0) (0)), (20, .i .i64 (min (↑ps[i_0.toNat]!.vec.length:Int) (16:Int))), (21, .i .i64 (kx)), (6, .i .i64 (kx))], [(10, ⟨0, 152, .var (ownsC 101000 16)⟩)] ++ tabRows 101000 154 2 16 (c154) (T_8) ++ [(5, ⟨0, 26, .var [.sl (List.map c3 v_9), .sl (List.map c104 c_10)]⟩)]⟩) (G := fun kx => ⟨[(3, .ptr (10) (0) (0) (0)), (11, .sl (List.map c26 ps)), (12, .i .i64 ((↑ps.length:Int))), (13, .i .i64 (i_0)), (5, .ptr (5) (0) (0) (0)), (20, .i .i64 (min (↑ps[i_0.toNat]!.vec.length:Int) (16:Int))), (21, .i .i64 (kx))], [(10, ⟨0, 152, .var (ownsC 101000 16)⟩)] ++ tabRows 101000 154 2 16 (c154) (updF T_8 kx.toNat (T_8 kx.toNat ++ [{ lo := (1:Int), hi := v_9[kx.toNat]! : Run }])) ++ [(5, ⟨0, 26, .var [.sl (List.map c3 v_9), .sl (List.map c104 c_10)]⟩)]⟩) (A := fun kx => ((0:Int) ≤ kx) ∧ (kx < (↑(16:Nat):Int)) ∧ ((0:Int) ≤ kx) ∧ ((List.map c3 v_9)[kx.toNat]? = some (c3 v_9[kx.toNat]!)) ∧ ((c3 v_9[kx.toNat]!).length = (1:Nat)) ∧ (154 = (154:Nat)) ∧ ((2:Nat) = 2) ∧ ([AV.i .i64 (0:Int), AV.i .i64 (0:Int)].length = (2:Nat)) ∧ (∀ (r : List AV), r ∈ List.map c154 [{ lo := (1:Int), hi := v_9[kx.toNat]! : Run }] → r.length = 2) ∧ ((List.map c154 (T_8 kx.toNat)).length + (List.map c154 [{ lo := (1:Int), hi := v_9[kx.toNat]! : Run }]).length ≤ maxLen) ∧ (((List.map c154 (T_8 kx.toNat)).length + (List.map c154 [{ lo := (1:Int), hi := v_9[kx.toNat]! : Run }]).length) * (16:Nat) ≤ (140737488355328:Nat)) ∧ (List.map c154 (T_8 kx.toNat) ++ List.map c154 [{ lo := (1:Int), hi := v_9[kx.toNat]! : Run }] = List.map c154 (T_8 kx.toNat ++ [{ lo := (1:Int), hi := v_9[kx.toNat]! : Run }])) ∧ ((0:Int) ≤ kx) ∧ (kx < (↑(16:Nat):Int))) cx (fun kx => [(10, { row := (c3 v_9[kx.toNat]!) }), (14, { rows := some (List.map c154 (T_8 kx.toNat ++ [{ lo := (1:Int), hi := v_9[kx.toNat]! : Run }])) })]) [3, 11, 12, 13, 5, 20, 21] ([10] ++ List.range' 101000 16 ++ [5]) (j_7) (by (with_reducible assumption)) (by omega) (by kernel_rfl) (by kernel_rfl) ⟨(by show _ = _; kernel_rfl), (by show _ = _; kernel_rfl), (by show _ = _; kernel_rfl), (by show _ = _; kernel_rfl), (by show _ = _; kernel_rfl), (by show _ = _; kernel_rfl), (by show _ = _; kernel_rfl), (by show _ = _; kernel_rfl), (by show _ = _; kernel_rfl), (by show _ = _; kernel_rfl), (by show _ = _; kernel_rfl), (by show _ = _; kernel_rfl), (by show _ = _; kernel_rfl), (by show _ = _; kernel_rfl), (by show _ = _; kernel_rfl), (by show _ = _; kernel_rfl)⟩ ⟨(by (with_reducible assumption)), (by omega), (by (with_reducible assumption)), ?g2, (by kernel_rfl), (by kernel_rfl), (by kernel_rfl), (by kernel_rfl), (by (with_reducible refine len_map (fun _ => ?_) _; kernel_rfl)), ?g3, ?g4, (by (with_reducible refine app_map ?_; kernel_rfl)), (by (with_reducible assumption)), (by omega)⟩ ?_; rotate_left 3
 refine q_blk_normal ?_
 refine sn ?_
 refine rg (A := (AV.i .i64 (IntKind.i64.wrap (j_7 + (1:Int))) = AV.i .i64 (j_7 + (1:Int)))) cx [(0, { tell := some (.i .i64 (j_7 + (1:Int))) })] [3, 11, 12, 13, 5, 20, 21] ([10] ++ List.range' 101000 16 ++ [5]) (told_i64 (by omega) (by omega)) ?_
 refine sn ?_
 refine loop_next ((j_7 + (1:Int), updF T_8 j_7.toNat (T_8 j_7.toNat ++ [{ lo := (1:Int), hi := v_9[j_7.toNat]! : Run }]), v_9, c_10)) (by kernel_rfl) (show (min (↑ps[i_0.toNat]!.vec.length:Int) (16:Int) - (j_7 + (1:Int))).toNat < (min (↑ps[i_0.toNat]!.vec.length:Int) (16:Int) - j_7).toNat from (by omega)) (show inv117b ps i_0 (min (↑ps[i_0.toNat]!.vec.length:Int) (16:Int)) (j_7 + (1:Int)) (updF T_8 j_7.toNat (T_8 j_7.toNat ++ [{ lo := (1:Int), hi := v_9[j_7.toNat]! : Run }])) v_9 c_10 from ?g5); rotate_left 1
 refine st_exit 2 (by kernel_rfl) ?_
 refine q_seq_exit ?_
 refine q_seq_exit ?_
 refine q_blk_hit ?_
 refine sn (sq ?_)
 refine rg (A := _) cx [(2, { tell := some (.i .i64 ((↑c_10.length:Int))) })] [3, 11, 12, 13, 43, 44, 45] ([10] ++ List.range' 101000 16) (told_len c104 c_10) ?_
 refine sn ?_
 refine st_block 4 (by kernel_rfl) ?_
 refine st_loop (X := Int × (Nat → List Run)) (fun x => ⟨[(3, .ptr (10) (0) (0) (0)), (11, .sl (List.map c26 ps)), (12, .i .i64 ((↑ps.length:Int))), (13, .i .i64 (i_0)), (43, .sl (List.map c104 c_10)), (44, .i .i64 ((↑c_10.length:Int))), (45, .i .i64 (x.fst))], [(10, ⟨0, 152, .var (ownsC 101000 16)⟩)] ++ tabRows 101000 154 2 16 (c154) (x.snd)⟩) (fun x ↦ dec117c ps i_0 x.fst x.snd) (fun x ↦ inv117c ps i_0 x.fst x.snd) [3, 11, 12, 13, 43, 44, 45] ([10] ++ List.range' 101000 16) (((0:Int), T_8)) (by kernel_rfl) (by kernel_rfl) (show inv117c ps i_0 (0:Int) T_8 from ?g6) ?_; rotate_left 1
 rintro ⟨j_18, T_19⟩ h_20
 obtain ⟨h_21, h_22, h_23⟩ : (0:Int) ≤ j_18 ∧ j_18 ≤ (↑ps[i_0.toNat]!.cloud.length:Int) ∧ isOpenC ps i_0 j_18 T_19 := h_20
 refine sq ?_
 refine rg (A := (AV.b (decide (j_18 < (↑c_10.length:Int))) = AV.b (decide (j_18 < (↑c_10.length:Int))))) cx [(0, { tell := some (.b (decide (j_18 < (↑c_10.length:Int)))) })] [3, 11, 12, 13, 43, 44, 45, 46] ([10] ++ List.range' 101000 16) (by kernel_rfl) ?_
 refine sn (sq ?_)
 refine st_dec (j_18 < (↑c_10.length:Int)) (by kernel_rfl) (by kernel_rfl) (fun h_24 => ?_) (fun h_24 => ?_)
 refine st_skip (by kernel_rfl) ?_
 refine sn (sq ?_)
 refine st_block 5 (by kernel_rfl) ?_
 refine sq ?_
 refine rg (A := ((0:Int) ≤ j_18) ∧ ((List.map c104 c_10)[j_18.toNat]? = some (c104 c_10[j_18.toNat]!)) ∧ ((c104 c_10[j_18.toNat]!).length = (3:Nat)) ∧ ((3:Nat) ≤ [AV.i .i64 c_10[j_18.toNat]!.rep, AV.i .i64 c_10[j_18.toNat]!.lo, AV.i .i64 c_10[j_18.toNat]!.hi].length)) cx [(0, { row := (c104 c_10[j_18.toNat]!) })] [3, 11, 12, 13, 43, 44, 45, 8] ([10] ++ List.range' 101000 16 ++ [8]) ⟨(by (with_reducible assumption)), (by (with_reducible refine get_map ?_; omega)), (by kernel_rfl), (by (simp only [List.length_append, List.length_cons, List.length_nil]; omega))⟩ ?_
 refine sn (sq ?_)
 refine st_join (σ' := ⟨[(3, .ptr (10) (0) (0) (0)), (11, .sl (List.map c26 ps)), (12, .i .i64 ((↑ps.length:Int))), (13, .i .i64 (i_0)), (43, .sl (List.map c104 c_10)), (44, .i .i64 ((↑c_10.length:Int))), (45, .i .i64 (j_18)), (8, .ptr (8) (0) (0) (0)), (56, .b (decide ((0:Int) ≤ c_10[j_18.toNat]!.rep ∧ c_10[j_18.toNat]!.rep < (16:Int))))], [(10, ⟨0, 152, .var (ownsC 101000 16)⟩)] ++ tabRows 101000 154 2 16 (c154) (T_19) ++ [(8, ⟨0, 104, .var [.i .i64 (c_10[j_18.toNat]!.rep), .i .i64 (c_10[j_18.toNat]!.lo), .i .i64 (c_10[j_18.toNat]!.hi)]⟩)]⟩) ?_ ?_
 refine st_split ((0:Int) ≤ c_10[j_18.toNat]!.rep) (fun h_26 => ?_) (fun h_26 => ?_)
 refine rg (A := _ ∧ (AV.b (decide (c_10[j_18.toNat]!.rep < (16:Int))) = AV.b (decide (c_10[j_18.toNat]!.rep < (16:Int)))) ∧ (AV.b (decide (c_10[j_18.toNat]!.rep < (16:Int))) = AV.b (decide ((0:Int) ≤ c_10[j_18.toNat]!.rep ∧ c_10[j_18.toNat]!.rep < (16:Int))))) cx [(2, { tell := some (.b (true)) }), (6, { tell := some (.b (decide (c_10[j_18.toNat]!.rep < (16:Int)))) }), (7, { tell := some (.b (decide ((0:Int) ≤ c_10[j_18.toNat]!.rep ∧ c_10[j_18.toNat]!.rep < (16:Int)))) })] [3, 11, 12, 13, 43, 44, 45, 8, 56] ([10] ++ List.range' 101000 16 ++ [8]) ⟨(told_true h_26), (by kernel_rfl), (by simp only [eq_true h_26, told_simp1, told_simp2, and_true, true_and, and_false, false_and, or_true, true_or, or_false, false_or, not_true_eq_false, not_false_eq_true, decide_true, decide_false, Bool.decide_eq_true])⟩ ?_
 exact ⟨rfl, by kernel_rfl⟩
 refine rg (A := _ ∧ (AV.b false = AV.b (decide ((0:Int) ≤ c_10[j_18.toNat]!.rep ∧ c_10[j_18.toNat]!.rep < (16:Int))))) cx [(2, { tell := some (.b (false)) }), (7, { tell := some (.b (decide ((0:Int) ≤ c_10[j_18.toNat]!.rep ∧ c_10[j_18.toNat]!.rep < (16:Int)))) })] [3, 11, 12, 13, 43, 44, 45, 8, 56] ([10] ++ List.range' 101000 16 ++ [8]) ⟨(told_false h_26), (by simp only [eq_false h_26, told_simp1, told_simp2, and_true, true_and, and_false, false_and, or_true, true_or, or_false, false_or, not_true_eq_false, not_false_eq_true, decide_true, decide_false, Bool.decide_eq_true])⟩ ?_
 exact ⟨rfl, by kernel_rfl⟩
 refine sn ?_
 refine st_dec ((0:Int) ≤ c_10[j_18.toNat]!.rep ∧ c_10[j_18.toNat]!.rep < (16:Int)) (by kernel_rfl) (by kernel_rfl) (fun h_27 => ?_) (fun h_27 => ?_)
 refine st_any16 (F := fun kx => ⟨[(3, .ptr (10) (0) (0) (0)), (11, .sl (List.map c26 ps)), (12, .i .i64 ((↑ps.length:Int))), (13, .i .i64 (i_0)), (43, .sl (List.map c104 c_10)), (44, .i .i64 ((↑c_10.length:Int))), (45, .i .i64 (j_18)), (8, .ptr (8) (0) (0) (0)), (56, .b (decide ((0:Int) ≤ kx ∧ kx < (16:Int))))], [(10, ⟨0, 152, .var (ownsC 101000 16)⟩)] ++ tabRows 101000 154 2 16 (c154) (T_19) ++ [(8, ⟨0, 104, .var [.i .i64 (kx), .i .i64 (c_10[j_18.toNat]!.lo), .i .i64 (c_10[j_18.toNat]!.hi)]⟩)]⟩) (G := fun kx => ⟨[(3, .ptr (10) (0) (0) (0)), (11, .sl (List.map c26 ps)), (12, .i .i64 ((↑ps.length:Int))), (13, .i .i64 (i_0)), (43, .sl (List.map c104 c_10)), (44, .i .i64 ((↑c_10.length:Int))), (45, .i .i64 (j_18))], [(10, ⟨0, 152, .var (ownsC 101000 16)⟩)] ++ tabRows 101000 154 2 16 (c154) (updF T_19 kx.toNat (T_19 kx.toNat ++ [{ lo := c_10[j_18.toNat]!.lo, hi := c_10[j_18.toNat]!.hi : Run }]))⟩) (A := fun kx => ((0:Int) ≤ kx) ∧ (kx < (↑(16:Nat):Int)) ∧ (154 = (154:Nat)) ∧ ((2:Nat) = 2) ∧ ([AV.i .i64 (0:Int), AV.i .i64 (0:Int)].length = (2:Nat)) ∧ (∀ (r : List AV), r ∈ List.map c154 [{ lo := c_10[j_18.toNat]!.lo, hi := c_10[j_18.toNat]!.hi : Run }] → r.length = 2) ∧ ((List.map c154 (T_19 kx.toNat)).length + (List.map c154 [{ lo := c_10[j_18.toNat]!.lo, hi := c_10[j_18.toNat]!.hi : Run }]).length ≤ maxLen) ∧ (((List.map c154 (T_19 kx.toNat)).length + (List.map c154 [{ lo := c_10[j_18.toNat]!.lo, hi := c_10[j_18.toNat]!.hi : Run }]).length) * (16:Nat) ≤ (140737488355328:Nat)) ∧ (List.map c154 (T_19 kx.toNat) ++ List.map c154 [{ lo := c_10[j_18.toNat]!.lo, hi := c_10[j_18.toNat]!.hi : Run }] = List.map c154 (T_19 kx.toNat ++ [{ lo := c_10[j_18.toNat]!.lo, hi := c_10[j_18.toNat]!.hi : Run }])) ∧ ((0:Int) ≤ kx) ∧ (kx < (↑(16:Nat):Int))) cx (fun kx => [(15, { rows := some (List.map c154 (T_19 kx.toNat ++ [{ lo := c_10[j_18.toNat]!.lo, hi := c_10[j_18.toNat]!.hi : Run }])) })]) [3, 11, 12, 13, 43, 44, 45] ([10] ++ List.range' 101000 16) (c_10[j_18.toNat]!.rep) (by omega) (by omega) (by kernel_rfl) (by kernel_rfl) ⟨(by show _ = _; kernel_rfl), (by show _ = _; kernel_rfl), (by show _ = _; kernel_rfl), (by show _ = _; kernel_rfl), (by show _ = _; kernel_rfl), (by show _ = _; kernel_rfl), (by show _ = _; kernel_rfl), (by show _ = _; kernel_rfl), (by show _ = _; kernel_rfl), (by show _ = _; kernel_rfl), (by show _ = _; kernel_rfl), (by show _ = _; kernel_rfl), (by show _ = _; kernel_rfl), (by show _ = _; kernel_rfl), (by show _ = _; kernel_rfl), (by show _ = _; kernel_rfl)⟩ ⟨(by omega), (by omega), (by kernel_rfl), (by kernel_rfl), (by kernel_rfl), (by (with_reducible refine len_map (fun _ => ?_) _; kernel_rfl)), ?g7, ?g8, (by (with_reducible refine app_map ?_; kernel_rfl)), (by omega), (by omega)⟩ ?_; rotate_left 2
 refine q_blk_normal ?_
 refine sn ?_
 refine rg (A := (AV.i .i64 (IntKind.i64.wrap (j_18 + (1:Int))) = AV.i .i64 (j_18 + (1:Int)))) cx [(0, { tell := some (.i .i64 (j_18 + (1:Int))) })] [3, 11, 12, 13, 43, 44, 45] ([10] ++ List.range' 101000 16) (told_i64 (by omega) ?g9) ?_; rotate_left 1
 refine sn ?_
 refine loop_next ((j_18 + (1:Int), updF T_19 c_10[j_18.toNat]!.rep.toNat (T_19 c_10[j_18.toNat]!.rep.toNat ++ [{ lo := c_10[j_18.toNat]!.lo, hi := c_10[j_18.toNat]!.hi : Run }]))) (by kernel_rfl) (show ((↑ps[i_0.toNat]!.cloud.length:Int) - (j_18 + (1:Int))).toNat < ((↑ps[i_0.toNat]!.cloud.length:Int) - j_18).toNat from ?g10) (show inv117c ps i_0 (j_18 + (1:Int)) (updF T_19 c_10[j_18.toNat]!.rep.toNat (T_19 c_10[j_18.toNat]!.rep.toNat ++ [{ lo := c_10[j_18.toNat]!.lo, hi := c_10[j_18.toNat]!.hi : Run }])) from ?g11); rotate_left 2
 refine st_skip (by kernel_rfl) ?_
 refine q_blk_normal ?_
 refine sn ?_
 refine rg (A := (AV.i .i64 (IntKind.i64.wrap (j_18 + (1:Int))) = AV.i .i64 (j_18 + (1:Int)))) cx [(0, { tell := some (.i .i64 (j_18 + (1:Int))) })] [3, 11, 12, 13, 43, 44, 45] ([10] ++ List.range' 101000 16) (told_i64 (by omega) ?g12) ?_; rotate_left 1
 refine sn ?_
 refine loop_next ((j_18 + (1:Int), T_19)) (by kernel_rfl) (show ((↑ps[i_0.toNat]!.cloud.length:Int) - (j_18 + (1:Int))).toNat < ((↑ps[i_0.toNat]!.cloud.length:Int) - j_18).toNat from ?g13) (show inv117c ps i_0 (j_18 + (1:Int)) T_19 from ?g14); rotate_left 2
 refine st_exit 4 (by kernel_rfl) ?_
 refine q_seq_exit ?_
 refine q_seq_exit ?_
 refine q_blk_hit ?_
 refine q_blk_normal ?_
 refine sn ?_
 refine rg (A := (AV.i .i64 (IntKind.i64.wrap (i_0 + (1:Int))) = AV.i .i64 (i_0 + (1:Int)))) cx [(0, { tell := some (.i .i64 (i_0 + (1:Int))) })] [3, 11, 12, 13] ([10] ++ List.range' 101000 16) (told_i64 (by omega) (by omega)) ?_
 refine sn ?_
 refine loop_next ((i_0 + (1:Int), T_19)) (by kernel_rfl) (show ((↑ps.length:Int) - (i_0 + (1:Int))).toNat < ((↑ps.length:Int) - i_0).toNat from (by omega)) (show inv117a ps (i_0 + (1:Int)) T_19 from ?g15); rotate_left 1
 refine st_exit 0 (by kernel_rfl) ?_
 refine q_seq_exit ?_
 refine q_seq_exit ?_
 refine q_blk_hit ?_
 refine sn (sq ?_)
 refine awp_norm (List.range' 101000 16) [3, 11, 12, 13, 14] [10] (σ' := ⟨[(3, .ptr (10) (0) (0) (0)), (11, .sl (List.map c26 ps)), (12, .i .i64 ((↑ps.length:Int))), (13, .i .i64 (i_0)), (14, .b (decide (i_0 < (↑ps.length:Int))))], [(10, ⟨0, 152, .var [.sl (List.map c154 (T_1 (0))), .sl (List.map c154 (T_1 (1))), .sl (List.map c154 (T_1 (2))), .sl (List.map c154 (T_1 (3))), .sl (List.map c154 (T_1 (4))), .sl (List.map c154 (T_1 (5))), .sl (List.map c154 (T_1 (6))), .sl (List.map c154 (T_1 (7))), .sl (List.map c154 (T_1 (8))), .sl (List.map c154 (T_1 (9))), .sl (List.map c154 (T_1 (10))), .sl (List.map c154 (T_1 (11))), .sl (List.map c154 (T_1 (12))), .sl (List.map c154 (T_1 (13))), .sl (List.map c154 (T_1 (14))), .sl (List.map c154 (T_1 (15)))]⟩)]⟩) (by kernel_rfl) ?_
 refine awp_varArr 10 ⟨0, 152, .var [.sl (List.map c154 (T_1 (0))), .sl (List.map c154 (T_1 (1))), .sl (List.map c154 (T_1 (2))), .sl (List.map c154 (T_1 (3))), .sl (List.map c154 (T_1 (4))), .sl (List.map c154 (T_1 (5))), .sl (List.map c154 (T_1 (6))), .sl (List.map c154 (T_1 (7))), .sl (List.map c154 (T_1 (8))), .sl (List.map c154 (T_1 (9))), .sl (List.map c154 (T_1 (10))), .sl (List.map c154 (T_1 (11))), .sl (List.map c154 (T_1 (12))), .sl (List.map c154 (T_1 (13))), .sl (List.map c154 (T_1 (14))), .sl (List.map c154 (T_1 (15)))]⟩ [.sl (List.map c154 (T_1 (0))), .sl (List.map c154 (T_1 (1))), .sl (List.map c154 (T_1 (2))), .sl (List.map c154 (T_1 (3))), .sl (List.map c154 (T_1 (4))), .sl (List.map c154 (T_1 (5))), .sl (List.map c154 (T_1 (6))), .sl (List.map c154 (T_1 (7))), .sl (List.map c154 (T_1 (8))), .sl (List.map c154 (T_1 (9))), .sl (List.map c154 (T_1 (10))), .sl (List.map c154 (T_1 (11))), .sl (List.map c154 (T_1 (12))), .sl (List.map c154 (T_1 (13))), .sl (List.map c154 (T_1 (14))), .sl (List.map c154 (T_1 (15)))] (tabC c154 (16:Nat) T_1) (σ' := ⟨[(3, .ptr (10) (0) (0) (0)), (11, .sl (List.map c26 ps)), (12, .i .i64 ((↑ps.length:Int))), (13, .i .i64 (i_0)), (14, .b (decide (i_0 < (↑ps.length:Int))))], [(10, ⟨0, 152, .arr (tabC c154 (16:Nat) T_1)⟩)]⟩) (by kernel_rfl) (by kernel_rfl) (by kernel_rfl) (by kernel_rfl) (ZLe.of_eq (by kernel_rfl)) (by kernel_rfl) ?_
 refine rg (A := True) cx [] [2] [10] trivial ?_
 refine sn ?_
 refine st_ret (by kernel_rfl) ?_
 refine qb_ptr (cells' := (tabC c154 (16:Nat) T_1)) .ret (.inr rfl) 2 10 0 (by kernel_rfl) (by kernel_rfl) (by kernel_rfl) ?g16; rotate_left 1
 rotate_left
 revert i_0 T_1 h_3 h_4 h_5 h_6; rotate_left
 revert i_0 T_1 h_3 h_4 h_5 h_6 j_7 T_8 v_9 c_10 h_12 h_13 h_14 h_15 h_16 h_17; rotate_left
 revert i_0 T_1 h_3 h_4 h_5 h_6 j_7 T_8 v_9 c_10 h_12 h_13 h_14 h_15 h_16 h_17; rotate_left
 revert i_0 T_1 h_3 h_4 h_5 h_6 j_7 T_8 v_9 c_10 h_12 h_13 h_14 h_15 h_16 h_17; rotate_left
 revert i_0 T_1 h_3 h_4 h_5 h_6 j_7 T_8 v_9 c_10 h_12 h_13 h_14 h_15 h_16 h_17; rotate_left
 revert i_0 T_1 h_3 h_4 h_5 h_6 j_7 T_8 v_9 c_10 h_12 h_13 h_14 h_15 h_16 h_17; rotate_left
 revert i_0 T_1 h_3 h_4 h_5 h_6 j_7 T_8 v_9 c_10 h_12 h_13 h_14 h_15 h_16 h_17 j_18 T_19 h_21 h_22 h_23 h_24 h_27; rotate_left
 revert i_0 T_1 h_3 h_4 h_5 h_6 j_7 T_8 v_9 c_10 h_12 h_13 h_14 h_15 h_16 h_17 j_18 T_19 h_21 h_22 h_23 h_24 h_27; rotate_left
 revert i_0 T_1 h_3 h_4 h_5 h_6 j_7 T_8 v_9 c_10 h_12 h_13 h_14 h_15 h_16 h_17 j_18 T_19 h_21 h_22 h_23 h_24 h_27; rotate_left
 revert i_0 T_1 h_3 h_4 h_5 h_6 j_7 T_8 v_9 c_10 h_12 h_13 h_14 h_15 h_16 h_17 j_18 T_19 h_21 h_22 h_23 h_24 h_27; rotate_left
 revert i_0 T_1 h_3 h_4 h_5 h_6 j_7 T_8 v_9 c_10 h_12 h_13 h_14 h_15 h_16 h_17 j_18 T_19 h_21 h_22 h_23 h_24 h_27; rotate_left
 revert i_0 T_1 h_3 h_4 h_5 h_6 j_7 T_8 v_9 c_10 h_12 h_13 h_14 h_15 h_16 h_17 j_18 T_19 h_21 h_22 h_23 h_24 h_27; rotate_left
 revert i_0 T_1 h_3 h_4 h_5 h_6 j_7 T_8 v_9 c_10 h_12 h_13 h_14 h_15 h_16 h_17 j_18 T_19 h_21 h_22 h_23 h_24 h_27; rotate_left
 revert i_0 T_1 h_3 h_4 h_5 h_6 j_7 T_8 v_9 c_10 h_12 h_13 h_14 h_15 h_16 h_17 j_18 T_19 h_21 h_22 h_23 h_24 h_27; rotate_left
 revert i_0 T_1 h_3 h_4 h_5 h_6 j_7 T_8 v_9 c_10 h_12 h_13 h_14 h_15 h_16 h_17 j_18 T_19 h_21 h_22 h_23 h_24; rotate_left
 revert i_0 T_1 h_3 h_4 h_5 h_6; rotate_left
 case g0 => exact ⟨by omega, by omega, fun r _ => rfl⟩
 case g1 => intro i T h0 h1 h2 h3; exact ⟨rfl, rfl, by omega, by omega, openV_start h2⟩
 case g2 => intros; subst_vars; exact get_map (by omega)
 case g3 => intro i T h0 h1 h2 h3 j U v c k0 k1 k2 k3 k4 k5; have := openV_len h0 h3 k4 (r := j.toNat) (by omega) (by omega); simp only [List.length_map, List.length_cons, List.length_nil, Go.maxLen]; omega
 case g4 => intro i T h0 h1 h2 h3 j U v c k0 k1 k2 k3 k4 k5; have := openV_len h0 h3 k4 (r := j.toNat) (by omega) (by omega); simp only [List.length_map, List.length_cons, List.length_nil]; omega
 case g5 => intro i T h0 h1 h2 h3 j U v c k0 k1 k2 k3 k4 k5; subst k0 k1; exact ⟨rfl, rfl, by omega, by omega, openV_next k2 (by omega) k4⟩
 case g6 => intro i T h0 h1 h2 h3 j U v c k0 k1 k2 k3 k4 k5; exact ⟨by omega, by omega, openC_start k3 k5 k4⟩
 case g7 => intro i T h0 h1 h2 h3 j U v c k0 k1 k2 k3 k4 k5 l W m0 m1 m2 m3 m4; subst k0 k1; have := openC_len h0 h3 m0 m3 m2 (r := ((ps[i.toNat]!).cloud[l.toNat]!).rep.toNat) (by omega); simp only [List.length_map, List.length_cons, List.length_nil, Go.maxLen]; omega
 case g8 => intro i T h0 h1 h2 h3 j U v c k0 k1 k2 k3 k4 k5 l W m0 m1 m2 m3 m4; subst k0 k1; have := openC_len h0 h3 m0 m3 m2 (r := ((ps[i.toNat]!).cloud[l.toNat]!).rep.toNat) (by omega); simp only [List.length_map, List.length_cons, List.length_nil]; omega
 case g9 => intro i T h0 h1 h2 h3 j U v c k0 k1 k2 k3 k4 k5 l W m0 m1 m2 m3 m4; subst k0 k1; have := openC_len h0 h3 m0 m3 m2 (r := 0) (by omega); omega
 case g10 => intro i T h0 h1 h2 h3 j U v c k0 k1 k2 k3 k4 k5 l W m0 m1 m2 m3 m4; subst k0 k1; omega
 case g11 => intro i T h0 h1 h2 h3 j U v c k0 k1 k2 k3 k4 k5 l W m0 m1 m2 m3 m4; subst k0 k1; exact ⟨by omega, by omega, openC_in m0 m3 m4 m2⟩
 case g12 => intro i T h0 h1 h2 h3 j U v c k0 k1 k2 k3 k4 k5 l W m0 m1 m2 m3 m4; subst k0 k1; have := openC_len h0 h3 m0 m3 m2 (r := 0) (by omega); omega
 case g13 => intro i T h0 h1 h2 h3 j U v c k0 k1 k2 k3 k4 k5 l W m0 m1 m2 m3 m4; subst k0 k1; omega
 case g14 => intro i T h0 h1 h2 h3 j U v c k0 k1 k2 k3 k4 k5 l W m0 m1 m2 m3 m4; subst k0 k1; exact ⟨by omega, by omega, openC_out m0 m3 m4 m2⟩
 case g15 => intro i T h0 h1 h2 h3 j U v c k0 k1 k2 k3 k4 k5 l W m0 m1 m2 m3; subst k0 k1; exact ⟨by omega, by omega, open_next h0 h3 m3 m2⟩
 case g16 =>
  intro i T h0 h1 h2 h3
  unfold tabC
  refine List.map_congr_left fun r hr => ?_
  rw [h2 r (by simpa using hr), List.take_of_length_le (by omega)]
end Go.Proofs.YtaiepnaokhpmcaaGreat
namespace Go.Proofs.YtaiepnaokhpmcaaGreat
open Go.E
set_option maxRecDepth 100000
set_option maxHeartbeats 4000000
def normP (p : Past) : Past := tabP (openT [p])
theorem tot_one (p : Past) : totP [p] = p.cloud.length + 1 := by simp [totP]
theorem con107 (p : Past) (hb : p.cloud.length * 16 ≤ 140737488350000) : Con Tryz.prog 107 [.agg (c26 p)] (.agg (c26 (normP p))) :=
 by
 have h1 := tot_one p
 have h2 := fun r => openT_len r [p]
 refine st_con tab_ok (by kernel_rfl) [.cell 2 26] 7 Go.Proofs.Tryz.func107 (by kernel_rfl) (by kernel_rfl) ?_
 intro e0 cx
 refine sq ?_
 refine rg (A := True) cx [] [1, 2] [1, 2] trivial ?_
 refine sn (sq ?_)
 refine rg (A := _ ∧ _) cx [(2, { val := some (.ptr ((152:Nat)) (0) (0) (0)), row := (tabC c154 (16:Nat) (openT [p])) }), (3, { val := some (.agg [.sl (List.map c3 (tabP (openT [p])).vec), .sl (List.map c104 (tabP (openT [p])).cloud)]) })] [2] [2] ⟨(con102 ([p]) ?g0), (con103 (openT [p]) ?g1)⟩ ?_; rotate_left 2
 refine sn ?_
 refine st_ret (by kernel_rfl) ?_
 refine q_ret (r := .agg [.sl (List.map c3 (tabP (openT [p])).vec), .sl (List.map c104 (tabP (openT [p])).cloud)]) (obl := []) (by kernel_rfl) trivial (AVle.eq (show AV.agg [AV.sl (List.map c3 (tabP (openT [p])).vec), AV.sl (List.map c104 (tabP (openT [p])).cloud)] = AV.agg (c26 (normP p)) from ?g2)); rotate_left 1
 all_goals
  ( intros <;> first
  | omega
  | exact rfl
  | (have := h2 ‹Nat›; omega))
end Go.Proofs.YtaiepnaokhpmcaaGreat
namespace Go.Proofs.YtaiepnaokhpmcaaGreat
open Go.E
set_option maxRecDepth 100000
set_option maxHeartbeats 4000000
def invE {α : Type} [Inhabited α] (a b : List α) (i:Int) : Prop := 0 ≤ i ∧ i ≤ a.length ∧ a.length = b.length ∧ ∀ j : Nat, (j:Int) < i → a[j]! = b[j]!
def decE {α : Type} (a b : List α) (i:Int) : Nat := (a.length - i).toNat
theorem eq_of_all {α : Type} [Inhabited α] {a b : List α} (hl : a.length = b.length) (h : ∀ j : Nat, j < a.length → a[j]! = b[j]!) : a = b := by
 apply List.ext_getElem hl
 intro j h1 h2
 have := h j h1
 rwa [getElem!_pos a j h1, getElem!_pos b j h2] at this
theorem con130 (a b : List Int) : Con Tryz.prog 130 [.sl (a.map c3), .sl (b.map c3)] (.b (decide (a = b))) :=
 by
 refine con_lens 0 (c3) (a) (by kernel_rfl) Go.Proofs.Tryz.func130 (by kernel_rfl) fun hl_0 => ?_
 refine con_lens 1 (c3) (b) (by kernel_rfl) Go.Proofs.Tryz.func130 (by kernel_rfl) fun hl_1 => ?_
 refine st_con tab_ok (by kernel_rfl) [.tmp 4] 26 Go.Proofs.Tryz.func130 (by kernel_rfl) (by kernel_rfl) ?_
 intro e0 cx
 refine sq ?_
 refine rg (A := True) cx [] [0, 1] [] trivial ?_
 refine sn (sq ?_)
 refine sq ?_
 refine rg (A := _ ∧ _ ∧ (AV.b ((↑a.length:Int) != (↑b.length:Int)) = AV.b (decide ¬(↑a.length:Int) = (↑b.length:Int)))) cx [(1, { tell := some (.i .i64 ((↑a.length:Int))) }), (3, { tell := some (.i .i64 ((↑b.length:Int))) }), (4, { tell := some (.b (decide ¬(↑a.length:Int) = (↑b.length:Int))) })] [0, 1, 10] [] ⟨(told_len c3 a), (told_len c3 b), (told_neq)⟩ ?_
 refine sn ?_
 refine st_dec (¬(↑a.length:Int) = (↑b.length:Int)) (by kernel_rfl) (by kernel_rfl) (fun h_0 => ?_) (fun h_0 => ?_)
 refine sq ?_
 refine rg (A := True) cx [] [4] [] trivial ?_
 refine sn ?_
 refine st_ret (by kernel_rfl) ?_
 refine q_seq_ret ?_
 refine q_ret (r := .b (false)) (obl := []) (by kernel_rfl) trivial (AVle.eq (show AV.b false = AV.b (decide (a = b)) from ?g0)); rotate_left 1
 refine st_skip (by kernel_rfl) ?_
 refine sn (sq ?_)
 refine sq ?_
 refine rg (A := _) cx [(1, { tell := some (.i .i64 ((↑a.length:Int))) })] [0, 1, 12, 13] [] (told_len c3 a) ?_
 refine sn ?_
 refine st_block 0 (by kernel_rfl) ?_
 refine st_loop (X := Int) (fun x => ⟨[(0, .sl (List.map c3 a)), (1, .sl (List.map c3 b)), (12, .i .i64 ((↑a.length:Int))), (13, .i .i64 (x))], []⟩) (fun x ↦ decE a b x) (fun x ↦ invE a b x) [0, 1, 12, 13] [] ((0:Int)) (by kernel_rfl) (by kernel_rfl) (show invE a b (0:Int) from ?g1) ?_; rotate_left 1
 intro i_1 h_2
 obtain ⟨h_3, h_4, h_5, h_6⟩ : (0:Int) ≤ i_1 ∧ i_1 ≤ (↑a.length:Int) ∧ a.length = b.length ∧ ∀ (j:Nat), (↑j:Int) < i_1 → a[j]! = b[j]! := h_2
 refine sq ?_
 refine rg (A := (AV.b (decide (i_1 < (↑a.length:Int))) = AV.b (decide (i_1 < (↑a.length:Int))))) cx [(0, { tell := some (.b (decide (i_1 < (↑a.length:Int)))) })] [0, 1, 12, 13, 14] [] (by kernel_rfl) ?_
 refine sn (sq ?_)
 refine st_dec (i_1 < (↑a.length:Int)) (by kernel_rfl) (by kernel_rfl) (fun h_7 => ?_) (fun h_7 => ?_)
 refine st_skip (by kernel_rfl) ?_
 refine sn (sq ?_)
 refine st_block 1 (by kernel_rfl) ?_
 refine sq ?_
 refine rg (A := True) cx [] [0, 1, 12, 13, 5] [] trivial ?_
 refine sn (sq ?_)
 refine ra (A := ((0:Int) ≤ i_1) ∧ ((List.map c3 a)[i_1.toNat]? = some (c3 a[i_1.toNat]!)) ∧ ((c3 a[i_1.toNat]!).length = (1:Nat)) ∧ ((0:Int) ≤ i_1) ∧ ((List.map c3 b)[i_1.toNat]? = some (c3 b[i_1.toNat]!)) ∧ ((c3 b[i_1.toNat]!).length = (1:Nat)) ∧ (AV.b (a[i_1.toNat]! != b[i_1.toNat]!) = AV.b (decide ¬a[i_1.toNat]! = b[i_1.toNat]!))) cx [(2, { row := (c3 a[i_1.toNat]!) }), (6, { row := (c3 b[i_1.toNat]!) }), (8, { tell := some (.b (decide ¬a[i_1.toNat]! = b[i_1.toNat]!)) })] [0, 1, 12, 13, 24] [] ⟨(by (with_reducible assumption)), (by (with_reducible refine get_map ?_; omega)), (by kernel_rfl), (by (with_reducible assumption)), (by (with_reducible refine get_map ?_; omega)), (by kernel_rfl), (told_neq)⟩ ?_
 refine sn ?_
 refine st_dec (¬a[i_1.toNat]! = b[i_1.toNat]!) (by kernel_rfl) (by kernel_rfl) (fun h_8 => ?_) (fun h_8 => ?_)
 refine sq ?_
 refine rg (A := True) cx [] [4] [] trivial ?_
 refine sn ?_
 refine st_ret (by kernel_rfl) ?_
 refine q_blk_ret ?_
 refine q_seq_ret ?_
 refine q_seq_ret ?_
 refine q_blk_ret ?_
 refine q_seq_ret ?_
 refine q_ret (r := .b (false)) (obl := []) (by kernel_rfl) trivial (AVle.eq (show AV.b false = AV.b (decide (a = b)) from ?g2)); rotate_left 1
 refine st_skip (by kernel_rfl) ?_
 refine q_blk_normal ?_
 refine sn ?_
 refine rg (A := (AV.i .i64 (IntKind.i64.wrap (i_1 + (1:Int))) = AV.i .i64 (i_1 + (1:Int)))) cx [(0, { tell := some (.i .i64 (i_1 + (1:Int))) })] [0, 1, 12, 13] [] (told_i64 (by omega) (by omega)) ?_
 refine sn ?_
 refine loop_next (i_1 + (1:Int)) (by kernel_rfl) (show ((↑a.length:Int) - (i_1 + (1:Int))).toNat < ((↑a.length:Int) - i_1).toNat from (by omega)) (show invE a b (i_1 + (1:Int)) from ?g3); rotate_left 1
 refine st_exit 0 (by kernel_rfl) ?_
 refine q_seq_exit ?_
 refine q_seq_exit ?_
 refine q_blk_hit ?_
 refine sn (sq ?_)
 refine rg (A := True) cx [] [4] [] trivial ?_
 refine sn ?_
 refine st_ret (by kernel_rfl) ?_
 refine q_ret (r := .b (true)) (obl := []) (by kernel_rfl) trivial (AVle.eq (show AV.b true = AV.b (decide (a = b)) from ?g4)); rotate_left 1
 revert h_0; rotate_left
 revert h_0; rotate_left
 revert h_0 i_1 h_3 h_4 h_5 h_6 h_7 h_8; rotate_left
 revert h_0 i_1 h_3 h_4 h_5 h_6 h_7 h_8; rotate_left
 revert h_0 i_1 h_3 h_4 h_5 h_6 h_7; rotate_left
 case g0 => exact (fun h => by rw [decide_eq_false (fun k => h (by rw [k]))])
 case g1 => exact (fun h => ⟨by omega, by omega, by omega, fun j hj => by omega⟩)
 case g2 => exact (fun h i h0 h1 h2 h3 h4 h5 => by rw [decide_eq_false (fun k => h5 (by rw [k]))])
 case g3 => exact (fun h i h0 h1 h2 h3 h4 h5 => ⟨by omega, by omega, h2, fun j hj => by
   by_cases e : j = i.toNat
   ·rw [e]; exact Classical.not_not.1 h5
   ·exact h3 j (by omega)⟩)
 case g4 => exact (fun h i h0 h1 h2 h3 h4 => by rw [decide_eq_true (eq_of_all h2 fun j hj => h3 j (by omega))])
theorem con131 (a b : List Span) : Con Tryz.prog 131 [.sl (a.map c104), .sl (b.map c104)] (.b (decide (a = b))) :=
 by
 refine con_lens 0 (c104) (a) (by kernel_rfl) Go.Proofs.Tryz.func131 (by kernel_rfl) fun hl_0 => ?_
 refine con_lens 1 (c104) (b) (by kernel_rfl) Go.Proofs.Tryz.func131 (by kernel_rfl) fun hl_1 => ?_
 refine st_con tab_ok (by kernel_rfl) [.tmp 4] 26 Go.Proofs.Tryz.func131 (by kernel_rfl) (by kernel_rfl) ?_
 intro e0 cx
 refine sq ?_
 refine rg (A := True) cx [] [0, 1] [] trivial ?_
 refine sn (sq ?_)
 refine sq ?_
 refine rg (A := _ ∧ _ ∧ (AV.b ((↑a.length:Int) != (↑b.length:Int)) = AV.b (decide ¬(↑a.length:Int) = (↑b.length:Int)))) cx [(1, { tell := some (.i .i64 ((↑a.length:Int))) }), (3, { tell := some (.i .i64 ((↑b.length:Int))) }), (4, { tell := some (.b (decide ¬(↑a.length:Int) = (↑b.length:Int))) })] [0, 1, 10] [] ⟨(told_len c104 a), (told_len c104 b), (told_neq)⟩ ?_
 refine sn ?_
 refine st_dec (¬(↑a.length:Int) = (↑b.length:Int)) (by kernel_rfl) (by kernel_rfl) (fun h_0 => ?_) (fun h_0 => ?_)
 refine sq ?_
 refine rg (A := True) cx [] [4] [] trivial ?_
 refine sn ?_
 refine st_ret (by kernel_rfl) ?_
 refine q_seq_ret ?_
 refine q_ret (r := .b (false)) (obl := []) (by kernel_rfl) trivial (AVle.eq (show AV.b false = AV.b (decide (a = b)) from ?g0)); rotate_left 1
 refine st_skip (by kernel_rfl) ?_
 refine sn (sq ?_)
 refine sq ?_
 refine rg (A := _) cx [(1, { tell := some (.i .i64 ((↑a.length:Int))) })] [0, 1, 12, 13] [] (told_len c104 a) ?_
 refine sn ?_
 refine st_block 0 (by kernel_rfl) ?_
 refine st_loop (X := Int) (fun x => ⟨[(0, .sl (List.map c104 a)), (1, .sl (List.map c104 b)), (12, .i .i64 ((↑a.length:Int))), (13, .i .i64 (x))], []⟩) (fun x ↦ decE a b x) (fun x ↦ invE a b x) [0, 1, 12, 13] [] ((0:Int)) (by kernel_rfl) (by kernel_rfl) (show invE a b (0:Int) from ?g1) ?_; rotate_left 1
 intro i_1 h_2
 obtain ⟨h_3, h_4, h_5, h_6⟩ : (0:Int) ≤ i_1 ∧ i_1 ≤ (↑a.length:Int) ∧ a.length = b.length ∧ ∀ (j:Nat), (↑j:Int) < i_1 → a[j]! = b[j]! := h_2
 refine sq ?_
 refine rg (A := (AV.b (decide (i_1 < (↑a.length:Int))) = AV.b (decide (i_1 < (↑a.length:Int))))) cx [(0, { tell := some (.b (decide (i_1 < (↑a.length:Int)))) })] [0, 1, 12, 13, 14] [] (by kernel_rfl) ?_
 refine sn (sq ?_)
 refine st_dec (i_1 < (↑a.length:Int)) (by kernel_rfl) (by kernel_rfl) (fun h_7 => ?_) (fun h_7 => ?_)
 refine st_skip (by kernel_rfl) ?_
 refine sn (sq ?_)
 refine st_block 1 (by kernel_rfl) ?_
 refine sq ?_
 refine rg (A := True) cx [] [0, 1, 12, 13, 5] [] trivial ?_
 refine sn (sq ?_)
 refine ra (A := ((0:Int) ≤ i_1) ∧ ((List.map c104 a)[i_1.toNat]? = some (c104 a[i_1.toNat]!)) ∧ ((c104 a[i_1.toNat]!).length = (3:Nat)) ∧ ((3:Nat) ≤ [AV.i .i64 a[i_1.toNat]!.rep, AV.i .i64 a[i_1.toNat]!.lo, AV.i .i64 a[i_1.toNat]!.hi].length) ∧ ((0:Int) ≤ i_1) ∧ ((List.map c104 b)[i_1.toNat]? = some (c104 b[i_1.toNat]!)) ∧ ((c104 b[i_1.toNat]!).length = (3:Nat)) ∧ ((3:Nat) ≤ [AV.i .i64 b[i_1.toNat]!.rep, AV.i .i64 b[i_1.toNat]!.lo, AV.i .i64 b[i_1.toNat]!.hi].length) ∧ (AggEq Tryz.prog (104:Nat) [AV.i .i64 a[i_1.toNat]!.rep, AV.i .i64 a[i_1.toNat]!.lo, AV.i .i64 a[i_1.toNat]!.hi] [AV.i .i64 b[i_1.toNat]!.rep, AV.i .i64 b[i_1.toNat]!.lo, AV.i .i64 b[i_1.toNat]!.hi] !decide ¬a[i_1.toNat]! = b[i_1.toNat]!)) cx [(2, { row := (c104 a[i_1.toNat]!) }), (6, { row := (c104 b[i_1.toNat]!) }), (8, { val := some (.b (decide ¬a[i_1.toNat]! = b[i_1.toNat]!)) })] [0, 1, 12, 13, 24] [] ⟨(by (with_reducible assumption)), (by (with_reducible refine get_map ?_; omega)), (by kernel_rfl), (by (simp only [List.length_append, List.length_cons, List.length_nil]; omega)), (by (with_reducible assumption)), (by (with_reducible refine get_map ?_; omega)), (by kernel_rfl), (by (simp only [List.length_append, List.length_cons, List.length_nil]; omega)), (aggNe_dec (eq104 a[i_1.toNat]! b[i_1.toNat]!))⟩ ?_
 refine sn ?_
 refine st_dec (¬a[i_1.toNat]! = b[i_1.toNat]!) (by kernel_rfl) (by kernel_rfl) (fun h_8 => ?_) (fun h_8 => ?_)
 refine sq ?_
 refine rg (A := True) cx [] [4] [] trivial ?_
 refine sn ?_
 refine st_ret (by kernel_rfl) ?_
 refine q_blk_ret ?_
 refine q_seq_ret ?_
 refine q_seq_ret ?_
 refine q_blk_ret ?_
 refine q_seq_ret ?_
 refine q_ret (r := .b (false)) (obl := []) (by kernel_rfl) trivial (AVle.eq (show AV.b false = AV.b (decide (a = b)) from ?g2)); rotate_left 1
 refine st_skip (by kernel_rfl) ?_
 refine q_blk_normal ?_
 refine sn ?_
 refine rg (A := (AV.i .i64 (IntKind.i64.wrap (i_1 + (1:Int))) = AV.i .i64 (i_1 + (1:Int)))) cx [(0, { tell := some (.i .i64 (i_1 + (1:Int))) })] [0, 1, 12, 13] [] (told_i64 (by omega) (by omega)) ?_
 refine sn ?_
 refine loop_next (i_1 + (1:Int)) (by kernel_rfl) (show ((↑a.length:Int) - (i_1 + (1:Int))).toNat < ((↑a.length:Int) - i_1).toNat from (by omega)) (show invE a b (i_1 + (1:Int)) from ?g3); rotate_left 1
 refine st_exit 0 (by kernel_rfl) ?_
 refine q_seq_exit ?_
 refine q_seq_exit ?_
 refine q_blk_hit ?_
 refine sn (sq ?_)
 refine rg (A := True) cx [] [4] [] trivial ?_
 refine sn ?_
 refine st_ret (by kernel_rfl) ?_
 refine q_ret (r := .b (true)) (obl := []) (by kernel_rfl) trivial (AVle.eq (show AV.b true = AV.b (decide (a = b)) from ?g4)); rotate_left 1
 revert h_0; rotate_left
 revert h_0; rotate_left
 revert h_0 i_1 h_3 h_4 h_5 h_6 h_7 h_8; rotate_left
 revert h_0 i_1 h_3 h_4 h_5 h_6 h_7 h_8; rotate_left
 revert h_0 i_1 h_3 h_4 h_5 h_6 h_7; rotate_left
 case g0 => exact (fun h => by rw [decide_eq_false (fun k => h (by rw [k]))])
 case g1 => exact (fun h => ⟨by omega, by omega, by omega, fun j hj => by omega⟩)
 case g2 => exact (fun h i h0 h1 h2 h3 h4 h5 => by rw [decide_eq_false (fun k => h5 (by rw [k]))])
 case g3 => exact (fun h i h0 h1 h2 h3 h4 h5 => ⟨by omega, by omega, h2, fun j hj => by
   by_cases e : j = i.toNat
   ·rw [e]; exact Classical.not_not.1 h5
   ·exact h3 j (by omega)⟩)
 case g4 => exact (fun h i h0 h1 h2 h3 h4 => by rw [decide_eq_true (eq_of_all h2 fun j hj => h3 j (by omega))])
theorem con82 (p : Past) (hb : p.cloud.length * 16 ≤ 140737488350000) : Con Tryz.prog 82 [.agg (c26 p)] (.b (decide (p = normP p))) :=
 by
 refine st_con tab_ok (by kernel_rfl) [.tmp 2] 18 Go.Proofs.Tryz.func82 (by kernel_rfl) (by kernel_rfl) ?_
 intro e0 cx
 refine sq ?_
 refine rg (A := True) cx [] [1] [1] trivial ?_
 refine sn (sq ?_)
 refine rg (A := _) cx [(1, { val := some (.agg [.sl (List.map c3 (normP p).vec), .sl (List.map c104 (normP p).cloud)]) })] [1, 3] [1, 3] (con107 (p) (by (with_reducible assumption))) ?_
 refine sn (sq ?_)
 refine st_join (σ' := ⟨[(2, .b (decide (p.vec = (normP p).vec ∧ p.cloud = (normP p).cloud)))], []⟩) ?_ ?_
 refine st_split (p.vec = (normP p).vec) (fun h_1 => ?_) (fun h_1 => ?_)
 refine rg (A := _ ∧ _ ∧ _ ∧ (AV.b (decide (p.cloud = (normP p).cloud)) = AV.b (decide (p.vec = (normP p).vec ∧ p.cloud = (normP p).cloud)))) cx [(4, { val := some (.b (decide (p.vec = (normP p).vec))), tell := some (.b (true)) }), (10, { val := some (.b (decide (p.cloud = (normP p).cloud))) }), (12, { tell := some (.b (decide (p.vec = (normP p).vec ∧ p.cloud = (normP p).cloud))) })] [2] [] ⟨(told_true h_1), (con130 (p.vec) ((normP p).vec)), (con131 (p.cloud) ((normP p).cloud)), (by simp only [eq_true h_1, told_simp1, told_simp2, and_true, true_and, and_false, false_and, or_true, true_or, or_false, false_or, not_true_eq_false, not_false_eq_true, decide_true, decide_false, Bool.decide_eq_true])⟩ ?_
 exact ⟨rfl, by kernel_rfl⟩
 refine rg (A := _ ∧ _ ∧ (AV.b false = AV.b (decide (p.vec = (normP p).vec ∧ p.cloud = (normP p).cloud)))) cx [(4, { val := some (.b (decide (p.vec = (normP p).vec))), tell := some (.b (false)) }), (12, { tell := some (.b (decide (p.vec = (normP p).vec ∧ p.cloud = (normP p).cloud))) })] [2] [] ⟨(told_false h_1), (con130 (p.vec) ((normP p).vec)), (by simp only [eq_false h_1, told_simp1, told_simp2, and_true, true_and, and_false, false_and, or_true, true_or, or_false, false_or, not_true_eq_false, not_false_eq_true, decide_true, decide_false, Bool.decide_eq_true])⟩ ?_
 exact ⟨rfl, by kernel_rfl⟩
 refine sn ?_
 refine st_ret (by kernel_rfl) ?_
 refine q_ret (r := .b (decide (p.vec = (normP p).vec ∧ p.cloud = (normP p).cloud))) (obl := []) (by kernel_rfl) trivial (AVle.eq (show AV.b (decide (p.vec = (normP p).vec ∧ p.cloud = (normP p).cloud)) = AV.b (decide (p = normP p)) from ?g0)); rotate_left 1
 case' g0 => refine (by
  congr 1
  refine decide_eq_decide.2 ?_
  generalize normP p = q
  cases p; cases q; simp)
end Go.Proofs.YtaiepnaokhpmcaaGreat
namespace Go.Proofs.YtaiepnaokhpmcaaGreat
open Go.E
set_option maxRecDepth 100000
set_option maxHeartbeats 4000000
def hasS (s : Span) (d : Dot) : Bool := decide (s.rep = d.rep ∧ s.lo ≤ d.num ∧ d.num ≤ s.hi)
def hasP (p : Past) (d : Dot) : Bool := dotB d && (decide (d.rep < p.vec.length ∧ d.num ≤ p.vec[d.rep.toNat]!) || p.cloud.any fun s => hasS s d)
end Go.Proofs.YtaiepnaokhpmcaaGreat
namespace Go.Proofs.YtaiepnaokhpmcaaGreat
open Go.E
set_option maxRecDepth 100000
set_option maxHeartbeats 4000000
def nrmT (T : Nat → List Run) (r:Nat) : List Run := nrm (T r)
theorem inR_cons (r : Run) (R : List Run) (n:Int) : inR (r :: R) n ↔ (r.lo ≤ n ∧ n ≤ r.hi) ∨ inR R n := by simp [inR]
theorem nrm_id {l : List Run} (h : sepR l) : nrm l = l := by
 refine sep_unique (nrm_sep l) h fun n => ?_
 rw [nrm_in]
 constructor
 ·exact fun k => k.2.2
 ·rintro ⟨r, hr, h1, h2⟩
  have := h.2 r hr
  exact ⟨by omega, by omega, r, hr, h1, h2⟩
theorem lead_nil : leadR [] = (0, []) := rfl
theorem nrm_nrm (l : List Run) : nrm (nrm l) = nrm l := nrm_id (nrm_sep l)
theorem tabP_nrm (T : Nat → List Run) : tabP (nrmT T) = tabP T := by
 have h1 : ∀ r, leadT (nrmT T) r = leadT T r := fun r => by unfold leadT nrmT; rw [nrm_nrm]
 have h2 : ∀ r, restT (nrmT T) r = restT T r := fun r => by unfold restT nrmT; rw [nrm_nrm]
 have h3 : ∀ n, szT (nrmT T) n = szT T n := fun n => by
  induction n with
  | zero => rfl
  | succ n ih => rw [szT, szT, h1, ih]
 have h4 : ∀ n, cloudT (nrmT T) n = cloudT T n := fun n => by
  induction n with
  | zero => rfl
  | succ n ih => rw [cloudT, cloudT, h2, ih]
 have h5 : vecT (nrmT T) 16 = vecT T 16 := by
  unfold vecT
  congr 1
  exact List.map_congr_left fun r _ => h1 r
 unfold tabP
 rw [h3, h4, h5]
theorem nrmT_sep (T : Nat → List Run) : ∀ r : Nat, r < 16 → sepR (nrmT T r) := fun r _ => nrm_sep _
theorem lead_in {l : List Run} (h : sepR l) {n : Int} (hn : 1 ≤ n) : inR l n ↔ n ≤ (leadR l).1 ∨ inR (leadR l).2 n := by
  cases l with
  | nil => rw [lead_nil]; simp only [inR]; constructor
           · rintro ⟨r, hr, _⟩; cases hr
           · rintro (k | ⟨r, hr, _⟩)
             · omega
             · cases hr
  | cons x l =>
    rw [inR_cons]
    unfold leadR
    by_cases hx : x.lo = 1
    · rw [if_neg (by simpa using hx)]
      show _ ↔ n ≤ x.hi ∨ inR l n
      constructor
      · rintro (k | k)
        · exact .inl k.2
        · exact .inr k
      · rintro (k | k)
        · exact .inl ⟨by omega, k⟩
        · exact .inr k
    · rw [if_pos (.inr (by simpa using hx))]
      show _ ↔ n ≤ 0 ∨ inR (x :: l) n
      rw [inR_cons]
      constructor
      · exact fun k => .inr k
      · rintro (k | k)
        · omega
        · exact k
theorem sz_spec (T : Nat → List Run) : ∀ n : Nat, 0 ≤ szT T n ∧ szT T n ≤ n ∧ ∀ r : Nat, r < n → szT T n ≤ r → ¬ 0 < leadT T r
 | 0 => ⟨by simp [szT], by simp [szT], fun r hr => by omega⟩
 | n + 1 => by
  obtain ⟨h1, h2, h3⟩ := sz_spec T n
  rw [szT]
  split
  ·exact ⟨by omega, by omega, fun r hr k => by omega⟩
  ·rename_i hn
   refine ⟨h1, by omega, fun r hr k => ?_⟩
   by_cases e : r = n
   ·rw [e]; exact hn
   ·exact h3 r (by omega) k
theorem cloud_mem (T : Nat → List Run) (s : Span) : ∀ n : Nat, s ∈ cloudT T n ↔ ∃ r : Nat, r < n ∧ s ∈ restT T r
 | 0 => by simp [cloudT]
 | n + 1 => by
  rw [cloudT, List.mem_append, cloud_mem T s n]
  constructor
  ·rintro (⟨r, h1, h2⟩ | h)
   ·exact ⟨r, by omega, h2⟩
   ·exact ⟨n, by omega, h⟩
  ·rintro ⟨r, h1, h2⟩
   by_cases e : r = n
   ·exact .inr (e ▸ h2)
   ·exact .inl ⟨r, by omega, h2⟩
theorem vec_at (T : Nat → List Run) {r : Nat} (h : (r:Int) < szT T 16) : (tabP T).vec[r]! = leadT T r ∧ r < (tabP T).vec.length := by
 have h2 := (sz_spec T 16).2.1
 have hl : (vecT T 16).length = 16 := by simp [vecT]
 have hr : r < ((vecT T 16).take (szT T 16).toNat).length := by rw [List.length_take, hl]; omega
 refine ⟨?_, hr⟩
 show ((vecT T 16).take (szT T 16).toNat)[r]! = _
 rw [getElem!_pos ((vecT T 16).take (szT T 16).toNat) r hr, List.getElem_take]
 unfold vecT
 rw [List.getElem_append_left (by simp; omega)]
 simp
theorem vec_len (T : Nat → List Run) : ((tabP T).vec.length:Int) = szT T 16 := by
 have h2 := sz_spec T 16
 show (((vecT T 16).take (szT T 16).toNat).length:Int) = _
 rw [List.length_take]
 simp [vecT]
 omega
theorem has_tab (T : Nat → List Run) (d : Dot) : hasP (tabP T) d = true ↔ dotB d = true ∧ inR (T d.rep.toNat) d.num := by
 unfold hasP
 rw [Bool.and_eq_true]
 refine and_congr_right fun hd => ?_
 have hb := dotB_in hd
 have e1 : inR (T d.rep.toNat) d.num ↔ inR (nrm (T d.rep.toNat)) d.num := by
  rw [nrm_in]
  exact ⟨fun k => ⟨by omega, by omega, k⟩, fun k => k.2.2⟩
 rw [e1, lead_in (nrm_sep _) (by omega), Bool.or_eq_true, decide_eq_true_eq]
 refine or_congr ?_ ?_
 ·rw [vec_len]
  constructor
  ·rintro ⟨h1, h2⟩
   have := (vec_at T (r := d.rep.toNat) (by omega)).1
   rw [this] at h2
   exact h2
  ·intro k
   have k : d.num ≤ leadT T d.rep.toNat := k
   have h1 : d.rep < szT T 16 := by
    apply Classical.byContradiction
    intro hn
    have := (sz_spec T 16).2.2 d.rep.toNat (by omega) (by omega)
    omega
   refine ⟨h1, ?_⟩
   rw [(vec_at T (r := d.rep.toNat) (by omega)).1]
   exact k
 ·rw [List.any_eq_true]
  unfold hasS
  constructor
  ·rintro ⟨s, hs, h⟩
   rw [decide_eq_true_eq] at h
   obtain ⟨r, hr, hs⟩ := (cloud_mem T s 16).1 hs
   unfold restT at hs
   obtain ⟨x, hx, rfl⟩ := List.mem_map.1 hs
   simp only at h
   have : r = d.rep.toNat := by omega
   subst this
   exact ⟨x, hx, h.2.1, h.2.2⟩
  ·rintro ⟨x, hx, h1, h2⟩
   refine ⟨⟨d.rep.toNat, x.lo, x.hi⟩, (cloud_mem T _ 16).2 ⟨d.rep.toNat, by omega, List.mem_map.2 ⟨x, hx, rfl⟩⟩, ?_⟩
   rw [decide_eq_true_eq]
   exact ⟨by show ((d.rep.toNat:Nat):Int) = d.rep; omega, h1, h2⟩
theorem inR_app (a b : List Run) (n:Int) : inR (a ++ b) n ↔ inR a n ∨ inR b n := by
 unfold inR
 constructor
 ·rintro ⟨y, hy, h⟩
  rcases List.mem_append.1 hy with hy | hy
  ·exact .inl ⟨y, hy, h⟩
  ·exact .inr ⟨y, hy, h⟩
 ·rintro (⟨y, hy, h⟩ | ⟨y, hy, h⟩)
  ·exact ⟨y, List.mem_append.2 (.inl hy), h⟩
  ·exact ⟨y, List.mem_append.2 (.inr hy), h⟩
theorem vecR_in {p : Past} {d : Dot} (hd : dotB d = true) : inR (vecR p.vec d.rep.toNat) d.num ↔ (d.rep < p.vec.length ∧ d.num ≤ p.vec[d.rep.toNat]!) := by
 have hb := dotB_in hd
 unfold vecR inR
 split
 ·simp only [List.mem_singleton, exists_eq_left]
  constructor
  ·exact fun k => ⟨by omega, k.2⟩
  ·exact fun k => ⟨by omega, k.2⟩
 ·constructor
  ·rintro ⟨r, hr, _⟩; cases hr
  ·rintro ⟨h, _⟩; omega
theorem cloudR_in {p : Past} {d : Dot} (hd : dotB d = true) : inR (cloudR p.cloud d.rep.toNat) d.num ↔ (p.cloud.any fun s => hasS s d) = true := by
 have hb := dotB_in hd
 rw [List.any_eq_true]
 unfold inR cloudR hasS
 constructor
 ·rintro ⟨x, hx, h1, h2⟩
  obtain ⟨s, hs, rfl⟩ := List.mem_map.1 hx
  obtain ⟨hs, hq⟩ := List.mem_filter.1 hs
  rw [decide_eq_true_eq] at hq
  exact ⟨s, hs, by rw [decide_eq_true_eq]; exact ⟨by omega, h1, h2⟩⟩
 ·rintro ⟨s, hs, h⟩
  rw [decide_eq_true_eq] at h
  exact ⟨⟨s.lo, s.hi⟩, List.mem_map.2 ⟨s, List.mem_filter.2 ⟨hs, by rw [decide_eq_true_eq]; omega⟩, rfl⟩, h.2.1, h.2.2⟩
theorem has_in (p : Past) (d : Dot) : hasP p d = true ↔ dotB d = true ∧ (inR (vecR p.vec d.rep.toNat) d.num ∨ inR (cloudR p.cloud d.rep.toNat) d.num) := by
 unfold hasP
 rw [Bool.and_eq_true]
 refine and_congr_right fun hd => ?_
 rw [vecR_in hd, cloudR_in hd, Bool.or_eq_true, decide_eq_true_eq]
theorem has_open (ps : List Past) (d : Dot) : hasP (tabP (openT ps)) d = true ↔ ∃ p ∈ ps, hasP p d = true := by
 rw [has_tab]
 have e : inR (openT ps d.rep.toNat) d.num ↔ ∃ p ∈ ps, inR (vecR p.vec d.rep.toNat ++ cloudR p.cloud d.rep.toNat) d.num := by
  unfold inR openT
  constructor
  ·rintro ⟨r, hr, h⟩
   obtain ⟨l, hl, hr⟩ := List.mem_flatten.1 hr
   obtain ⟨p, hp, rfl⟩ := List.mem_map.1 hl
   exact ⟨p, hp, r, hr, h⟩
  ·rintro ⟨p, hp, r, hr, h⟩
   exact ⟨r, List.mem_flatten.2 ⟨_, List.mem_map.2 ⟨p, hp, rfl⟩, hr⟩, h⟩
 rw [e]
 constructor
 ·rintro ⟨hd, p, hp, h⟩
  rw [inR_app] at h
  exact ⟨p, hp, (has_in p d).2 ⟨hd, h⟩⟩
 ·rintro ⟨p, hp, h⟩
  have := (has_in p d).1 h
  exact ⟨this.1, p, hp, (inR_app _ _ _).2 this.2⟩
theorem has_norm (p : Past) (d : Dot) : hasP (normP p) d = hasP p d := by
 rw [Bool.eq_iff_iff]
 unfold normP
 rw [has_open]
 simp
theorem tab_ext {T U : Nat → List Run} (h : ∀ d, hasP (tabP T) d = true ↔ hasP (tabP U) d = true) : tabP T = tabP U := by
 rw [← tabP_nrm T, ← tabP_nrm U]
 refine tabP_congr fun r hr => ?_
 refine sep_unique (nrm_sep _) (nrm_sep _) fun n => ?_
 show inR (nrm _) n ↔ inR (nrm _) n
 rw [nrm_in, nrm_in]
 refine and_congr_right fun n0 => and_congr_right fun n1 => ?_
 have hd : dotB ⟨r, n⟩ = true := by unfold dotB; rw [decide_eq_true_eq]; simp only; omega
 have := h ⟨r, n⟩
 rw [has_tab, has_tab] at this
 simp only [hd, true_and] at this
 exact this
theorem norm_ext {p q : Past} (hp : p = normP p) (hq : q = normP q) (h : ∀ d, hasP p d = hasP q d) : p = q := by
 rw [hp, hq]
 refine tab_ext fun d => ?_
 have h1 := has_norm p d
 have h2 := has_norm q d
 unfold normP at h1 h2
 rw [h1, h2, h d]
theorem tabP_len (T : Nat → List Run) : (tabP T).cloud.length ≤ 8000000000 ∧ (tabP T).vec.length ≤ 16 := by
 have h1 := cloud_len T 16
 have h2 := vec_len T
 have h3 := (sz_spec T 16).2.1
 exact ⟨by show (cloudT T 16).length ≤ _; omega, by omega⟩
end Go.Proofs.YtaiepnaokhpmcaaGreat
namespace Go.Proofs.YtaiepnaokhpmcaaGreat
open Go.E
set_option maxRecDepth 100000
set_option maxHeartbeats 4000000
def meetL : List Run → List Run → List Run
 | x :: a, y :: b => (if max x.lo y.lo ≤ min x.hi y.hi then [⟨max x.lo y.lo, min x.hi y.hi⟩] else []) ++ (if x.hi < y.hi then meetL a (y :: b) else meetL (x :: a) b)
 | _, _ => []
termination_by a b => a.length + b.length
theorem meetL_nil (b : List Run) : meetL [] b = [] := by unfold meetL; rfl
theorem meetL_nil2 (a : List Run) : meetL a [] = [] := by unfold meetL; cases a <;> rfl
theorem meetL_cons (x y : Run) (a b : List Run) : meetL (x :: a) (y :: b) = (if max x.lo y.lo ≤ min x.hi y.hi then [⟨max x.lo y.lo, min x.hi y.hi⟩] else []) ++ (if x.hi < y.hi then meetL a (y :: b) else meetL (x :: a) b) := by rw [meetL]
def othL : Int → List Run → List Run
 | n, [] => if n ≤ 1000000000 then [⟨n, 1000000000⟩] else []
 | n, r :: l => (if n < r.lo then [⟨n, r.lo - 1⟩] else []) ++ othL (r.hi + 1) l
def minR (a b : List Run) : List Run := meetL (nrm a) (nrm (othL 1 (nrm b)))
def metR (a b : List Run) : List Run := meetL (nrm a) (nrm b)
theorem sepR_tail {x : Run} {a : List Run} (h : sepR (x :: a)) : sepR a := ⟨(List.pairwise_cons.1 h.1).2, fun r hr => h.2 r (by simp [hr])⟩
theorem sepR_lt {x : Run} {a : List Run} (h : sepR (x :: a)) {n : Int} (k : inR a n) : x.hi + 1 < n := by
 obtain ⟨r, hr, h1, _⟩ := k
 have := (List.pairwise_cons.1 h.1).1 r hr
 omega
theorem inR_if (c : Prop) [Decidable c] (r : Run) (n:Int) : inR (if c then [r] else []) n ↔ c ∧ r.lo ≤ n ∧ n ≤ r.hi := by
 split <;> simp [inR, *]
theorem meetL_in : ∀ (k:Nat) (a b : List Run), a.length + b.length ≤ k → sepR a → sepR b → ∀ n, inR (meetL a b) n ↔ inR a n ∧ inR b n := by
 intro k
 induction k with
 | zero =>
  intro a b hk _ _ n
  have : a = [] := List.eq_nil_of_length_eq_zero (by omega)
  subst this
  rw [meetL_nil]
  simp [inR]
 | succ k ih =>
  intro a b hk ha hb n
  cases a with
  | nil => rw [meetL_nil]; simp [inR]
  | cons x a =>
   cases b with
   | nil => rw [meetL_nil2]; simp [inR]
   | cons y b =>
    have hx := ha.2 x (by simp)
    have hy := hb.2 y (by simp)
    have la : inR a n → x.hi + 1 < n := sepR_lt ha
    have lb : inR b n → y.hi + 1 < n := sepR_lt hb
    simp only [List.length_cons] at hk
    rw [meetL_cons, inR_app, inR_if]
    split
    ·rw [ih a (y :: b) (by simp only [List.length_cons]; omega) (sepR_tail ha) hb n, inR_cons, inR_cons]
     simp only
     constructor
     ·rintro (h | ⟨h1, h2⟩)
      ·exact ⟨.inl (by omega), .inl (by omega)⟩
      ·exact ⟨.inr h1, h2⟩
     ·rintro ⟨h1 | h1, h2 | h2⟩
      ·exact .inl (by omega)
      ·have := lb h2; omega
      ·exact .inr ⟨h1, .inl h2⟩
      ·exact .inr ⟨h1, .inr h2⟩
    ·rw [ih (x :: a) b (by simp only [List.length_cons]; omega) ha (sepR_tail hb) n, inR_cons, inR_cons]
     simp only
     constructor
     ·rintro (h | ⟨h1, h2⟩)
      ·exact ⟨.inl (by omega), .inl (by omega)⟩
      ·exact ⟨h1, .inr h2⟩
     ·rintro ⟨h1 | h1, h2 | h2⟩
      ·exact .inl (by omega)
      ·exact .inr ⟨.inl h1, h2⟩
      ·have := la h1; omega
      ·exact .inr ⟨.inr h1, h2⟩
theorem meetL_sub : ∀ (k:Nat) (a b : List Run), a.length + b.length ≤ k → ∀ r ∈ meetL a b, r.lo ≤ r.hi ∧ (∃ x ∈ a, x.lo ≤ r.lo ∧ r.hi ≤ x.hi) ∧ ∃ y ∈ b, y.lo ≤ r.lo ∧ r.hi ≤ y.hi := by
 intro k
 induction k with
 | zero =>
  intro a b hk r hr
  have : a = [] := List.eq_nil_of_length_eq_zero (by omega)
  subst this
  rw [meetL_nil] at hr
  cases hr
 | succ k ih =>
  intro a b hk r hr
  cases a with
  | nil => rw [meetL_nil] at hr; cases hr
  | cons x a =>
   cases b with
   | nil => rw [meetL_nil2] at hr; cases hr
   | cons y b =>
    simp only [List.length_cons] at hk
    rw [meetL_cons] at hr
    rcases List.mem_append.1 hr with hr | hr
    ·split at hr
     ·have : r = ⟨max x.lo y.lo, min x.hi y.hi⟩ := by simpa using hr
      subst this
      exact ⟨by simp only; omega, ⟨x, by simp, by simp only; omega, by simp only; omega⟩, ⟨y, by simp, by simp only; omega, by simp only; omega⟩⟩
     ·cases hr
    ·split at hr
     ·obtain ⟨h0, ⟨x', hx, h1⟩, h2⟩ := ih a (y :: b) (by simp only [List.length_cons]; omega) r hr
      exact ⟨h0, ⟨x', by simp [hx], h1⟩, h2⟩
     ·obtain ⟨h0, h1, ⟨y', hy, h2⟩⟩ := ih (x :: a) b (by simp only [List.length_cons]; omega) r hr
      exact ⟨h0, h1, ⟨y', by simp [hy], h2⟩⟩
theorem meetL_sep : ∀ (k:Nat) (a b : List Run), a.length + b.length ≤ k → sepR a → sepR b → sepR (meetL a b) := by
 intro k
 induction k with
 | zero =>
  intro a b hk _ _
  have : a = [] := List.eq_nil_of_length_eq_zero (by omega)
  subst this
  rw [meetL_nil]
  exact sepR_nil
 | succ k ih =>
  intro a b hk ha hb
  cases a with
  | nil => rw [meetL_nil]; exact sepR_nil
  | cons x a =>
   cases b with
   | nil => rw [meetL_nil2]; exact sepR_nil
   | cons y b =>
    simp only [List.length_cons] at hk
    have hx := ha.2 x (by simp)
    have hy := hb.2 y (by simp)
    have pa := (List.pairwise_cons.1 ha.1).1
    have pb := (List.pairwise_cons.1 hb.1).1
    rw [meetL_cons]
    have key : ∀ m : List Run, sepR m → (∀ r ∈ m, min x.hi y.hi + 1 < r.lo) → sepR ((if max x.lo y.lo ≤ min x.hi y.hi then [(⟨max x.lo y.lo, min x.hi y.hi⟩ : Run)] else []) ++ m) := by
     intro m hm hlt
     split
     ·refine ⟨List.pairwise_append.2 ⟨by simp, hm.1, fun u hu v hv => ?_⟩, fun r hr => ?_⟩
      ·have : u = ⟨max x.lo y.lo, min x.hi y.hi⟩ := by simpa using hu
       subst this
       exact hlt v hv
      ·rcases List.mem_append.1 hr with hr | hr
       ·have : r = ⟨max x.lo y.lo, min x.hi y.hi⟩ := by simpa using hr
        subst this
        simp only
        omega
       ·exact hm.2 r hr
     ·exact hm
    by_cases hd : x.hi < y.hi
    ·rw [if_pos hd]
     refine key _ (ih a (y :: b) (by simp only [List.length_cons]; omega) (sepR_tail ha) hb) fun r hr => ?_
     obtain ⟨_, ⟨x', hx', h1, _⟩, _⟩ := meetL_sub _ a (y :: b) (Nat.le_refl _) r hr
     have := pa x' hx'
     omega
    ·rw [if_neg hd]
     refine key _ (ih (x :: a) b (by simp only [List.length_cons]; omega) ha (sepR_tail hb)) fun r hr => ?_
     obtain ⟨_, _, ⟨y', hy', h1, _⟩⟩ := meetL_sub _ (x :: a) b (Nat.le_refl _) r hr
     have := pb y' hy'
     omega
theorem othL_in : ∀ (l : List Run) (n:Int), sepR l → (∀ r ∈ l, n ≤ r.lo) → ∀ k, inR (othL n l) k ↔ n ≤ k ∧ k ≤ 1000000000 ∧ ¬ inR l k
  | [], n, _, _, k => by
    unfold othL
    rw [inR_if]
    simp only [inR, List.not_mem_nil, false_and, exists_false, not_false_eq_true, and_true]
    omega
  | r :: l, n, h, hn, k => by
    have hr := h.2 r (by simp)
    have h1 := hn r (by simp)
    have pa := (List.pairwise_cons.1 h.1).1
    have ih := othL_in l (r.hi + 1) (sepR_tail h) (fun x hx => by have := pa x hx; omega) k
    have lt : inR l k → r.hi + 1 < k := sepR_lt h
    rw [othL, inR_app, inR_if, ih, inR_cons]
    simp only
    constructor
    · rintro (g | ⟨g1, g2, g3⟩)
      · exact ⟨by omega, by omega, fun c => by rcases c with c | c; · omega
                                               · have := lt c; omega⟩
      · exact ⟨by omega, by omega, fun c => by rcases c with c | c; · omega
                                               · exact g3 c⟩
    · rintro ⟨g1, g2, g3⟩
      by_cases e : k < r.lo
      · exact .inl ⟨by omega, by omega, by omega⟩
      · exact .inr ⟨by apply Classical.byContradiction; intro c; exact g3 (.inl ⟨by omega, by omega⟩), g2, fun c => g3 (.inr c)⟩
theorem othL_lo : ∀ (l : List Run) (n:Int), sepR l → (∀ r ∈ l, n ≤ r.lo) → ∀ r ∈ othL n l, n ≤ r.lo ∧ r.lo ≤ r.hi ∧ r.hi ≤ 1000000000
 | [], n, _, _, r, hr => by
  unfold othL at hr
  split at hr
  ·have : r = ⟨n, 1000000000⟩ := by simpa using hr
   subst this
   simp only
   omega
  ·cases hr
 | x :: l, n, h, hn, r, hr => by
  have hx := h.2 x (by simp)
  have h1 := hn x (by simp)
  have pa := (List.pairwise_cons.1 h.1).1
  rw [othL] at hr
  rcases List.mem_append.1 hr with hr | hr
  ·split at hr
   ·have : r = ⟨n, x.lo - 1⟩ := by simpa using hr
    subst this
    simp only
    omega
   ·cases hr
  ·have := othL_lo l (x.hi + 1) (sepR_tail h) (fun y hy => by have := pa y hy; omega) r hr
   omega
theorem othL_sep : ∀ (l : List Run) (n:Int), 1 ≤ n → sepR l → (∀ r ∈ l, n ≤ r.lo) → sepR (othL n l)
  | [], n, h1, _, _ => by
    unfold othL
    split
    · exact ⟨by simp, fun r hr => by have : r = ⟨n, 1000000000⟩ := by simpa using hr
                                     subst this; simp only; omega⟩
    · exact sepR_nil
  | x :: l, n, h0, h, hn => by
    have hx := h.2 x (by simp)
    have h1 := hn x (by simp)
    have pa := (List.pairwise_cons.1 h.1).1
    have hp : ∀ r ∈ l, x.hi + 1 ≤ r.lo := fun y hy => by have := pa y hy; omega
    have ih := othL_sep l (x.hi + 1) (by omega) (sepR_tail h) hp
    have lo := othL_lo l (x.hi + 1) (sepR_tail h) hp
    rw [othL]
    split
    · refine ⟨List.pairwise_append.2 ⟨by simp, ih.1, fun u hu v hv => ?_⟩, fun r hr => ?_⟩
      · have : u = ⟨n, x.lo - 1⟩ := by simpa using hu
        subst this
        have := lo v hv
        simp only
        omega
      · rcases List.mem_append.1 hr with hr | hr
        · have : r = ⟨n, x.lo - 1⟩ := by simpa using hr
          subst this
          simp only
          omega
        · exact ih.2 r hr
    · exact ih
theorem oth_sep (b : List Run) : sepR (othL 1 (nrm b)) := othL_sep _ _ (Int.le_refl _) (nrm_sep b) fun r hr => ((nrm_sep b).2 r hr).1
theorem minR_sep (a b : List Run) : sepR (minR a b) := meetL_sep _ _ _ (Nat.le_refl _) (nrm_sep _) (nrm_sep _)
theorem minR_in (a b : List Run) (n:Int) : inR (minR a b) n ↔ inR (nrm a) n ∧ ¬ inR (nrm b) n := by
 unfold minR
 rw [meetL_in _ _ _ (Nat.le_refl _) (nrm_sep _) (nrm_sep _) n, nrm_id (oth_sep b), othL_in _ _ (nrm_sep b) (fun r hr => ((nrm_sep b).2 r hr).1)]
 refine and_congr_right fun h => ?_
 rw [nrm_in] at h
 exact ⟨fun k => k.2.2, fun k => ⟨h.1, h.2.1, k⟩⟩
theorem minR_len (a b : List Run) : (minR a b).length ≤ 500000000 := sepR_len (minR_sep a b)
def minusP (a b : Past) : Past := tabP fun r => minR (openT [a] r) (openT [b] r)
end Go.Proofs.YtaiepnaokhpmcaaGreat
namespace Go.Proofs.YtaiepnaokhpmcaaGreat
open Go.E
set_option maxRecDepth 100000
set_option maxHeartbeats 4000000
def cmpI (a b:Int) : Int := if a < b then -1 else if b < a then 1 else 0
def cmpF (u v : List Int) : Nat → Nat → Int
 | _, 0 => 0
 | r, k + 1 => if u[r]! = v[r]! then cmpF u v (r + 1) k else cmpI u[r]! v[r]!
def cmpS (s t : Span) : Int := if cmpI s.rep t.rep ≠ 0 then cmpI s.rep t.rep else if cmpI s.lo t.lo ≠ 0 then cmpI s.lo t.lo else cmpI s.hi t.hi
def cmpC : List Span → List Span → Int
 | [], [] => 0
 | [], _ :: _ => -1
 | _ :: _, [] => 1
 | s :: a, t :: b => if cmpS s t ≠ 0 then cmpS s t else cmpC a b
def cmpQ (x y : Past) : Int := if cmpF x.vec y.vec 0 16 ≠ 0 then cmpF x.vec y.vec 0 16 else cmpC x.cloud y.cloud
def cmpP (p q : Past) : Int := cmpQ (normP p) (normP q)
structure Ord3 {α : Type} (c : α → α → Int) : Prop where
 rng : ∀ x y, c x y = -1 ∨ c x y = 0 ∨ c x y = 1
 neg : ∀ x y, c y x = -(c x y)
 tr : ∀ x y z, c x y ≤ 0 → c y z ≤ 0 → c x z ≤ 0
 tr0 : ∀ x y z, c x y = 0 → c y z = 0 → c x z = 0
theorem Ord3.lt {α : Type} {c : α → α → Int} (h : Ord3 c) {x y z : α} (h1 : c x y < 0) (h2 : c y z ≤ 0) : c x z < 0 := by
 have h3 := h.tr x y z (by omega) h2
 apply Classical.byContradiction
 intro h4
 have h5 : c x z = 0 := by omega
 have h6 : c z x = 0 := by rw [h.neg x z]; omega
 have h7 := h.tr y z x h2 (by omega)
 have := h.neg x y
 omega
theorem Ord3.lt' {α : Type} {c : α → α → Int} (h : Ord3 c) {x y z : α} (h1 : c x y ≤ 0) (h2 : c y z < 0) : c x z < 0 := by
 have h3 := h.tr x y z h1 (by omega)
 apply Classical.byContradiction
 intro h4
 have h5 : c x z = 0 := by omega
 have h6 : c z x = 0 := by rw [h.neg x z]; omega
 have h7 := h.tr z x y (by omega) h1
 have := h.neg y z
 omega
theorem Ord3.self {α : Type} {c : α → α → Int} (h : Ord3 c) (x : α) : c x x = 0 := by have := h.neg x x; omega
theorem ordI : Ord3 cmpI := by
 refine ⟨fun x y => ?_, fun x y => ?_, fun x y z => ?_, fun x y z => ?_⟩ <;> unfold cmpI <;> (repeat' split) <;> omega
theorem ord_then {α β γ : Type} {c : β → β → Int} {d : γ → γ → Int} (hc : Ord3 c) (hd : Ord3 d) (f : α → β) (g : α → γ) : Ord3 (fun x y => if c (f x) (f y) ≠ 0 then c (f x) (f y) else d (g x) (g y)) := by
 refine ⟨fun x y => ?_, fun x y => ?_, fun x y z => ?_, fun x y z => ?_⟩
 ·split
  ·exact hc.rng _ _
  ·exact hd.rng _ _
 ·have h1 := hc.neg (f x) (f y)
  have h2 := hd.neg (g x) (g y)
  split <;> split <;> omega
 ·intro h1 h2
  have b1 := hc.neg (f x) (f y)
  by_cases e1 : c (f x) (f y) = 0
  ·rw [if_neg (by simpa using e1)] at h1
   by_cases e2 : c (f y) (f z) = 0
   ·rw [if_neg (by simpa using e2)] at h2
    rw [if_neg (by simpa using hc.tr0 _ _ _ e1 e2)]
    exact hd.tr _ _ _ h1 h2
   ·rw [if_pos e2] at h2
    have := hc.lt' (x := f x) (y := f y) (z := f z) (by omega) (by omega)
    rw [if_pos (by omega)]
    omega
  ·rw [if_pos e1] at h1
   have h2' : c (f y) (f z) ≤ 0 := by
    by_cases e2 : c (f y) (f z) = 0
    ·omega
    ·rw [if_pos e2] at h2; exact h2
   have := hc.lt (x := f x) (y := f y) (z := f z) (by omega) h2'
   rw [if_pos (by omega)]
   omega
 ·intro h1 h2
  have e1 : c (f x) (f y) = 0 := by
   apply Classical.byContradiction
   intro e
   rw [if_pos e] at h1
   exact e h1
  have e2 : c (f y) (f z) = 0 := by
   apply Classical.byContradiction
   intro e
   rw [if_pos e] at h2
   exact e h2
  rw [if_neg (by simpa using e1)] at h1
  rw [if_neg (by simpa using e2)] at h2
  rw [if_neg (by simpa using hc.tr0 _ _ _ e1 e2)]
  exact hd.tr0 _ _ _ h1 h2
theorem cmpI_zero {a b : Int} : cmpI a b = 0 ↔ a = b := by unfold cmpI; split <;> (try split) <;> omega
theorem ordF (k:Nat) : ∀ r : Nat, Ord3 fun u v : List Int => cmpF u v r k := by
 induction k with
 | zero => exact fun r => ⟨fun _ _ => .inr (.inl rfl), fun _ _ => rfl, fun _ _ _ _ _ => Int.le_refl _, fun _ _ _ _ _ => rfl⟩
 | succ k ih =>
  intro r
  have h := ord_then ordI (ih (r + 1)) (fun u : List Int => u[r]!) (fun u => u)
  have e : (fun u v : List Int => cmpF u v r (k + 1)) = fun u v => if cmpI u[r]! v[r]! ≠ 0 then cmpI u[r]! v[r]! else cmpF u v (r + 1) k := by
   funext u v
   rw [cmpF]
   by_cases e : u[r]! = v[r]!
   ·rw [if_pos e, if_neg (by rw [cmpI_zero.2 e]; simp)]
   ·rw [if_neg e, if_pos (fun k => e (cmpI_zero.1 k))]
  rw [e]
  exact h
theorem ordS : Ord3 cmpS := ord_then ordI (ord_then ordI ordI (fun s : Span => s.lo) (fun s : Span => s.hi)) (fun s : Span => s.rep) (fun s => s)
theorem ordC : Ord3 cmpC := by
 refine ⟨fun x => ?_, fun x => ?_, fun x => ?_, fun x => ?_⟩
 ·induction x with
  | nil => intro y; cases y <;> simp [cmpC]
  | cons s a ih =>
   intro y
   cases y with
   | nil => simp [cmpC]
   | cons t b =>
    rw [cmpC]
    split
    ·exact ordS.rng _ _
    ·exact ih b
 ·induction x with
  | nil => intro y; cases y <;> simp [cmpC]
  | cons s a ih =>
   intro y
   cases y with
   | nil => simp [cmpC]
   | cons t b =>
    rw [cmpC, cmpC]
    have h1 := ordS.neg s t
    have h2 := ih b
    split <;> split <;> omega
 ·induction x with
  | nil => intro y z _ _; cases z <;> simp [cmpC]
  | cons s a ih =>
   intro y z h1 h2
   cases y with
   | nil => simp [cmpC] at h1
   | cons t b =>
    cases z with
    | nil => simp [cmpC] at h2
    | cons r d =>
     rw [cmpC] at h1 h2 ⊢
     by_cases e1 : cmpS s t = 0
     ·rw [if_neg (by simpa using e1)] at h1
      by_cases e2 : cmpS t r = 0
      ·rw [if_neg (by simpa using e2)] at h2
       rw [if_neg (by simpa using ordS.tr0 _ _ _ e1 e2)]
       exact ih b d h1 h2
      ·rw [if_pos e2] at h2
       have := ordS.lt' (x := s) (y := t) (z := r) (by omega) (by omega)
       rw [if_pos (by omega)]
       omega
     ·rw [if_pos e1] at h1
      have h2' : cmpS t r ≤ 0 := by
       by_cases e2 : cmpS t r = 0
       ·omega
       ·rw [if_pos e2] at h2; exact h2
      have := ordS.lt (x := s) (y := t) (z := r) (by omega) h2'
      rw [if_pos (by omega)]
      omega
 ·induction x with
  | nil =>
   intro y z h1 h2
   cases y with
   | nil => exact h2
   | cons t b => simp [cmpC] at h1
  | cons s a ih =>
   intro y z h1 h2
   cases y with
   | nil => simp [cmpC] at h1
   | cons t b =>
    cases z with
    | nil => simp [cmpC] at h2
    | cons r d =>
     rw [cmpC] at h1 h2 ⊢
     have e1 : cmpS s t = 0 := by
      apply Classical.byContradiction
      intro e
      rw [if_pos e] at h1
      exact e h1
     have e2 : cmpS t r = 0 := by
      apply Classical.byContradiction
      intro e
      rw [if_pos e] at h2
      exact e h2
     rw [if_neg (by simpa using e1)] at h1
     rw [if_neg (by simpa using e2)] at h2
     rw [if_neg (by simpa using ordS.tr0 _ _ _ e1 e2)]
     exact ih b d h1 h2
theorem ordQ : Ord3 cmpQ := ord_then (ordF 16 0) ordC (fun p : Past => p.vec) (fun p => p.cloud)
theorem ordP : Ord3 cmpP := ⟨fun _ _ => ordQ.rng _ _, fun _ _ => ordQ.neg _ _, fun _ _ _ => ordQ.tr _ _ _, fun _ _ _ => ordQ.tr0 _ _ _⟩
theorem cmpF_zero {u v : List Int} : ∀ {k r : Nat}, cmpF u v r k = 0 → ∀ j : Nat, r ≤ j → j < r + k → u[j]! = v[j]!
 | 0, r, _, j, h1, h2 => by omega
 | k + 1, r, h, j, h1, h2 => by
  rw [cmpF] at h
  by_cases e : u[r]! = v[r]!
  ·rw [if_pos e] at h
   by_cases e2 : j = r
   ·rw [e2]; exact e
   ·exact cmpF_zero h j (by omega) (by omega)
  ·rw [if_neg e] at h
   exact absurd (cmpI_zero.1 h) e
theorem cmpS_zero {s t : Span} (h : cmpS s t = 0) : s = t := by
 unfold cmpS at h
 split at h
 ·rename_i e; exact absurd h e
 ·rename_i e1
  split at h
  ·rename_i e; exact absurd h e
  ·rename_i e2
   have a1 := cmpI_zero.1 (Classical.not_not.1 e1)
   have a2 := cmpI_zero.1 (Classical.not_not.1 e2)
   have a3 := cmpI_zero.1 h
   cases s; cases t
   simp only at a1 a2 a3
   rw [a1, a2, a3]
theorem cmpC_zero : ∀ {a b : List Span}, cmpC a b = 0 → a = b
 | [], [], _ => rfl
 | [], _ :: _, h => by simp [cmpC] at h
 | _ :: _, [], h => by simp [cmpC] at h
 | s :: a, t :: b, h => by
  rw [cmpC] at h
  split at h
  ·rename_i e; exact absurd h e
  ·rename_i e
   rw [cmpS_zero (Classical.not_not.1 e), cmpC_zero h]
theorem vec_last (T : Nat → List Run) (h : 0 < (tabP T).vec.length) : 0 < (tabP T).vec[(tabP T).vec.length - 1]! := by
 have hl := vec_len T
 have key : ∀ n : Nat, 0 < szT T n → 0 < leadT T (szT T n - 1).toNat := by
  intro n
  induction n with
  | zero => intro h; simp [szT] at h
  | succ n ih =>
   rw [szT]
   split
   ·rename_i k
    intro _
    rw [show ((n:Int) + 1 - 1).toNat = n by omega]
    exact k
   ·exact ih
 have e : (tabP T).vec.length - 1 = (szT T 16 - 1).toNat := by omega
 rw [e, (vec_at T (r := (szT T 16 - 1).toNat) (by omega)).1]
 exact key 16 (by omega)
theorem vec_ext {S T : Nat → List Run} (h : ∀ j : Nat, j < 16 → (tabP S).vec[j]! = (tabP T).vec[j]!) : (tabP S).vec = (tabP T).vec := by
 have h1 := (tabP_len S).2
 have h2 := (tabP_len T).2
 have out : ∀ (l : List Int) (j:Nat), l.length ≤ j → l[j]! = 0 := fun l j hj => by
  rw [getElem!_def, List.getElem?_eq_none hj]; rfl
 have hl : (tabP S).vec.length = (tabP T).vec.length := by
  rcases Nat.lt_trichotomy (tabP S).vec.length (tabP T).vec.length with k | k | k
  ·have := vec_last T (by omega)
   rw [← h _ (by omega), out (tabP S).vec _ (by omega)] at this
   omega
  ·exact k
  ·have := vec_last S (by omega)
   rw [h _ (by omega), out (tabP T).vec _ (by omega)] at this
   omega
 exact eq_of_all hl fun j hj => h j (by omega)
theorem cmpQ_tab {S T : Nat → List Run} (h : cmpQ (tabP S) (tabP T) = 0) : tabP S = tabP T := by
 unfold cmpQ at h
 split at h
 ·rename_i e; exact absurd h e
 ·rename_i e
  have h1 := cmpF_zero (Classical.not_not.1 e)
  have h2 := cmpC_zero h
  have h3 := vec_ext fun j hj => h1 j (by omega) (by omega)
  generalize tabP S = x at *
  generalize tabP T = y at *
  cases x; cases y
  simp only at h2 h3
  rw [h2, h3]
theorem cmpP_zero {p q : Past} : cmpP p q = 0 ↔ normP p = normP q := by
 constructor
 ·exact fun h => cmpQ_tab h
 ·intro h
  unfold cmpP
  rw [h]
  exact ordQ.self _
end Go.Proofs.YtaiepnaokhpmcaaGreat
namespace Go.Proofs.YtaiepnaokhpmcaaGreat
open Go.E
set_option maxRecDepth 100000
set_option maxHeartbeats 4000000
def orI (v : List Int) : Int := (v.find? fun x => decide (¬ x = 0)).getD 0
def invOr (v : List Int) (i:Int) : Prop := 0 ≤ i ∧ i ≤ v.length ∧ ∀ j : Nat, (j:Int) < i → v[j]! = 0
def decOr (v : List Int) (i:Int) : Nat := (v.length - i).toNat
theorem or_at {v : List Int} : ∀ {i : Nat}, i < v.length → ¬ v[i]! = 0 → (∀ j : Nat, j < i → v[j]! = 0) → orI v = v[i]! := by
 intro i hi h hn
 unfold orI
 have : v.find? (fun x => decide (¬ x = 0)) = some v[i]! := by
  rw [getElem!_pos v i hi] at h ⊢
  rw [List.find?_eq_some_iff_getElem]
  refine ⟨by simpa using h, i, hi, rfl, fun j hj => ?_⟩
  have := hn j hj
  rw [getElem!_pos v j (by omega)] at this
  simpa using this
 rw [this]; rfl
theorem or_no {v : List Int} (h : ∀ j : Nat, j < v.length → v[j]! = 0) : orI v = 0 := by
 unfold orI
 rw [List.find?_eq_none.2]
 ·rfl
 ·intro x hx
  obtain ⟨j, hj, rfl⟩ := List.mem_iff_getElem.1 hx
  have := h j hj
  rw [getElem!_pos v j hj] at this
  simpa using this
theorem or_three (s t : Span) : orI [cmpI s.rep t.rep, cmpI s.lo t.lo, cmpI s.hi t.hi] = cmpS s t := by
 unfold orI cmpS
 by_cases h1 : cmpI s.rep t.rep = 0
 ·by_cases h2 : cmpI s.lo t.lo = 0
  ·by_cases h3 : cmpI s.hi t.hi = 0 <;> simp [h1, h2, h3]
  ·simp [h1, h2]
 ·simp [h1]
def invCf (a b : List Span) (i:Int) : Prop := 0 ≤ i ∧ i ≤ a.length ∧ i ≤ b.length ∧ cmpC a b = cmpC (a.drop i.toNat) (b.drop i.toNat)
def decCf (a b : List Span) (i:Int) : Nat := (a.length - i).toNat
theorem dropS {a : List Span} {i : Int} (h0 : 0 ≤ i) (h : i < a.length) : a.drop i.toNat = a[i.toNat]! :: a.drop (i + 1).toNat := by
 rw [show (i + 1).toNat = i.toNat + 1 by omega, getElem!_pos a i.toNat (by omega)]
 exact List.drop_eq_getElem_cons (by omega)
theorem dropN {a : List Span} {i : Int} (h : ¬ i < a.length) : a.drop i.toNat = [] := List.drop_of_length_le (by omega)
theorem cc_more {a b : List Span} {i : Int} (h0 : 0 ≤ i) (ha : i < a.length) (hb : ¬ i < b.length) (h : cmpC a b = cmpC (a.drop i.toNat) (b.drop i.toNat)) : cmpC a b = 1 := by
 rw [h, dropS h0 ha, dropN hb]; rfl
theorem cc_less {a b : List Span} {i : Int} (h0 : 0 ≤ i) (ha : ¬ i < a.length) (hb : i < b.length) (h : cmpC a b = cmpC (a.drop i.toNat) (b.drop i.toNat)) : cmpC a b = -1 := by
 rw [h, dropS h0 hb, dropN ha]; rfl
theorem cc_same {a b : List Span} {i : Int} (ha : ¬ i < a.length) (hb : ¬ i < b.length) (h : cmpC a b = cmpC (a.drop i.toNat) (b.drop i.toNat)) : cmpC a b = 0 := by
 rw [h, dropN hb, dropN ha]; rfl
theorem cc_diff {a b : List Span} {i : Int} (h0 : 0 ≤ i) (ha : i < a.length) (hb : i < b.length) (hd : ¬ cmpS a[i.toNat]! b[i.toNat]! = 0) (h : cmpC a b = cmpC (a.drop i.toNat) (b.drop i.toNat)) : cmpC a b = cmpS a[i.toNat]! b[i.toNat]! := by
 rw [h, dropS h0 ha, dropS h0 hb, cmpC, if_pos hd]
theorem cc_next {a b : List Span} {i : Int} (h0 : 0 ≤ i) (ha : i < a.length) (hb : i < b.length) (hd : cmpS a[i.toNat]! b[i.toNat]! = 0) (h : cmpC a b = cmpC (a.drop i.toNat) (b.drop i.toNat)) : invCf a b (i + 1) := by
 refine ⟨by omega, by omega, by omega, ?_⟩
 rw [h, dropS h0 ha, dropS h0 hb, cmpC, if_neg (by simpa using hd)]
def isCF (u v : List Int) (r:Int) : Prop := cmpF u v 0 16 = cmpF u v r.toNat (16 - r).toNat
def invCq (x y : Past) (r:Int) (u : List Int) (c : List Span) (v : List Int) (d : List Span) : Prop := u = x.vec ∧ c = x.cloud ∧ v = y.vec ∧ d = y.cloud ∧ 0 ≤ r ∧ r ≤ 16 ∧ isCF x.vec y.vec r
def decCq (r:Int) (u : List Int) (c : List Span) (v : List Int) (d : List Span) : Nat := (16 - r).toNat
def invCp (u v : List Int) (r:Int) : Prop := 0 ≤ r ∧ r ≤ 16 ∧ isCF u v r
theorem bang_no {u : List Int} {r : Int} (h0 : 0 ≤ r) (h : ¬ r < u.length) : u[r.toNat]! = 0 := by
 rw [getElem!_def, List.getElem?_eq_none (by omega)]; rfl
theorem cf_step {u v : List Int} {r : Int} (h0 : 0 ≤ r) (h1 : r < 16) (h : isCF u v r) : cmpF u v 0 16 = if u[r.toNat]! = v[r.toNat]! then cmpF u v (r + 1).toNat (16 - (r + 1)).toNat else cmpI u[r.toNat]! v[r.toNat]! := by
 unfold isCF at h
 rw [h, show (16 - r).toNat = (16 - (r + 1)).toNat + 1 by omega, cmpF, show r.toNat + 1 = (r + 1).toNat by omega]
theorem cf_diff {u v : List Int} {r : Int} (h0 : 0 ≤ r) (h1 : r < 16) (hd : ¬ u[r.toNat]! = v[r.toNat]!) (h : isCF u v r) : cmpF u v 0 16 = cmpI u[r.toNat]! v[r.toNat]! := by rw [cf_step h0 h1 h, if_neg hd]
theorem cf_next {u v : List Int} {r : Int} (h0 : 0 ≤ r) (h1 : r < 16) (hd : u[r.toNat]! = v[r.toNat]!) (h : isCF u v r) : invCp u v (r + 1) := by
 refine ⟨by omega, by omega, ?_⟩
 unfold isCF
 rw [cf_step h0 h1 h, if_pos hd]
theorem cf_end {u v : List Int} {r : Int} (h1 : r ≤ 16) (hn : ¬ r < 16) (h : isCF u v r) : cmpF u v 0 16 = 0 := by
 unfold isCF at h
 rw [h, show (16 - r).toNat = 0 by omega]; rfl
theorem cp_vec {p q : Past} {x : Int} (h : cmpF (normP p).vec (normP q).vec 0 16 = x) (hx : ¬ x = 0) : cmpP p q = x := by
 unfold cmpP cmpQ
 rw [if_pos (by rw [h]; exact hx), h]
theorem cp_cloud {p q : Past} (h : cmpF (normP p).vec (normP q).vec 0 16 = 0) : cmpP p q = cmpC (normP p).cloud (normP q).cloud := by
 unfold cmpP cmpQ
 rw [if_neg (by rw [h]; simp)]
theorem cmpI_ne {a b : Int} (h : ¬ a = b) : ¬ cmpI a b = 0 := fun k => h (cmpI_zero.1 k)
theorem con210 (x:Int) : Con Tryz.prog 210 [.i .i64 x] (.b false) :=
 by
 refine st_con tab_ok (by kernel_rfl) [.tmp 2] 6 Go.Proofs.Tryz.func210 (by kernel_rfl) (by kernel_rfl) ?_
 intro e0 cx
 refine sq ?_
 refine rg (A := True) cx [] [0] [] trivial ?_
 refine sn (sq ?_)
 refine rg (A := (AV.b (x != x) = AV.b false)) cx [(2, { tell := some (.b (false)) })] [2] [] (told_ins) ?_
 refine sn ?_
 refine st_ret (by kernel_rfl) ?_
 exact q_ret (r := .b (false)) (obl := []) (by kernel_rfl) trivial (AVle.refl _)
theorem con187 (a b:Int) : Con Tryz.prog 187 [.i .i64 a, .i .i64 b] (.i .i64 (cmpI a b)) :=
 by
 refine st_con tab_ok (by kernel_rfl) [.tmp 4] 20 Go.Proofs.Tryz.func187 (by kernel_rfl) (by kernel_rfl) ?_
 intro e0 cx
 refine sq ?_
 refine rg (A := True) cx [] [0, 1] [] trivial ?_
 refine sn (sq ?_)
 refine rg (A := _) cx [(1, { val := some (.b (false)) })] [0, 1, 5] [] (con210 (a)) ?_
 refine sn (sq ?_)
 refine rg (A := _) cx [(1, { val := some (.b (false)) })] [0, 1, 5, 6] [] (con210 (b)) ?_
 refine sn (sq ?_)
 refine sq ?_
 refine rg (A := True) cx [] [0, 1, 6, 11] [] trivial ?_
 refine sn ?_
 refine st_false (by kernel_rfl) (by kernel_rfl) ?_
 refine st_skip (by kernel_rfl) ?_
 refine sn (sq ?_)
 refine sq ?_
 refine rg (A := True) cx [] [0, 1, 13] [] trivial ?_
 refine sn ?_
 refine st_false (by kernel_rfl) (by kernel_rfl) ?_
 refine st_skip (by kernel_rfl) ?_
 refine sn (sq ?_)
 refine sq ?_
 refine rg (A := (AV.b (decide (a < b)) = AV.b (decide (a < b)))) cx [(2, { tell := some (.b (decide (a < b))) })] [0, 1, 16] [] (by kernel_rfl) ?_
 refine sn ?_
 refine st_dec (a < b) (by kernel_rfl) (by kernel_rfl) (fun h_0 => ?_) (fun h_0 => ?_)
 refine sq ?_
 refine rg (A := True) cx [] [4] [] trivial ?_
 refine sn ?_
 refine st_ret (by kernel_rfl) ?_
 refine q_seq_ret ?_
 refine q_ret (r := .i .i64 ((-1:Int))) (obl := []) (by kernel_rfl) trivial (AVle.eq (show AV.i .i64 (-1:Int) = AV.i .i64 (cmpI a b) from ?g0)); rotate_left 1
 refine st_skip (by kernel_rfl) ?_
 refine sn (sq ?_)
 refine sq ?_
 refine rg (A := (AV.b (decide (a > b)) = AV.b (decide (b < a)))) cx [(2, { tell := some (.b (decide (b < a))) })] [19] [] (by kernel_rfl) ?_
 refine sn ?_
 refine st_dec (b < a) (by kernel_rfl) (by kernel_rfl) (fun h_1 => ?_) (fun h_1 => ?_)
 refine sq ?_
 refine rg (A := True) cx [] [4] [] trivial ?_
 refine sn ?_
 refine st_ret (by kernel_rfl) ?_
 refine q_seq_ret ?_
 refine q_ret (r := .i .i64 ((1:Int))) (obl := []) (by kernel_rfl) trivial (AVle.eq (show AV.i .i64 (1:Int) = AV.i .i64 (cmpI a b) from ?g1)); rotate_left 1
 refine st_skip (by kernel_rfl) ?_
 refine sn (sq ?_)
 refine rg (A := True) cx [] [4] [] trivial ?_
 refine sn ?_
 refine st_ret (by kernel_rfl) ?_
 refine q_ret (r := .i .i64 ((0:Int))) (obl := []) (by kernel_rfl) trivial (AVle.eq (show AV.i .i64 (0:Int) = AV.i .i64 (cmpI a b) from ?g2)); rotate_left 1
 revert h_0; rotate_left
 revert h_0 h_1; rotate_left
 revert h_0 h_1; rotate_left
 case g0 => intro h; unfold cmpI; rw [if_pos h]
 case g1 => intro h k; unfold cmpI; rw [if_neg h, if_pos k]
 case g2 => intro h k; unfold cmpI; rw [if_neg h, if_neg k]
theorem con190 (v : List Int) : Con Tryz.prog 190 [.sl (v.map c3)] (.i .i64 (orI v)) :=
 by
 refine con_lens 0 (c3) (v) (by kernel_rfl) Go.Proofs.Tryz.func190 (by kernel_rfl) fun hl_0 => ?_
 refine st_con tab_ok (by kernel_rfl) [.tmp 2] 18 Go.Proofs.Tryz.func190 (by kernel_rfl) (by kernel_rfl) ?_
 intro e0 cx
 refine sq ?_
 refine rg (A := True) cx [] [0] [] trivial ?_
 refine sn (sq ?_)
 refine rg (A := True) cx [] [0, 3] [] trivial ?_
 refine sn (sq ?_)
 refine sq ?_
 refine rg (A := _) cx [(1, { tell := some (.i .i64 ((↑v.length:Int))) })] [3, 6, 7, 8] [] (told_len c3 v) ?_
 refine sn ?_
 refine st_block 0 (by kernel_rfl) ?_
 refine st_loop (X := Int) (fun x => ⟨[(3, .i .i64 ((0:Int))), (6, .sl (List.map c3 v)), (7, .i .i64 ((↑v.length:Int))), (8, .i .i64 (x))], []⟩) (fun x ↦ decOr v x) (fun x ↦ invOr v x) [3, 6, 7, 8] [] ((0:Int)) (by kernel_rfl) (by kernel_rfl) (show invOr v (0:Int) from ?g0) ?_; rotate_left 1
 intro i_0 h_1
 obtain ⟨h_2, h_3, h_4⟩ : (0:Int) ≤ i_0 ∧ i_0 ≤ (↑v.length:Int) ∧ ∀ (j:Nat), (↑j:Int) < i_0 → v[j]! = (0:Int) := h_1
 refine sq ?_
 refine rg (A := (AV.b (decide (i_0 < (↑v.length:Int))) = AV.b (decide (i_0 < (↑v.length:Int))))) cx [(0, { tell := some (.b (decide (i_0 < (↑v.length:Int)))) })] [3, 6, 7, 8, 9] [] (by kernel_rfl) ?_
 refine sn (sq ?_)
 refine st_dec (i_0 < (↑v.length:Int)) (by kernel_rfl) (by kernel_rfl) (fun h_5 => ?_) (fun h_5 => ?_)
 refine st_skip (by kernel_rfl) ?_
 refine sn (sq ?_)
 refine st_block 1 (by kernel_rfl) ?_
 refine sq ?_
 refine rg (A := ((0:Int) ≤ i_0) ∧ ((List.map c3 v)[i_0.toNat]? = some (c3 v[i_0.toNat]!)) ∧ ((c3 v[i_0.toNat]!).length = (1:Nat))) cx [(0, { row := (c3 v[i_0.toNat]!) })] [3, 6, 7, 8, 5] [] ⟨(by (with_reducible assumption)), (by (with_reducible refine get_map ?_; omega)), (by kernel_rfl)⟩ ?_
 refine sn (sq ?_)
 refine rg (A := (AV.b (v[i_0.toNat]! != (0:Int)) = AV.b (decide ¬v[i_0.toNat]! = (0:Int)))) cx [(2, { tell := some (.b (decide ¬v[i_0.toNat]! = (0:Int))) })] [3, 6, 7, 8, 5, 14] [] (told_neq) ?_
 refine sn ?_
 refine st_dec (¬v[i_0.toNat]! = (0:Int)) (by kernel_rfl) (by kernel_rfl) (fun h_6 => ?_) (fun h_6 => ?_)
 refine sq ?_
 refine rg (A := True) cx [] [2] [] trivial ?_
 refine sn ?_
 refine st_ret (by kernel_rfl) ?_
 refine q_blk_ret ?_
 refine q_seq_ret ?_
 refine q_seq_ret ?_
 refine q_blk_ret ?_
 refine q_seq_ret ?_
 refine q_ret (r := .i .i64 (v[i_0.toNat]!)) (obl := []) (by kernel_rfl) trivial (AVle.eq (show AV.i .i64 v[i_0.toNat]! = AV.i .i64 (orI v) from ?g1)); rotate_left 1
 refine st_skip (by kernel_rfl) ?_
 refine q_blk_normal ?_
 refine sn ?_
 refine rg (A := (AV.i .i64 (IntKind.i64.wrap (i_0 + (1:Int))) = AV.i .i64 (i_0 + (1:Int)))) cx [(0, { tell := some (.i .i64 (i_0 + (1:Int))) })] [3, 6, 7, 8] [] (told_i64 (by omega) (by omega)) ?_
 refine sn ?_
 refine loop_next (i_0 + (1:Int)) (by kernel_rfl) (show ((↑v.length:Int) - (i_0 + (1:Int))).toNat < ((↑v.length:Int) - i_0).toNat from (by omega)) (show invOr v (i_0 + (1:Int)) from ?g2); rotate_left 1
 refine st_exit 0 (by kernel_rfl) ?_
 refine q_seq_exit ?_
 refine q_seq_exit ?_
 refine q_blk_hit ?_
 refine sn (sq ?_)
 refine rg (A := True) cx [] [2] [] trivial ?_
 refine sn ?_
 refine st_ret (by kernel_rfl) ?_
 refine q_ret (r := .i .i64 ((0:Int))) (obl := []) (by kernel_rfl) trivial (AVle.eq (show AV.i .i64 (0:Int) = AV.i .i64 (orI v) from ?g3)); rotate_left 1
 rotate_left
 revert i_0 h_2 h_3 h_4 h_5 h_6; rotate_left
 revert i_0 h_2 h_3 h_4 h_5 h_6; rotate_left
 revert i_0 h_2 h_3 h_4 h_5; rotate_left
 case g0 => exact ⟨by omega, by omega, fun j hj => by omega⟩
 case g1 => intro i h0 h1 h2 h3 h4; rw [or_at (i := i.toNat) (by omega) h4 (fun j hj => h2 j (by omega))]
 case g2 =>
  intro i h0 h1 h2 h3 h4
  exact ⟨by omega, by omega, fun j hj => by
   by_cases e : j = i.toNat
   ·rw [e]; exact Classical.not_not.1 h4
   ·exact h2 j (by omega)⟩
 case g3 => intro i h0 h1 h2 h3; rw [or_no fun j hj => h2 j (by omega)]
theorem con189 (s t : Span) : Con Tryz.prog 189 [.agg (c104 s), .agg (c104 t)] (.i .i64 (cmpS s t)) :=
 by
 refine st_con tab_ok (by kernel_rfl) [.tmp 4] 22 Go.Proofs.Tryz.func189 (by kernel_rfl) (by kernel_rfl) ?_
 intro e0 cx
 refine sq ?_
 refine rg (A := True) cx [] [2, 3] [2, 3] trivial ?_
 refine sn (sq ?_)
 refine ra (A := _ ∧ _ ∧ _ ∧ (Flat (AV.i .i64 (orI [cmpI s.rep t.rep, cmpI s.lo t.lo, cmpI s.hi t.hi]))) ∧ _) cx [(4, { val := some (.i .i64 (cmpI s.rep t.rep)) }), (9, { val := some (.i .i64 (cmpI s.lo t.lo)) }), (14, { val := some (.i .i64 (cmpI s.hi t.hi)) }), (16, { val := some (.i .i64 (orI [cmpI s.rep t.rep, cmpI s.lo t.lo, cmpI s.hi t.hi])), flat := true })] [4] [] ⟨(con187 (s.rep) (t.rep)), (con187 (s.lo) (t.lo)), (con187 (s.hi) (t.hi)), (by exact Flat.i _ _), (con190 ([cmpI s.rep t.rep, cmpI s.lo t.lo, cmpI s.hi t.hi]))⟩ ?_
 refine sn ?_
 refine st_ret (by kernel_rfl) ?_
 refine q_ret (r := .i .i64 (orI [cmpI s.rep t.rep, cmpI s.lo t.lo, cmpI s.hi t.hi])) (obl := []) (by kernel_rfl) trivial (AVle.eq (show AV.i .i64 (orI [cmpI s.rep t.rep, cmpI s.lo t.lo, cmpI s.hi t.hi]) = AV.i .i64 (cmpS s t) from ?g0)); rotate_left 1
 case g0 => rw [or_three]
theorem con188 (a b : List Span) : Con Tryz.prog 188 [.sl (a.map c104), .sl (b.map c104), .fn (.func 189) [] []] (.i .i64 (cmpC a b)) :=
 by
 refine con_lens 0 (c104) (a) (by kernel_rfl) Go.Proofs.Tryz.func188 (by kernel_rfl) fun hl_0 => ?_
 refine con_lens 1 (c104) (b) (by kernel_rfl) Go.Proofs.Tryz.func188 (by kernel_rfl) fun hl_1 => ?_
 refine st_con tab_ok (by kernel_rfl) [.tmp 6] 39 Go.Proofs.Tryz.func188 (by kernel_rfl) (by kernel_rfl) ?_
 intro e0 cx
 refine sq ?_
 refine rg (A := True) cx [] [0, 1, 2] [] trivial ?_
 refine sn (sq ?_)
 refine sq ?_
 refine rg (A := _) cx [(1, { tell := some (.i .i64 ((↑a.length:Int))) })] [0, 1, 2, 11, 12, 13] [] (told_len c104 a) ?_
 refine sn ?_
 refine st_block 0 (by kernel_rfl) ?_
 refine st_loop (X := Int) (fun x => ⟨[(0, .sl (List.map c104 a)), (1, .sl (List.map c104 b)), (2, .fn (Fn.func (189 : FuncId)) [] []), (11, .sl (List.map c104 a)), (12, .i .i64 ((↑a.length:Int))), (13, .i .i64 (x))], []⟩) (fun x ↦ decCf a b x) (fun x ↦ invCf a b x) [0, 1, 2, 11, 12, 13] [] ((0:Int)) (by kernel_rfl) (by kernel_rfl) (show invCf a b (0:Int) from ?g0) ?_; rotate_left 1
 intro i_0 h_1
 obtain ⟨h_2, h_3, h_4, h_5⟩ : (0:Int) ≤ i_0 ∧ i_0 ≤ (↑a.length:Int) ∧ i_0 ≤ (↑b.length:Int) ∧ cmpC a b = cmpC (List.drop i_0.toNat a) (List.drop i_0.toNat b) := h_1
 refine sq ?_
 refine rg (A := (AV.b (decide (i_0 < (↑a.length:Int))) = AV.b (decide (i_0 < (↑a.length:Int))))) cx [(0, { tell := some (.b (decide (i_0 < (↑a.length:Int)))) })] [0, 1, 2, 11, 12, 13, 14] [] (by kernel_rfl) ?_
 refine sn (sq ?_)
 refine st_dec (i_0 < (↑a.length:Int)) (by kernel_rfl) (by kernel_rfl) (fun h_6 => ?_) (fun h_6 => ?_)
 refine st_skip (by kernel_rfl) ?_
 refine sn (sq ?_)
 refine st_block 1 (by kernel_rfl) ?_
 refine sq ?_
 refine rg (A := ((0:Int) ≤ i_0) ∧ ((List.map c104 a)[i_0.toNat]? = some (c104 a[i_0.toNat]!)) ∧ ((c104 a[i_0.toNat]!).length = (3:Nat)) ∧ ((3:Nat) ≤ [AV.i .i64 a[i_0.toNat]!.rep, AV.i .i64 a[i_0.toNat]!.lo, AV.i .i64 a[i_0.toNat]!.hi].length)) cx [(1, { row := (c104 a[i_0.toNat]!) })] [0, 1, 2, 11, 12, 13, 8, 7] [8] ⟨(by (with_reducible assumption)), (by (with_reducible refine get_map ?_; omega)), (by kernel_rfl), (by (simp only [List.length_append, List.length_cons, List.length_nil]; omega))⟩ ?_
 refine sn (sq ?_)
 refine sq ?_
 refine rg (A := _ ∧ (AV.b (decide (i_0 ≥ (↑b.length:Int))) = AV.b (decide ((↑b.length:Int) ≤ i_0)))) cx [(2, { tell := some (.i .i64 ((↑b.length:Int))) }), (3, { tell := some (.b (decide ((↑b.length:Int) ≤ i_0))) })] [0, 1, 2, 11, 12, 13, 8, 7, 21] [8] ⟨(told_len c104 b), (by kernel_rfl)⟩ ?_
 refine sn ?_
 refine st_dec ((↑b.length:Int) ≤ i_0) (by kernel_rfl) (by kernel_rfl) (fun h_7 => ?_) (fun h_7 => ?_)
 refine sq ?_
 refine rg (A := True) cx [] [6] [] trivial ?_
 refine sn ?_
 refine st_ret (by kernel_rfl) ?_
 refine q_seq_ret ?_
 refine q_blk_ret ?_
 refine q_seq_ret ?_
 refine q_seq_ret ?_
 refine q_blk_ret ?_
 refine q_seq_ret ?_
 refine q_ret (r := .i .i64 ((1:Int))) (obl := []) (by kernel_rfl) trivial (AVle.eq (show AV.i .i64 (1:Int) = AV.i .i64 (cmpC a b) from ?g1)); rotate_left 1
 refine st_skip (by kernel_rfl) ?_
 refine sn (sq ?_)
 refine rg (A := ((0:Int) ≤ i_0) ∧ ((List.map c104 b)[i_0.toNat]? = some (c104 b[i_0.toNat]!)) ∧ ((c104 b[i_0.toNat]!).length = (3:Nat)) ∧ ((3:Nat) ≤ [AV.i .i64 b[i_0.toNat]!.rep, AV.i .i64 b[i_0.toNat]!.lo, AV.i .i64 b[i_0.toNat]!.hi].length)) cx [(2, { row := (c104 b[i_0.toNat]!) })] [0, 1, 2, 11, 12, 13, 8, 9] [8, 9] ⟨(by (with_reducible assumption)), (by (with_reducible refine get_map ?_; omega)), (by kernel_rfl), (by (simp only [List.length_append, List.length_cons, List.length_nil]; omega))⟩ ?_
 refine sn (sq ?_)
 refine rg (A := _) cx [(3, { val := some (.i .i64 (cmpS a[i_0.toNat]! b[i_0.toNat]!)) })] [0, 1, 2, 11, 12, 13, 10] [] (con189 (a[i_0.toNat]!) (b[i_0.toNat]!)) ?_
 refine sn (sq ?_)
 refine rg (A := (AV.b (cmpS a[i_0.toNat]! b[i_0.toNat]! != (0:Int)) = AV.b (decide ¬cmpS a[i_0.toNat]! b[i_0.toNat]! = (0:Int)))) cx [(1, { tell := some (.b (decide ¬cmpS a[i_0.toNat]! b[i_0.toNat]! = (0:Int))) })] [0, 1, 2, 11, 12, 13, 10, 31] [] (told_neq) ?_
 refine sn ?_
 refine st_dec (¬cmpS a[i_0.toNat]! b[i_0.toNat]! = (0:Int)) (by kernel_rfl) (by kernel_rfl) (fun h_8 => ?_) (fun h_8 => ?_)
 refine sq ?_
 refine rg (A := True) cx [] [6] [] trivial ?_
 refine sn ?_
 refine st_ret (by kernel_rfl) ?_
 refine q_blk_ret ?_
 refine q_seq_ret ?_
 refine q_seq_ret ?_
 refine q_blk_ret ?_
 refine q_seq_ret ?_
 refine q_ret (r := .i .i64 (cmpS a[i_0.toNat]! b[i_0.toNat]!)) (obl := []) (by kernel_rfl) trivial (AVle.eq (show AV.i .i64 (cmpS a[i_0.toNat]! b[i_0.toNat]!) = AV.i .i64 (cmpC a b) from ?g2)); rotate_left 1
 refine st_skip (by kernel_rfl) ?_
 refine q_blk_normal ?_
 refine sn ?_
 refine rg (A := (AV.i .i64 (IntKind.i64.wrap (i_0 + (1:Int))) = AV.i .i64 (i_0 + (1:Int)))) cx [(0, { tell := some (.i .i64 (i_0 + (1:Int))) })] [0, 1, 2, 11, 12, 13] [] (told_i64 (by omega) (by omega)) ?_
 refine sn ?_
 refine loop_next (i_0 + (1:Int)) (by kernel_rfl) (show ((↑a.length:Int) - (i_0 + (1:Int))).toNat < ((↑a.length:Int) - i_0).toNat from (by omega)) (show invCf a b (i_0 + (1:Int)) from ?g3); rotate_left 1
 refine st_exit 0 (by kernel_rfl) ?_
 refine q_seq_exit ?_
 refine q_seq_exit ?_
 refine q_blk_hit ?_
 refine sn (sq ?_)
 refine sq ?_
 refine rg (A := _ ∧ _ ∧ (AV.b (decide ((↑a.length:Int) < (↑b.length:Int))) = AV.b (decide ((↑a.length:Int) < (↑b.length:Int))))) cx [(1, { tell := some (.i .i64 ((↑a.length:Int))) }), (3, { tell := some (.i .i64 ((↑b.length:Int))) }), (4, { tell := some (.b (decide ((↑a.length:Int) < (↑b.length:Int)))) })] [38] [] ⟨(told_len c104 a), (told_len c104 b), (by kernel_rfl)⟩ ?_
 refine sn ?_
 refine st_dec ((↑a.length:Int) < (↑b.length:Int)) (by kernel_rfl) (by kernel_rfl) (fun h_9 => ?_) (fun h_9 => ?_)
 refine sq ?_
 refine rg (A := True) cx [] [6] [] trivial ?_
 refine sn ?_
 refine st_ret (by kernel_rfl) ?_
 refine q_seq_ret ?_
 refine q_ret (r := .i .i64 ((-1:Int))) (obl := []) (by kernel_rfl) trivial (AVle.eq (show AV.i .i64 (-1:Int) = AV.i .i64 (cmpC a b) from ?g4)); rotate_left 1
 refine st_skip (by kernel_rfl) ?_
 refine sn (sq ?_)
 refine rg (A := True) cx [] [6] [] trivial ?_
 refine sn ?_
 refine st_ret (by kernel_rfl) ?_
 refine q_ret (r := .i .i64 ((0:Int))) (obl := []) (by kernel_rfl) trivial (AVle.eq (show AV.i .i64 (0:Int) = AV.i .i64 (cmpC a b) from ?g5)); rotate_left 1
 rotate_left
 revert i_0 h_2 h_3 h_4 h_5 h_6 h_7; rotate_left
 revert i_0 h_2 h_3 h_4 h_5 h_6 h_7 h_8; rotate_left
 revert i_0 h_2 h_3 h_4 h_5 h_6 h_7 h_8; rotate_left
 revert i_0 h_2 h_3 h_4 h_5 h_6 h_9; rotate_left
 revert i_0 h_2 h_3 h_4 h_5 h_6 h_9; rotate_left
 case g0 => exact ⟨by omega, by omega, by omega, rfl⟩
 case g1 => intro i h0 h1 h2 h3 h4 h5; rw [cc_more h0 h4 (by omega) h3]
 case g2 => intro i h0 h1 h2 h3 h4 h5 h6; rw [cc_diff h0 h4 (by omega) h6 h3]
 case g3 => intro i h0 h1 h2 h3 h4 h5 h6; exact cc_next h0 h4 (by omega) (Classical.not_not.1 h6) h3
 case g4 => intro i h0 h1 h2 h3 h4 h5; rw [cc_less h0 h4 (by omega) h3]
 case g5 => intro i h0 h1 h2 h3 h4 h5; rw [cc_same h4 (by omega) h3]
theorem con152 (p q : Past) (hb : p.cloud.length * 16 ≤ 140737488350000) (hq : q.cloud.length * 16 ≤ 140737488350000) : Con Tryz.prog 152 [.agg (c26 p), .agg (c26 q)] (.i .i64 (cmpP p q)) :=
 by
 have D : ∀ {r : Int} {u v : List Int}, u = (normP p).vec → v = (normP q).vec → 0 ≤ r → r < 16 → ∀ {a b : Int}, u[r.toNat]! = a → v[r.toNat]! = b → ¬ a = b → isCF (normP p).vec (normP q).vec r → cmpI a b = cmpP p q := by
  intro r u v e1 e3 h0 h1 a b ha hb hn h
  rw [e1] at ha
  rw [e3] at hb
  have e := cf_diff h0 h1 (by rw [ha, hb]; exact hn) h
  rw [ha, hb] at e
  exact (cp_vec e (cmpI_ne hn)).symm
 have N : ∀ {r : Int} {u v : List Int} {c d : List Span}, u = (normP p).vec → c = (normP p).cloud → v = (normP q).vec → d = (normP q).cloud → 0 ≤ r → r < 16 → ∀ {a b : Int}, u[r.toNat]! = a → v[r.toNat]! = b → ¬ ¬ a = b → isCF (normP p).vec (normP q).vec r → invCq (normP p) (normP q) (r + 1) u c v d := by
  intro r u v c d e1 e2 e3 e4 h0 h1 a b ha hb hn h
  have e := cf_next h0 h1 (by rw [← e1, ← e3, ha, hb]; exact Classical.not_not.1 hn) h
  exact ⟨e1, e2, e3, e4, e.1, e.2.1, e.2.2⟩
 refine st_con tab_ok (by kernel_rfl) [.tmp 4] 49 Go.Proofs.Tryz.func152 (by kernel_rfl) (by kernel_rfl) ?_
 intro e0 cx
 refine sq ?_
 refine rg (A := True) cx [] [2, 3] [2, 3] trivial ?_
 refine sn (sq ?_)
 refine ra (A := _ ∧ _) cx [(1, { val := some (.agg [.sl (List.map c3 (normP p).vec), .sl (List.map c104 (normP p).cloud)]) }), (3, { val := some (.agg [.sl (List.map c3 (normP q).vec), .sl (List.map c104 (normP q).cloud)]) })] [5, 6] [5, 6] ⟨(con107 (p) (by (with_reducible assumption))), (con107 (q) (by (with_reducible assumption)))⟩ ?_
 refine sn (sq ?_)
 refine sq ?_
 refine rg (A := True) cx [] [5, 6, 14] [5, 6] trivial ?_
 refine sn ?_
 refine st_block 0 (by kernel_rfl) ?_
 refine st_loop (X := Int × List Int × List Span × List Int × List Span) (fun x => ⟨[(5, .ptr (5) (0) (0) (0)), (6, .ptr (6) (0) (0) (0)), (14, .i .i64 (x.fst))], [(5, ⟨0, 26, .var [.sl (List.map c3 x.snd.fst), .sl (List.map c104 x.snd.snd.fst)]⟩), (6, ⟨0, 26, .var [.sl (List.map c3 x.snd.snd.snd.fst), .sl (List.map c104 x.snd.snd.snd.snd)]⟩)]⟩) (fun x ↦ decCq x.fst x.snd.fst x.snd.snd.fst x.snd.snd.snd.fst x.snd.snd.snd.snd) (fun x ↦ invCq (normP p) (normP q) x.fst x.snd.fst x.snd.snd.fst x.snd.snd.snd.fst x.snd.snd.snd.snd) [5, 6, 14] [5, 6] (((0:Int), (normP p).vec, (normP p).cloud, (normP q).vec, (normP q).cloud)) (by kernel_rfl) (by kernel_rfl) (show invCq (normP p) (normP q) (0:Int) (normP p).vec (normP p).cloud (normP q).vec (normP q).cloud from ?g0) ?_; rotate_left 1
 rintro ⟨r_0, u_1, c_2, v_3, d_4⟩ h_5
 obtain ⟨h_6, h_7, h_8, h_9, h_10, h_11, h_12⟩ : u_1 = (normP p).vec ∧ c_2 = (normP p).cloud ∧ v_3 = (normP q).vec ∧ d_4 = (normP q).cloud ∧ (0:Int) ≤ r_0 ∧ r_0 ≤ (16:Int) ∧ isCF (normP p).vec (normP q).vec r_0 := h_5
 refine sq ?_
 refine rg (A := (AV.b (decide (r_0 < (16:Int))) = AV.b (decide (r_0 < (16:Int))))) cx [(0, { tell := some (.b (decide (r_0 < (16:Int)))) })] [5, 6, 14, 15] [5, 6] (by kernel_rfl) ?_
 refine sn (sq ?_)
 refine st_dec (r_0 < (16:Int)) (by kernel_rfl) (by kernel_rfl) (fun h_13 => ?_) (fun h_13 => ?_)
 refine st_skip (by kernel_rfl) ?_
 refine sn (sq ?_)
 refine st_block 1 (by kernel_rfl) ?_
 refine sq ?_
 refine rg (A := True) cx [] [5, 6, 14, 7] [5, 6] trivial ?_
 refine sn (sq ?_)
 refine rg (A := True) cx [] [5, 6, 14, 7, 8, 9] [5, 6] trivial ?_
 refine sn (sq ?_)
 refine sq ?_
 refine rg (A := _ ∧ (AV.b (decide (r_0 < (↑u_1.length:Int))) = AV.b (decide (r_0 < (↑u_1.length:Int))))) cx [(3, { tell := some (.i .i64 ((↑u_1.length:Int))) }), (4, { tell := some (.b (decide (r_0 < (↑u_1.length:Int)))) })] [5, 6, 14, 7, 8, 9, 21] [5, 6] ⟨(told_len c3 u_1), (by kernel_rfl)⟩ ?_
 refine sn ?_
 refine st_dec (r_0 < (↑u_1.length:Int)) (by kernel_rfl) (by kernel_rfl) (fun h_14 => ?_) (fun h_14 => ?_)
 refine rg (A := ((0:Int) ≤ r_0) ∧ ((List.map c3 u_1)[r_0.toNat]? = some (c3 u_1[r_0.toNat]!)) ∧ ((c3 u_1[r_0.toNat]!).length = (1:Nat))) cx [(3, { row := (c3 u_1[r_0.toNat]!) })] [5, 6, 14, 7, 8, 9] [5, 6] ⟨(by (with_reducible assumption)), (by (with_reducible refine get_map ?_; omega)), (by kernel_rfl)⟩ ?_
 refine sn (sq ?_)
 refine sq ?_
 refine rg (A := _ ∧ (AV.b (decide (r_0 < (↑v_3.length:Int))) = AV.b (decide (r_0 < (↑v_3.length:Int))))) cx [(3, { tell := some (.i .i64 ((↑v_3.length:Int))) }), (4, { tell := some (.b (decide (r_0 < (↑v_3.length:Int)))) })] [5, 6, 14, 7, 8, 9, 31] [5, 6] ⟨(told_len c3 v_3), (by kernel_rfl)⟩ ?_
 refine sn ?_
 refine st_dec (r_0 < (↑v_3.length:Int)) (by kernel_rfl) (by kernel_rfl) (fun h_15 => ?_) (fun h_15 => ?_)
 refine rg (A := ((0:Int) ≤ r_0) ∧ ((List.map c3 v_3)[r_0.toNat]? = some (c3 v_3[r_0.toNat]!)) ∧ ((c3 v_3[r_0.toNat]!).length = (1:Nat))) cx [(3, { row := (c3 v_3[r_0.toNat]!) })] [5, 6, 14, 8, 9] [5, 6] ⟨(by (with_reducible assumption)), (by (with_reducible refine get_map ?_; omega)), (by kernel_rfl)⟩ ?_
 refine sn (sq ?_)
 refine rg (A := (AV.b (u_1[r_0.toNat]! != v_3[r_0.toNat]!) = AV.b (decide ¬u_1[r_0.toNat]! = v_3[r_0.toNat]!))) cx [(2, { tell := some (.b (decide ¬u_1[r_0.toNat]! = v_3[r_0.toNat]!)) })] [5, 6, 14, 8, 9, 39] [5, 6] (told_neq) ?_
 refine sn ?_
 refine st_dec (¬u_1[r_0.toNat]! = v_3[r_0.toNat]!) (by kernel_rfl) (by kernel_rfl) (fun h_16 => ?_) (fun h_16 => ?_)
 refine sq ?_
 refine rg (A := _) cx [(2, { val := some (.i .i64 (cmpI u_1[r_0.toNat]! v_3[r_0.toNat]!)) })] [4] [] (con187 (u_1[r_0.toNat]!) (v_3[r_0.toNat]!)) ?_
 refine sn ?_
 refine st_ret (by kernel_rfl) ?_
 refine q_blk_ret ?_
 refine q_seq_ret ?_
 refine q_seq_ret ?_
 refine q_blk_ret ?_
 refine q_seq_ret ?_
 refine q_ret (r := .i .i64 (cmpI u_1[r_0.toNat]! v_3[r_0.toNat]!)) (obl := []) (by kernel_rfl) trivial (AVle.eq (show AV.i .i64 (cmpI u_1[r_0.toNat]! v_3[r_0.toNat]!) = AV.i .i64 (cmpP p q) from ?g1)); rotate_left 1
 refine st_skip (by kernel_rfl) ?_
 refine q_blk_normal ?_
 refine sn ?_
 refine rg (A := (AV.i .i64 (IntKind.i64.wrap (r_0 + (1:Int))) = AV.i .i64 (r_0 + (1:Int)))) cx [(0, { tell := some (.i .i64 (r_0 + (1:Int))) })] [5, 6, 14] [5, 6] (told_i64 (by omega) (by omega)) ?_
 refine sn ?_
 refine loop_next ((r_0 + (1:Int), u_1, c_2, v_3, d_4)) (by kernel_rfl) (show ((16:Int) - (r_0 + (1:Int))).toNat < ((16:Int) - r_0).toNat from (by omega)) (show invCq (normP p) (normP q) (r_0 + (1:Int)) u_1 c_2 v_3 d_4 from ?g2); rotate_left 1
 refine st_skip (by kernel_rfl) ?_
 refine sn (sq ?_)
 refine rg (A := (AV.b (u_1[r_0.toNat]! != (0:Int)) = AV.b (decide ¬u_1[r_0.toNat]! = (0:Int)))) cx [(2, { tell := some (.b (decide ¬u_1[r_0.toNat]! = (0:Int))) })] [5, 6, 14, 8, 9, 39] [5, 6] (told_neq) ?_
 refine sn ?_
 refine st_dec (¬u_1[r_0.toNat]! = (0:Int)) (by kernel_rfl) (by kernel_rfl) (fun h_17 => ?_) (fun h_17 => ?_)
 refine sq ?_
 refine rg (A := _) cx [(2, { val := some (.i .i64 (cmpI u_1[r_0.toNat]! (0:Int))) })] [4] [] (con187 (u_1[r_0.toNat]!) ((0:Int))) ?_
 refine sn ?_
 refine st_ret (by kernel_rfl) ?_
 refine q_blk_ret ?_
 refine q_seq_ret ?_
 refine q_seq_ret ?_
 refine q_blk_ret ?_
 refine q_seq_ret ?_
 refine q_ret (r := .i .i64 (cmpI u_1[r_0.toNat]! (0:Int))) (obl := []) (by kernel_rfl) trivial (AVle.eq (show AV.i .i64 (cmpI u_1[r_0.toNat]! (0:Int)) = AV.i .i64 (cmpP p q) from ?g3)); rotate_left 1
 refine st_skip (by kernel_rfl) ?_
 refine q_blk_normal ?_
 refine sn ?_
 refine rg (A := (AV.i .i64 (IntKind.i64.wrap (r_0 + (1:Int))) = AV.i .i64 (r_0 + (1:Int)))) cx [(0, { tell := some (.i .i64 (r_0 + (1:Int))) })] [5, 6, 14] [5, 6] (told_i64 (by omega) (by omega)) ?_
 refine sn ?_
 refine loop_next ((r_0 + (1:Int), u_1, c_2, v_3, d_4)) (by kernel_rfl) (show ((16:Int) - (r_0 + (1:Int))).toNat < ((16:Int) - r_0).toNat from (by omega)) (show invCq (normP p) (normP q) (r_0 + (1:Int)) u_1 c_2 v_3 d_4 from ?g4); rotate_left 1
 refine st_skip (by kernel_rfl) ?_
 refine sn (sq ?_)
 refine sq ?_
 refine rg (A := _ ∧ (AV.b (decide (r_0 < (↑v_3.length:Int))) = AV.b (decide (r_0 < (↑v_3.length:Int))))) cx [(3, { tell := some (.i .i64 ((↑v_3.length:Int))) }), (4, { tell := some (.b (decide (r_0 < (↑v_3.length:Int)))) })] [5, 6, 14, 7, 8, 9, 31] [5, 6] ⟨(told_len c3 v_3), (by kernel_rfl)⟩ ?_
 refine sn ?_
 refine st_dec (r_0 < (↑v_3.length:Int)) (by kernel_rfl) (by kernel_rfl) (fun h_18 => ?_) (fun h_18 => ?_)
 refine rg (A := ((0:Int) ≤ r_0) ∧ ((List.map c3 v_3)[r_0.toNat]? = some (c3 v_3[r_0.toNat]!)) ∧ ((c3 v_3[r_0.toNat]!).length = (1:Nat))) cx [(3, { row := (c3 v_3[r_0.toNat]!) })] [5, 6, 14, 8, 9] [5, 6] ⟨(by (with_reducible assumption)), (by (with_reducible refine get_map ?_; omega)), (by kernel_rfl)⟩ ?_
 refine sn (sq ?_)
 refine rg (A := (AV.b ((0:Int) != v_3[r_0.toNat]!) = AV.b (decide ¬(0:Int) = v_3[r_0.toNat]!))) cx [(2, { tell := some (.b (decide ¬(0:Int) = v_3[r_0.toNat]!)) })] [5, 6, 14, 8, 9, 39] [5, 6] (told_neq) ?_
 refine sn ?_
 refine st_dec (¬(0:Int) = v_3[r_0.toNat]!) (by kernel_rfl) (by kernel_rfl) (fun h_19 => ?_) (fun h_19 => ?_)
 refine sq ?_
 refine rg (A := _) cx [(2, { val := some (.i .i64 (cmpI (0:Int) v_3[r_0.toNat]!)) })] [4] [] (con187 ((0:Int)) (v_3[r_0.toNat]!)) ?_
 refine sn ?_
 refine st_ret (by kernel_rfl) ?_
 refine q_blk_ret ?_
 refine q_seq_ret ?_
 refine q_seq_ret ?_
 refine q_blk_ret ?_
 refine q_seq_ret ?_
 refine q_ret (r := .i .i64 (cmpI (0:Int) v_3[r_0.toNat]!)) (obl := []) (by kernel_rfl) trivial (AVle.eq (show AV.i .i64 (cmpI (0:Int) v_3[r_0.toNat]!) = AV.i .i64 (cmpP p q) from ?g5)); rotate_left 1
 refine st_skip (by kernel_rfl) ?_
 refine q_blk_normal ?_
 refine sn ?_
 refine rg (A := (AV.i .i64 (IntKind.i64.wrap (r_0 + (1:Int))) = AV.i .i64 (r_0 + (1:Int)))) cx [(0, { tell := some (.i .i64 (r_0 + (1:Int))) })] [5, 6, 14] [5, 6] (told_i64 (by omega) (by omega)) ?_
 refine sn ?_
 refine loop_next ((r_0 + (1:Int), u_1, c_2, v_3, d_4)) (by kernel_rfl) (show ((16:Int) - (r_0 + (1:Int))).toNat < ((16:Int) - r_0).toNat from (by omega)) (show invCq (normP p) (normP q) (r_0 + (1:Int)) u_1 c_2 v_3 d_4 from ?g6); rotate_left 1
 refine st_skip (by kernel_rfl) ?_
 refine sn (sq ?_)
 refine rg (A := True) cx [] [5, 6, 14, 8, 9, 39] [5, 6] trivial ?_
 refine sn ?_
 refine st_false (by kernel_rfl) (by kernel_rfl) ?_
 refine st_skip (by kernel_rfl) ?_
 refine q_blk_normal ?_
 refine sn ?_
 refine rg (A := (AV.i .i64 (IntKind.i64.wrap (r_0 + (1:Int))) = AV.i .i64 (r_0 + (1:Int)))) cx [(0, { tell := some (.i .i64 (r_0 + (1:Int))) })] [5, 6, 14] [5, 6] (told_i64 (by omega) (by omega)) ?_
 refine sn ?_
 refine loop_next ((r_0 + (1:Int), u_1, c_2, v_3, d_4)) (by kernel_rfl) (show ((16:Int) - (r_0 + (1:Int))).toNat < ((16:Int) - r_0).toNat from (by omega)) (show invCq (normP p) (normP q) (r_0 + (1:Int)) u_1 c_2 v_3 d_4 from ?g7); rotate_left 1
 refine st_exit 0 (by kernel_rfl) ?_
 refine q_seq_exit ?_
 refine q_seq_exit ?_
 refine q_blk_hit ?_
 refine sn (sq ?_)
 refine rg (A := _) cx [(4, { val := some (.i .i64 (cmpC c_2 d_4)) })] [4] [] (con188 (c_2) (d_4)) ?_
 refine sn ?_
 refine st_ret (by kernel_rfl) ?_
 refine q_ret (r := .i .i64 (cmpC c_2 d_4)) (obl := []) (by kernel_rfl) trivial (AVle.eq (show AV.i .i64 (cmpC c_2 d_4) = AV.i .i64 (cmpP p q) from ?g8)); rotate_left 1
 rotate_left
 revert r_0 u_1 c_2 v_3 d_4 h_6 h_7 h_8 h_9 h_10 h_11 h_12 h_13 h_14 h_15 h_16; rotate_left
 revert r_0 u_1 c_2 v_3 d_4 h_6 h_7 h_8 h_9 h_10 h_11 h_12 h_13 h_14 h_15 h_16; rotate_left
 revert r_0 u_1 c_2 v_3 d_4 h_6 h_7 h_8 h_9 h_10 h_11 h_12 h_13 h_14 h_15 h_17; rotate_left
 revert r_0 u_1 c_2 v_3 d_4 h_6 h_7 h_8 h_9 h_10 h_11 h_12 h_13 h_14 h_15 h_17; rotate_left
 revert r_0 u_1 c_2 v_3 d_4 h_6 h_7 h_8 h_9 h_10 h_11 h_12 h_13 h_14 h_18 h_19; rotate_left
 revert r_0 u_1 c_2 v_3 d_4 h_6 h_7 h_8 h_9 h_10 h_11 h_12 h_13 h_14 h_18 h_19; rotate_left
 revert r_0 u_1 c_2 v_3 d_4 h_6 h_7 h_8 h_9 h_10 h_11 h_12 h_13 h_14 h_18; rotate_left
 revert r_0 u_1 c_2 v_3 d_4 h_6 h_7 h_8 h_9 h_10 h_11 h_12 h_13; rotate_left
 case g0 => exact ⟨Eq.refl _, Eq.refl _, Eq.refl _, Eq.refl _, by omega, by omega, Eq.refl _⟩
 case g1 => intro r u c v d e1 e2 e3 e4 h0 h1 h h2 h3 h4 h5; exact congrArg (AV.i .i64) (D e1 e3 h0 h2 (Eq.refl _) (Eq.refl _) h5 h)
 case g2 => intro r u c v d e1 e2 e3 e4 h0 h1 h h2 h3 h4 h5; exact N e1 e2 e3 e4 h0 h2 (Eq.refl _) (Eq.refl _) h5 h
 case g3 => intro r u c v d e1 e2 e3 e4 h0 h1 h h2 h3 h4 h5; exact congrArg (AV.i .i64) (D e1 e3 h0 h2 (Eq.refl _) (bang_no h0 h4) h5 h)
 case g4 => intro r u c v d e1 e2 e3 e4 h0 h1 h h2 h3 h4 h5; exact N e1 e2 e3 e4 h0 h2 (Eq.refl _) (bang_no h0 h4) h5 h
 case g5 => intro r u c v d e1 e2 e3 e4 h0 h1 h h2 h3 h4 h5; exact congrArg (AV.i .i64) (D e1 e3 h0 h2 (bang_no h0 h3) (Eq.refl _) h5 h)
 case g6 => intro r u c v d e1 e2 e3 e4 h0 h1 h h2 h3 h4 h5; exact N e1 e2 e3 e4 h0 h2 (bang_no h0 h3) (Eq.refl _) h5 h
 case g7 => intro r u c v d e1 e2 e3 e4 h0 h1 h h2 h3 h4; exact N e1 e2 e3 e4 h0 h2 (bang_no h0 h3) (bang_no h0 h4) (fun k => k (Eq.refl _)) h
 case g8 => intro r u c v d e1 e2 e3 e4 h0 h1 h h2; rw [e2, e4, cp_cloud (cf_end h1 h2 h)]
end Go.Proofs.YtaiepnaokhpmcaaGreat
namespace Go.Proofs.YtaiepnaokhpmcaaGreat
open Go.E
set_option maxRecDepth 100000
set_option maxHeartbeats 4000000
theorem bl_cons (a b : UInt8) (x y : List UInt8) : Go.Op.bytesLess (a :: x) (b :: y) = true ↔ a.toNat < b.toNat ∨ (a = b ∧ Go.Op.bytesLess x y = true) := by
 rw [Go.Op.bytesLess, Bool.or_eq_true, Bool.and_eq_true, decide_eq_true_eq, beq_iff_eq, UInt8.lt_iff_toNat_lt]
theorem bl_irr : ∀ l : List UInt8, ¬ Go.Op.bytesLess l l = true
 | [] => by simp [Go.Op.bytesLess]
 | a :: l => by
  rw [bl_cons]
  rintro (h | h)
  ·omega
  ·exact bl_irr l h.2
theorem bl_trans : ∀ {x y z : List UInt8}, Go.Op.bytesLess x y = true → Go.Op.bytesLess y z = true → Go.Op.bytesLess x z = true
 | _, [], _, h, _ => by cases ‹List UInt8› <;> simp [Go.Op.bytesLess] at h
 | _, _ :: _, [], _, h => by simp [Go.Op.bytesLess] at h
 | [], _ :: _, c :: z, _, _ => by simp [Go.Op.bytesLess]
 | a :: x, b :: y, c :: z, h1, h2 => by
  rw [bl_cons] at *
  rcases h1 with h1 | ⟨rfl, h1⟩
  ·rcases h2 with h2 | ⟨rfl, h2⟩
   ·exact .inl (by omega)
   ·exact .inl h1
  ·rcases h2 with h2 | ⟨rfl, h2⟩
   ·exact .inl h2
   ·exact .inr ⟨rfl, bl_trans h1 h2⟩
theorem bl_total : ∀ {x y : List UInt8}, ¬ Go.Op.bytesLess x y = true → ¬ Go.Op.bytesLess y x = true → x = y
 | [], [], _, _ => rfl
 | [], b :: y, h, _ => by simp [Go.Op.bytesLess] at h
 | a :: x, [], _, h => by simp [Go.Op.bytesLess] at h
 | a :: x, b :: y, h1, h2 => by
  rw [bl_cons] at *
  have e : a = b := UInt8.toNat_inj.1 (by omega)
  subst e
  rw [bl_total (fun h => h1 (.inr ⟨rfl, h⟩)) (fun h => h2 (.inr ⟨rfl, h⟩))]
theorem sLt_irr (x : ByteArray) : ¬ sLt x x = true := bl_irr _
theorem sLt_trans {x y z : ByteArray} (h1 : sLt x y = true) (h2 : sLt y z = true) : sLt x z = true := bl_trans h1 h2
theorem sLt_total {x y : ByteArray} (h1 : ¬ sLt x y = true) (h2 : ¬ sLt y x = true) : x = y := by
 have e := bl_total h1 h2
 rw [ByteArray.toList_eq, ByteArray.toList_eq] at e
 exact ByteArray.ext (Array.ext' e)
end Go.Proofs.YtaiepnaokhpmcaaGreat
namespace Go.Proofs.YtaiepnaokhpmcaaGreat
open Go.E
set_option maxRecDepth 100000
set_option maxHeartbeats 4000000
open Go Go.Lib Go.RowKit Go.Proofs
def cmpSt (a b : ByteArray) : Int := compareBytes a.data.toList b.data.toList
theorem cmpB_less : ∀ x y : List UInt8, compareBytes x y = if Go.Op.bytesLess x y = true then -1 else if Go.Op.bytesLess y x = true then 1 else 0
 | [], [] => rfl
 | [], b :: y => by simp [compareBytes, Go.Op.bytesLess]
 | a :: x, [] => by simp [compareBytes, Go.Op.bytesLess]
 | a :: x, b :: y => by
  have ih := cmpB_less x y
  rw [compareBytes]
  by_cases h1 : a < b
  ·rw [if_pos h1, if_pos ((bl_cons _ _ _ _).2 (.inl (UInt8.lt_iff_toNat_lt.1 h1)))]
  ·by_cases h2 : b < a
   ·rw [if_neg h1, if_pos h2, if_neg, if_pos ((bl_cons _ _ _ _).2 (.inl (UInt8.lt_iff_toNat_lt.1 h2)))]
    rw [bl_cons]
    rintro (k | ⟨rfl, _⟩)
    ·exact h1 (UInt8.lt_iff_toNat_lt.2 k)
    ·rw [UInt8.lt_iff_toNat_lt] at h2; omega
   ·have e : a = b := UInt8.toNat_inj.1 (by rw [UInt8.lt_iff_toNat_lt] at h1 h2; omega)
    subst e
    rw [if_neg h1, if_neg h1, ih]
    have c : ∀ u v : List UInt8, Go.Op.bytesLess (a :: u) (a :: v) = Go.Op.bytesLess u v := fun u v => by
     rw [Bool.eq_iff_iff, bl_cons]
     constructor
     ·rintro (k | ⟨_, k⟩)
      ·omega
      ·exact k
     ·exact fun k => .inr ⟨rfl, k⟩
    rw [c, c]
theorem cmpSt_less (a b : ByteArray) : cmpSt a b = if sLt a b = true then -1 else if sLt b a = true then 1 else 0 := by
 unfold cmpSt sLt
 rw [ByteArray.toList_eq, ByteArray.toList_eq]
 exact cmpB_less _ _
set_option maxHeartbeats 4000000 in
theorem compare_calls (a b : ByteArray) (w : World) : Calls Tryz.prog 186 #[.string a, .string b] w fun e w' => e = .returned (.int .i64 (cmpSt a b)) ∧ w' = w := by
 go_enter Tryz.func186, Tryz.ntmps186
 go_wp2
 rw [run_callFunc_extern Tryz.func209 (by kernel_rfl) (by kernel_rfl) (by kernel_rfl) (e := Extern.BytealgCompare.compare) (by kernel_rfl), Lib.run_compareString]
 simp only [Result.andThen]
 rw [Oper.upon_value]
 go_wp2
 go_ret
 exact ⟨rfl, rfl⟩
theorem con186 (a b : ByteArray) : Con Tryz.prog 186 [.s a, .s b] (.i .i64 (cmpSt a b)) := by
 refine ⟨⟨_, Tryz.func186, by kernel_rfl, by kernel_rfl⟩, fun w S0 vs hS hl hv => ?_⟩
 obtain ⟨v, u, rfl⟩ : ∃ v u, vs = [v, u] := by
  match vs, hl with
  | [v, u], _ => exact ⟨v, u, rfl⟩
 have h1 := hv 0 _ v rfl rfl
 have h2 := hv 1 _ u rfl rfl
 cases h1
 cases h2
 refine (compare_calls a b w).mono ?_
 rintro e w' ⟨rfl, rfl⟩
 exact ⟨_, rfl, .i _ _, Below.refl _ _⟩
theorem con151 (a b : ByteArray) : Con Tryz.prog 151 [.s a, .s b] (.i .i64 (cmpSt a b)) :=
 by
 refine st_con tab_ok (by kernel_rfl) [.tmp 4] 8 Go.Proofs.Tryz.func151 (by kernel_rfl) (by kernel_rfl) ?_
 intro e0 cx
 refine sq ?_
 refine rg (A := True) cx [] [0, 1] [] trivial ?_
 refine sn (sq ?_)
 refine rg (A := _) cx [(2, { val := some (.i .i64 (cmpSt a b)) })] [4] [] (con186 (a) (b)) ?_
 refine sn ?_
 refine st_ret (by kernel_rfl) ?_
 exact q_ret (r := .i .i64 (cmpSt a b)) (obl := []) (by kernel_rfl) trivial (AVle.refl _)
end Go.Proofs.YtaiepnaokhpmcaaGreat
namespace Go.Proofs.YtaiepnaokhpmcaaGreat
open Go.E
set_option maxRecDepth 100000
set_option maxHeartbeats 4000000
def sizeR : List Run → Int
 | [] => 0
 | r :: l => r.hi - r.lo + 1 + sizeR l
theorem sizeR_app (a b : List Run) : sizeR (a ++ b) = sizeR a + sizeR b := by
 induction a with
 | nil => simp [sizeR]
 | cons e a ih => simp only [List.cons_append, sizeR, ih]; omega
end Go.Proofs.YtaiepnaokhpmcaaGreat
namespace Go.Proofs.YtaiepnaokhpmcaaGreat
open Go.E
set_option maxRecDepth 100000
set_option maxHeartbeats 4000000
def sizeT (T : Nat → List Run) : Nat → Int
 | 0 => 0
 | n + 1 => sizeT T n + sizeR (nrm (T n))
theorem size_is (p : Past) : ∃ n : Int, n = sizeT (openT [p]) 16 := ⟨_, rfl⟩
noncomputable def sizeP (p : Past) : Int := Classical.choose (size_is p)
theorem sizeP_eq (p : Past) : sizeP p = sizeT (openT [p]) 16 := Classical.choose_spec (size_is p)
theorem sizeR_pos : ∀ {l : List Run}, sepR l → 0 ≤ sizeR l ∧ (sizeR l = 0 → l = [])
 | [], _ => ⟨Int.le_refl _, fun _ => rfl⟩
 | r :: l, h => by
  have hr := h.2 r (by simp)
  have ih := (sizeR_pos (sepR_tail h)).1
  rw [sizeR]
  exact ⟨by omega, fun k => by omega⟩
theorem sizeR_le : ∀ {l : List Run}, sepR l → ∀ m : Int, (∀ r ∈ l, m ≤ r.lo) → sizeR l ≤ 1000000001 - m ∨ l = []
 | [], _, m, _ => .inr rfl
 | r :: l, h, m, hm => by
  have hr := h.2 r (by simp)
  have h1 := hm r (by simp)
  have pa := (List.pairwise_cons.1 h.1).1
  rw [sizeR]
  rcases sizeR_le (sepR_tail h) (r.hi + 1) (fun x hx => by have := pa x hx; omega) with k | k
  ·left; omega
  ·subst k
   left
   rw [sizeR]
   omega
theorem sizeR_rng {l : List Run} (h : sepR l) : 0 ≤ sizeR l ∧ sizeR l ≤ 1000000000 := by
 refine ⟨(sizeR_pos h).1, ?_⟩
 rcases sizeR_le h 1 (fun r hr => (h.2 r hr).1) with k | k
 ·omega
 ·subst k; simp [sizeR]
theorem sizeT_rng (T : Nat → List Run) : ∀ n : Nat, 0 ≤ sizeT T n ∧ sizeT T n ≤ n * 1000000000
 | 0 => by simp [sizeT]
 | n + 1 => by
  have := sizeT_rng T n
  have := sizeR_rng (nrm_sep (T n))
  rw [sizeT]
  omega
theorem sizeT_zero (T : Nat → List Run) : ∀ n : Nat, sizeT T n = 0 ↔ ∀ r : Nat, r < n → nrm (T r) = []
 | 0 => by simp [sizeT]
 | n + 1 => by
  have h1 := sizeT_rng T n
  have h2 := sizeR_pos (nrm_sep (T n))
  have ih := sizeT_zero T n
  rw [sizeT]
  constructor
  ·intro k r hr
   by_cases e : r = n
   ·rw [e]; exact h2.2 (by omega)
   ·exact ih.1 (by omega) r (by omega)
  ·intro k
   rw [ih.2 fun r hr => k r (by omega), k n (by omega)]
   rfl
theorem nrm_empty {a : List Run} : nrm a = [] ↔ ∀ n, ¬ inR (nrm a) n := by
 constructor
 ·intro h n k
  rw [h] at k
  obtain ⟨r, hr, _⟩ := k
  cases hr
 ·intro h
  cases e : nrm a with
  | nil => rfl
  | cons r l =>
   have hs := nrm_sep a
   rw [e] at hs h
   have := hs.2 r (by simp)
   exact absurd ⟨r, by simp, Int.le_refl _, this.2.1⟩ (h r.lo)
theorem sizeP_zero (p : Past) : sizeP p = 0 ↔ ∀ d, hasP p d = false := by
 rw [sizeP_eq, sizeT_zero]
 constructor
 ·intro h d
  rw [← has_norm, ← Bool.not_eq_true]
  intro k
  unfold normP at k
  rw [has_tab] at k
  have hb := dotB_in k.1
  have := nrm_empty.1 (h d.rep.toNat (by omega)) d.num
  rw [nrm_in] at this
  exact this ⟨by omega, by omega, k.2⟩
 ·intro h r hr
  refine nrm_empty.2 fun n k => ?_
  rw [nrm_in] at k
  have hd : dotB ⟨r, n⟩ = true := by unfold dotB; rw [decide_eq_true_eq]; simp only; omega
  have h1 := h ⟨r, n⟩
  rw [← has_norm, ← Bool.not_eq_true] at h1
  refine h1 ?_
  unfold normP
  rw [has_tab]
  exact ⟨hd, k.2.2⟩
theorem has_none (d : Dot) : hasP ⟨[], []⟩ d = false := by
 unfold hasP
 cases h : dotB d with
 | false => rfl
 | true =>
  have hb := dotB_in h
  simp
  omega
theorem norm_none : normP ⟨[], []⟩ = ⟨[], []⟩ := by
 have h1 : ∀ r : Nat, r < 16 → openT [⟨[], []⟩] r = [] := fun r hr => by simp [openT, vecR, cloudR]
 have h2 : nrm [] = [] := by
  refine nrm_empty.2 fun n k => ?_
  rw [nrm_in] at k
  obtain ⟨r, hr, _⟩ := k.2.2
  cases hr
 unfold normP
 rw [tabP_congr (U := fun _ => []) fun r hr => h1 r hr]
 have l0 : ∀ r, leadT (fun _ => []) r = 0 := fun r => by unfold leadT; rw [h2]; rfl
 have s0 : ∀ n, szT (fun _ => []) n = 0 := fun n => by
  induction n with
  | zero => rfl
  | succ n ih => rw [szT, if_neg (by rw [l0]; omega), ih]
 have c0 : ∀ n, cloudT (fun _ => []) n = [] := fun n => by
  induction n with
  | zero => rfl
  | succ n ih => rw [cloudT, ih]; unfold restT; rw [h2]; rfl
 unfold tabP
 rw [s0, c0]
 rfl
theorem empty_form {p : Past} (h : p = normP p) : sizeP p = 0 ↔ p = ⟨[], []⟩ := by
 rw [sizeP_zero]
 constructor
 ·exact fun k => norm_ext h norm_none.symm fun d => by rw [k d, has_none]
 ·intro k d
  rw [k, has_none]
end Go.Proofs.YtaiepnaokhpmcaaGreat
