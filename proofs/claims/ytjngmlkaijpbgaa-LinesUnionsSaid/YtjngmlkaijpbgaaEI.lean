/- EI: laws for the walk as the tactics use it; what is told of an operation. Conditions: none. -/
import Derived.Test.YtjngmlkaijpbgaaEH
set_option linter.unusedVariables false
set_option linter.unusedSimpArgs false
namespace Go.E
open Go.RowKit

theorem tabOk_nil (P : Program) : TabOk P [] := fun t ti h => by simp [look] at h
theorem tabOk_cons {P : Program} {T : Tab} (t : Nat) (ti : TI) (h1 : P.underlying t = some ti.desc)
    (h2 : ((P.info? t).map fun i => (i.size, i.bytes, i.zero.map fun z => z.cells.toList.map avC)) = some (ti.size, ti.bytes, some (ti.zero.map some))) (h : TabOk P T) : TabOk P ((t, ti) :: T) := by
  intro q tq hq
  simp only [look] at hq
  split at hq
  · rename_i e
    have : t = q := by simpa using e
    subst this
    simp only [Option.some.injEq] at hq
    subst hq
    exact ⟨h1, h2⟩
  · exact h q tq hq
structure Ctx (P : Program) (T : Tab) (E : Env) (nt : Nat) : Prop where
  hT : TabOk P T
  hm : P.follows .mixedOrders = true
  hnt : E.nt = nt

section
variable {P : Program} {E : Env} {T : Tab} {σ : St} {Q : Exit → St → Prop} {c x y : Code} {nt : Nat}

theorem aw_region {ovs : List (Nat × Ov)} {ops : Array Oper} {id : Nat} {rs : List Rec} {ps : List Prop} {σ' : St} (cx : Ctx P T E nt) (hr : runR P T ovs nt ops 0 ops.toList σ = some (rs, ps)) (hσ : σ.recs rs = σ') (hp : All ps) (h : Q .normal σ') : AWP P E (.region id ops false) Q σ :=
  awp_region (ovs := ovs) cx.hT (by rw [cx.hnt]; exact hr) hp hσ h
theorem aw_region_any {ovs : List (Nat × Ov)} {ops : Array Oper} {id : Nat} {rs : List Rec} {ps : List Prop} {σ' : St} (cx : Ctx P T E nt) (hr : runR P T ovs nt ops 0 ops.toList σ = some (rs, ps)) (hord : ordB ops rs = true) (hσ : σ.recs rs = σ') (hp : All ps) (h : Q .normal σ') : AWP P E (.region id ops true) Q σ :=
  awp_region_any (ovs := ovs) cx.hm cx.hT (by rw [cx.hnt]; exact hr) hp hord hσ h
theorem aw_cond_true {q : Operand} (hq : σ.ev q = some (.b true)) (h : AWP P E x Q σ) : AWP P E (.cond q x y) Q σ := awp_cond true hq (fun _ => h) (fun e => by cases e)
theorem aw_cond_false {q : Operand} (hq : σ.ev q = some (.b false)) (h : AWP P E y Q σ) : AWP P E (.cond q x y) Q σ := awp_cond false hq (fun e => by cases e) (fun _ => h)
theorem aw_cond_dec {q : Operand} (p : Prop) [Decidable p] (hq : σ.ev q = some (.b (decide p))) (h1 : p → AWP P E x Q σ) (h2 : ¬p → AWP P E y Q σ) : AWP P E (.cond q x y) Q σ :=
  awp_cond (decide p) hq (fun e => h1 (of_decide_eq_true e)) (fun e => h2 (of_decide_eq_false e))
theorem aw_split (p : Prop) (h1 : p → AWP P E x Q σ) (h2 : ¬p → AWP P E x Q σ) : AWP P E x Q σ := by
  by_cases h : p
  · exact h1 h
  · exact h2 h
theorem q_seq_normal {N : St → Prop} (h : N σ) : QSeq N Q .normal σ := h
theorem q_seq_exit {N : St → Prop} {i : Nat} (h : Q (.exit i) σ) : QSeq N Q (.exit i) σ := h
theorem q_seq_ret {N : St → Prop} (h : Q .ret σ) : QSeq N Q .ret σ := h
theorem q_blk_normal {i : Nat} (h : Q .normal σ) : QBlk i Q .normal σ := h
theorem q_blk_ret {i : Nat} (h : Q .ret σ) : QBlk i Q .ret σ := h
theorem q_blk_hit {i : Nat} (h : Q .normal σ) : QBlk i Q (.exit i) σ := by simpa [QBlk] using h
theorem q_blk_miss {i j : Nat} (hn : Nat.beq j i = false) (h : Q (.exit j) σ) : QBlk i Q (.exit j) σ := by
  have : ¬ j = i := fun e => by subst e; simp at hn
  simpa [QBlk, this] using h
theorem q_ret {rs : List ResultVar} {res r : AV} {obl : List Prop} (h1 : resOf T rs σ = some (r, obl)) (h2 : All obl) (h3 : AVle r res) : QRet T rs res .ret σ := ⟨r, obl, h1, h2, h3⟩
theorem q_end {rs : List ResultVar} {res r : AV} {obl : List Prop} (h1 : resOf T rs σ = some (r, obl)) (h2 : All obl) (h3 : AVle r res) : QRet T rs res .normal σ := ⟨r, obl, h1, h2, h3⟩

def LoopNext {X : Type} (H : X → St) (dec : X → Nat) (inv : X → Prop) (ks kb : List Nat) (n : Nat) (σ : St) : Prop := ∃ x l fz, (σ.swaps l).norm fz ks kb = H x ∧ dec x < n ∧ inv x
theorem loop_next {X : Type} {H : X → St} {dec : X → Nat} {inv : X → Prop} {ks kb : List Nat} {n : Nat} (x : X) (h1 : σ.norm [] ks kb = H x) (h2 : dec x < n) (h3 : inv x) : LoopNext H dec inv ks kb n σ := ⟨x, [], [], h1, h2, h3⟩
theorem loop_next_sw {X : Type} {H : X → St} {dec : X → Nat} {inv : X → Prop} {ks kb : List Nat} {n : Nat} (l : List (Nat × Nat)) (fz : List Nat) (x : X) (h1 : (σ.swaps l).norm fz ks kb = H x) (h2 : dec x < n) (h3 : inv x) : LoopNext H dec inv ks kb n σ := ⟨x, l, fz, h1, h2, h3⟩
theorem awp_loopX {X : Type} (H : X → St) (dec : X → Nat) (inv : X → Prop) (ks kb : List Nat) (x0 : X) (h0 : σ.norm [] ks kb = H x0) (hi : inv x0)
    (hs : ∀ x, inv x → AWP P E c (QSeq (LoopNext H dec inv ks kb (dec x)) Q) (H x)) : AWP P E (.loop c) Q σ := by
  refine awp_norm [] ks kb h0 ?_
  refine awp_loop (fun n σ => ∃ x, σ = H x ∧ dec x = n ∧ inv x) (dec x0) ⟨x0, rfl, rfl, hi⟩ fun n σ' ⟨x, e1, e2, hx⟩ => ?_
  subst e1
  subst e2
  -- at the round's end the state is made narrower
  intro a w hr
  refine wp_mono (hs x hx a w hr) fun e a' w' ⟨σ'', h1, h2⟩ => ?_
  cases e with
  | normal =>
    obtain ⟨x', l, fz, e1, e2, e3⟩ := h1
    exact ⟨_, ⟨dec x', e2, x', rfl, rfl, e3⟩, e1 ▸ (h2.swaps l).norm fz ks kb⟩
  | _ => exact ⟨σ'', h1, h2⟩

theorem con_of_body {f : FuncId} {fn : Func} {args : List AV} {res : AV} (hT : TabOk P T) (hm : P.follows .mixedOrders = true) (rs : List ResultVar) (nt : Nat) (hf : P.funcs[f]? = some fn) (hb : fn.body = some c) (hn : (fn.name == "runtime.NumGoroutine") = false) (hnt : fn.ntmps = nt) (hl : Nat.ble args.length nt = true)
    (hts : fn.results = rs.toArray) (hlen : Nat.ble rs.length 4 = true) (h : ∀ E : Env, Ctx P T E nt → AWP P E c (QRet T rs res) ⟨slots0 0 args, []⟩) : Con P f args res :=
  con_of_awp hT rs hf hb hn (by rw [hnt]; exact hl) hts hlen fun E hE => h E ⟨hT, hm, hE.trans hnt⟩
end

/-! ### What is told -/
theorem told_i64 {n : Int} (h1 : -9223372036854775808 ≤ n) (h2 : n ≤ 9223372036854775807) : AV.i .i64 (IntKind.i64.wrap n) = AV.i .i64 n := by
  have : IntKind.i64.wrap n = n := by
    simp [IntKind.wrap, IntKind.bits, IntKind.signed]
    split <;> omega
  rw [this]
theorem told_i32 {n : Int} (h1 : -2147483648 ≤ n) (h2 : n ≤ 2147483647) : AV.i .i32 (IntKind.i32.wrap n) = AV.i .i32 n := by
  have : IntKind.i32.wrap n = n := by
    simp [IntKind.wrap, IntKind.bits, IntKind.signed]
    split <;> omega
  rw [this]
theorem told_u64 {n : Int} (h1 : 0 ≤ n) (h2 : n ≤ 18446744073709551615) : AV.i .u64 (IntKind.u64.wrap n) = AV.i .u64 n := by
  have : IntKind.u64.wrap n = n := by
    simp [IntKind.wrap, IntKind.bits, IntKind.signed]
    omega
  rw [this]
theorem told_u32 {n : Int} (h1 : 0 ≤ n) (h2 : n ≤ 4294967295) : AV.i .u32 (IntKind.u32.wrap n) = AV.i .u32 n := by
  have : IntKind.u32.wrap n = n := by
    simp [IntKind.wrap, IntKind.bits, IntKind.signed]
    omega
  rw [this]
theorem told_u16 {n : Int} (h1 : 0 ≤ n) (h2 : n ≤ 65535) : AV.i .u16 (IntKind.u16.wrap n) = AV.i .u16 n := by
  have : IntKind.u16.wrap n = n := by
    simp [IntKind.wrap, IntKind.bits, IntKind.signed]
    omega
  rw [this]
theorem told_u8 {n : Int} (h1 : 0 ≤ n) (h2 : n ≤ 255) : AV.i .u8 (IntKind.u8.wrap n) = AV.i .u8 n := by
  have : IntKind.u8.wrap n = n := by
    simp [IntKind.wrap, IntKind.bits, IntKind.signed]
    omega
  rw [this]
theorem told_true {p : Prop} [Decidable p] (h : p) : AV.b (decide p) = AV.b true := by rw [decide_eq_true h]
theorem told_false {p : Prop} [Decidable p] (h : ¬p) : AV.b (decide p) = AV.b false := by rw [decide_eq_false h]
theorem told_eqt {b : Bool} (h : b = true) : AV.b b = AV.b true := by rw [h]
theorem told_eqf {b : Bool} (h : b = false) : AV.b b = AV.b false := by rw [h]
theorem told_neq {x y : Int} : AV.b (x != y) = AV.b (decide (¬ x = y)) := by
  by_cases h : x = y <;> simp [h]
theorem told_neqt {x y : Int} (h : ¬ x = y) : AV.b (x != y) = AV.b true := by simp [h]
theorem told_neqf {x y : Int} (h : x = y) : AV.b (x != y) = AV.b false := by simp [h]
theorem told_not {b : Bool} : AV.b (!b) = AV.b (decide (¬ b = true)) := by cases b <;> rfl
theorem told_nott {b : Bool} (h : ¬ b = true) : AV.b (!b) = AV.b true := by cases b <;> simp_all
theorem told_notf {b : Bool} (h : b = true) : AV.b (!b) = AV.b false := by cases b <;> simp_all
theorem told_notd {p : Prop} [Decidable p] : AV.b (!decide p) = AV.b (decide (¬ p)) := by by_cases h : p <;> simp [h]
theorem told_notdt {p : Prop} [Decidable p] (h : ¬ p) : AV.b (!decide p) = AV.b true := by simp [h]
theorem told_notdf {p : Prop} [Decidable p] (h : p) : AV.b (!decide p) = AV.b false := by simp [h]
theorem told_eqn {b : Bool} (h : ¬ b = true) : AV.b b = AV.b false := by cases b <;> simp_all
theorem ne_true_of_eq_false' {b : Bool} (h : b = false) : ¬ b = true := by rw [h]; simp
theorem told_max {k : IntKind} {x y : Int} : AV.i k (if y > x then y else x) = AV.i k (max x y) := by
  have : (if y > x then y else x) = max x y := by split <;> omega
  rw [this]
theorem told_min {k : IntKind} {x y : Int} : AV.i k (if y < x then y else x) = AV.i k (min x y) := by
  have : (if y < x then y else x) = min x y := by split <;> omega
  rw [this]
theorem told_beqs {x : Bool} : AV.b (x == x) = AV.b true := by cases x <;> rfl
theorem told_bnes {x : Bool} : AV.b (!(x == x)) = AV.b false := by cases x <;> rfl
theorem told_beq {x y : Bool} : AV.b (x == y) = AV.b (decide (x = y)) := by cases x <;> cases y <;> rfl
theorem told_bne {x y : Bool} : AV.b (!(x == y)) = AV.b (decide (¬ x = y)) := by cases x <;> cases y <;> rfl
theorem told_beqt {x y : Bool} (h : x = y) : AV.b (x == y) = AV.b true := by subst h; exact told_beqs
theorem told_beqf {x y : Bool} (h : ¬ x = y) : AV.b (x == y) = AV.b false := by cases x <;> cases y <;> simp_all
theorem told_bnet {x y : Bool} (h : ¬ x = y) : AV.b (!(x == y)) = AV.b true := by cases x <;> cases y <;> simp_all
theorem told_bnef {x y : Bool} (h : x = y) : AV.b (!(x == y)) = AV.b false := by subst h; exact told_bnes
theorem told_ies {x : Int} : AV.b (x == x) = AV.b true := by simp
theorem told_ins {x : Int} : AV.b (x != x) = AV.b false := by simp
theorem told_len {α : Type} (f : α → List AV) (xs : List α) : AV.i .i64 ((List.map f xs).length : Nat) = AV.i .i64 (xs.length : Nat) := by rw [List.length_map]
/-! ### Strings -/
theorem bytes_beq (x y : ByteArray) : (x.toList == y.toList) = decide (x = y) := by
  rw [Bool.eq_iff_iff, beq_iff_eq, decide_eq_true_iff]
  constructor
  · intro e
    rw [ByteArray.toList_eq, ByteArray.toList_eq] at e
    exact ByteArray.ext (Array.ext' e)
  · rintro rfl; rfl
theorem told_seq {x y : ByteArray} : AV.b (x.toList == y.toList) = AV.b (decide (x = y)) := by rw [bytes_beq]
theorem told_seqt {x y : ByteArray} (h : x = y) : AV.b (x.toList == y.toList) = AV.b true := by rw [bytes_beq, decide_eq_true h]
theorem told_seqf {x y : ByteArray} (h : ¬ x = y) : AV.b (x.toList == y.toList) = AV.b false := by rw [bytes_beq, decide_eq_false h]
theorem told_sne {x y : ByteArray} : AV.b (!(x.toList == y.toList)) = AV.b (decide (¬ x = y)) := by rw [bytes_beq]; by_cases h : x = y <;> simp [h]
theorem told_snet {x y : ByteArray} (h : ¬ x = y) : AV.b (!(x.toList == y.toList)) = AV.b true := by rw [bytes_beq]; simp [h]
theorem told_snef {x y : ByteArray} (h : x = y) : AV.b (!(x.toList == y.toList)) = AV.b false := by rw [bytes_beq]; simp [h]
/-- Is the one text ahead of the other? -/
def sLt (x y : ByteArray) : Bool := Go.Op.bytesLess x.toList y.toList
theorem told_slt {x y : ByteArray} : AV.b (Go.Op.bytesLess x.toList y.toList) = AV.b (sLt x y) := rfl
theorem told_sge {x y : ByteArray} : AV.b (!(Go.Op.bytesLess x.toList y.toList)) = AV.b (decide (¬ sLt x y = true)) := by unfold sLt; cases Go.Op.bytesLess x.toList y.toList <;> rfl
theorem told_sle {x y : ByteArray} : AV.b (Go.Op.bytesLess x.toList y.toList || x.toList == y.toList) = AV.b (decide (sLt x y = true ∨ x = y)) := by
  rw [bytes_beq]; unfold sLt; cases Go.Op.bytesLess x.toList y.toList <;> simp
theorem told_sgt {x y : ByteArray} : AV.b (!(Go.Op.bytesLess x.toList y.toList || x.toList == y.toList)) = AV.b (decide (¬ (sLt x y = true ∨ x = y))) := by
  rw [bytes_beq]; unfold sLt; cases Go.Op.bytesLess x.toList y.toList <;> simp
/-- A text's byte. -/
def byt (z : ByteArray) (n : Nat) : Int := ((z[n]?.map fun b => (b.toNat : Int)).getD 0)
theorem rng_byt (z : ByteArray) (n : Nat) : 0 ≤ byt z n ∧ byt z n ≤ 255 := by
  unfold byt
  cases h : z[n]? with
  | none => simp
  | some b => have := b.toNat_lt; simp; omega
theorem get_byt {z : ByteArray} {n : Nat} (h : n < z.size) : (z[n]?.map fun b => (b.toNat : Int)) = some (byt z n) := by
  have : z[n]? = some z[n] := by simp [h]
  unfold byt; rw [this]; rfl
/-- Bytes as a text. -/
def toS (xs : List Int) : ByteArray := ⟨(xs.map fun n => UInt8.ofNat n.toNat).toArray⟩
theorem toS_rows {xs : List Int} (h : ∀ x ∈ xs, 0 ≤ x ∧ x < 256) : (xs.map fun x => [AV.i .u8 x]) = (toS xs).data.toList.map fun b => [AV.i .u8 b.toNat] := by
  unfold toS
  simp only [List.map_map]
  refine List.map_congr_left fun x hx => ?_
  have := h x hx
  have e : (UInt8.ofNat x.toNat).toNat = x.toNat := by simp [UInt8.toNat_ofNat']; omega
  simp only [Function.comp_apply, e]
  congr 2
  omega
theorem told_simp1 {p : Prop} [Decidable p] : (AV.b true = AV.b (decide p)) = p := by by_cases h : p <;> simp [h]
theorem told_simp2 {p : Prop} [Decidable p] : (AV.b false = AV.b (decide p)) = ¬p := by by_cases h : p <;> simp [h]
theorem told_val {a b : AV} (h : a = b) : a = b := h

theorem get_map {α : Type} [Inhabited α] {f : α → List AV} {xs : List α} {n : Nat} (h : n < xs.length) : (List.map f xs)[n]? = some (f xs[n]!) := by
  simp [h]
theorem len_map {α : Type} {f : α → List AV} {sz : Nat} (h : ∀ x, (f x).length = sz) (xs : List α) : ∀ r ∈ List.map f xs, r.length = sz := by
  intro r hr
  obtain ⟨x, _, rfl⟩ := List.mem_map.1 hr
  exact h x
theorem set_map {α : Type} {f : α → List AV} {xs : List α} {n : Nat} {cells : List AV} {x : α} (h : cells = f x) : (List.map f xs).set n cells = List.map f (xs.set n x) := by
  rw [h, List.map_set]
theorem app_map {α : Type} {f : α → List AV} {xs ys : List α} {rows : List (List AV)} (h : rows = List.map f ys) : List.map f xs ++ rows = List.map f (xs ++ ys) := by
  rw [h, List.map_append]
theorem rep_map {α : Type} {f : α → List AV} {n : Nat} {z : List AV} {x : α} (h : z = f x) : List.replicate n z = List.map f (List.replicate n x) := by
  rw [h, List.map_replicate]

theorem copy_map {α : Type} {f : α → List AV} {xs ys : List α} {rows : List (List AV)} (h : rows = List.map f ys) : rows.take (List.map f xs).length ++ (List.map f xs).drop rows.length = List.map f (ys.take xs.length ++ xs.drop ys.length) := by
  rw [h]
  simp
/-- Arrays. -/
def cA {α : Type} {n : Nat} (f : α → AV) (v : Vector α n) : List AV := v.toList.map f
theorem len_cA {α : Type} {n : Nat} (f : α → AV) (v : Vector α n) : (cA f v).length = n := by simp [cA]
theorem told_take {α : Type} {n : Nat} (f : α → AV) (v : Vector α n) : AV.agg (List.take n (cA f v)) = AV.agg (cA f v) := by
  rw [List.take_of_length_le (by rw [len_cA]; exact Nat.le_refl _)]
theorem get_cA {α : Type} [Inhabited α] {n : Nat} {f : α → AV} {v : Vector α n} {i : Nat} (h : i < n) : (cA f v)[i]? = some (f v[i]!) := by
  simp [cA, h]
theorem set_cA {α : Type} {n : Nat} {f : α → AV} {v : Vector α n} {i : Nat} {a : AV} {x : α} (h : a = f x) : (cA f v).set i a = cA f (v.setIfInBounds i x) := by
  rw [h]
  simp only [cA]
  rw [← List.map_set, Vector.toList_setIfInBounds]
theorem vw_cA {α : Type} {n : Nat} {g : α → AV} {f : α → List AV} {v : Vector α n} {lo m : Nat} (h : ∀ x, f x = [g x]) : List.map (fun c => [c]) (((cA g v).drop lo).take m) = List.map f ((v.toList.drop lo).take m) := by
  simp only [cA, ← List.map_drop, ← List.map_take, List.map_map]
  exact List.map_congr_left fun x _ => (h x).symm
theorem flat_cA {α : Type} {n : Nat} {f : α → AV} (h : ∀ x, Flat (f x)) (v : Vector α n) : Flat (.agg (cA f v)) := by
  refine .agg _ fun a ha => ?_
  obtain ⟨x, _, rfl⟩ := List.mem_map.1 ha
  exact h x
end Go.E
