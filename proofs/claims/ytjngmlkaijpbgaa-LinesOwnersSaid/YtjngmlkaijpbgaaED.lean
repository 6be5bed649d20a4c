/- ED: each operation of the model does what exec1 says (tenth part: bytes as a text; calls by their contracts). Conditions: none. -/
import Derived.Test.YtjngmlkaijpbgaaEC
set_option linter.unusedVariables false
set_option linter.unusedSimpArgs false
namespace Go.E
open Go.RowKit
section
variable {P : Program} {E : Env} {T : Tab} {ov : Ov} {o : Oper} {σ : St} {pl : Nat → Value} {a : Act} {w : World} {eff : Eff} {log : List Nat}

theorem foldl_push (z : List UInt8) : ∀ (s : ByteArray), (z.map fun b => ((b.toNat : Nat) : Int)).foldl (fun r n => r.push (UInt8.ofNat n.toNat)) s = ⟨s.data ++ z.toArray⟩ := by
  intro s
  rw [foldl_push_bytes, List.map_map]
  have : ((fun n : Int => UInt8.ofNat n.toNat) ∘ fun b : UInt8 => ((b.toNat : Nat) : Int)) = id := by funext b; simp
  rw [this, List.map_id]

theorem ok_convert (hT : TabOk P T) (h : RelX E σ pl a w) (hd : ∀ q, o.dst = some q → q < E.nt) (src dst : TypeId) (x : Operand) (ho : o.op = .convert src dst x)
    (hrun : (exec1 P T ov o σ.ev).run (look σ.hp) [] = some (eff, log)) (hobl : All eff.obl) : Ok P E o a w (σ.app o.dst eff) := by
  simp only [exec1, ho] at hrun
  split at hrun
  · rename_i ts td av hs hdd hx
    have u1 := und hT hs w
    have u2 := und hT hdd w
    split at hrun
    · rename_i k1 k q n h1 h2
      simp only [rets, Pg.run, Option.some.injEq, Prod.mk.injEq] at hrun
      obtain ⟨rfl, _⟩ := hrun
      have e := relv_toV (h.ev hx) rfl
      refine .pure h hd (v := .int k (k.wrap n)) ?_ (.pure _ _ (.i _ _))
      rw [h1] at u1
      rw [h2] at u2
      simp [execOp, ho, convert, u1, u2, e, Conv.intToInt]
    · rename_i z h1 h2
      simp only [rets, Pg.run, Option.some.injEq, Prod.mk.injEq] at hrun
      obtain ⟨rfl, _⟩ := hrun
      have e := relv_toV (h.ev hx) rfl
      refine .pure h hd (v := .string z) ?_ (.pure _ _ (.s _))
      rw [h1] at u1
      rw [h2] at u2
      simp [execOp, ho, convert, u1, u2, e]
    · rename_i e h1 h2
      split at hrun
      · rename_i te z hte hov
        split at hrun
        · rename_i hte8
          obtain ⟨rows, l', hk, hsh⟩ := rowsOf_ok h (h.ev hx) hrun
          simp only [Pg.run, Option.some.injEq, Prod.mk.injEq] at hk
          obtain ⟨rfl, _⟩ := hk
          have o1 : rows = z.data.toList.map fun b => [AV.i .u8 b.toNat] := hobl
          have us := (hT src ts hs).1
          rw [h1] at us
          have ud := (hT dst td hdd).1
          rw [h2] at ud
          have ue := (hT e te hte).1
          rw [hte8] at ue
          have hone : ∀ r ∈ rows, r.length = 1 := by
            intro r hr
            rw [o1] at hr
            obtain ⟨b, _, rfl⟩ := List.mem_map.1 hr
            rfl
          refine .pure h hd (v := .string z) ?_ (.pure _ _ (.s _))
          have key : (convert src dst (a.eval x)).run P w = .ok (.string z) w := by
            rcases hsh.flat hone with ⟨e0, er⟩ | ⟨ad, cap, xs, e0, hl, hcell, hx1, hxr⟩
            · rw [e0, run_convert_bytes_nil w src e us ue 0 0 dst ud]
              have : z.data.toList = [] := by
                rw [er] at o1
                simpa using o1.symm
              have hz : z = ByteArray.empty := by
                cases z with
                | mk d =>
                  simp at this
                  subst this
                  rfl
              rw [hz]
            · rw [e0, run_convert_bytes_string w src dst e _ rows.length cap us ue ud]
              have hxs : xs = (z.data.toList.map fun b => ((b.toNat : Nat) : Int)).map (Value.int .u8) := by
                apply List.ext_getElem?
                intro j
                simp only [List.getElem?_map]
                have hfl := flatten1 j hone
                cases hj : z.data.toList[j]? with
                | none =>
                  rw [Option.map_none, Option.map_none, List.getElem?_eq_none]
                  rw [List.getElem?_eq_none_iff] at hj
                  rw [hl, o1]
                  simpa using hj
                | some b =>
                  have hlt := lt_of_getElem? hj
                  have hlx : j < xs.length := by rw [hl, o1]; simpa using hlt
                  rw [Option.map_some, Option.map_some, List.getElem?_eq_getElem hlx]
                  have hrj : rows[j]? = some [AV.i .u8 b.toNat] := by rw [o1, List.getElem?_map, hj]; rfl
                  rw [hrj] at hfl
                  have := hxr j _ _ hfl (List.getElem?_eq_getElem hlx)
                  generalize xs[j] = u at this ⊢
                  cases this
                  rfl
              have hload := run_loadCells_list (P := P) w ad xs hcell
              rw [hl, Nat.mul_one] at hload
              rw [hxs] at hload
              rw [run_bytesToString w ad rows.length cap _ hload, foldl_push]
              cases z
              simp [ByteArray.empty, ByteArray.emptyWithCapacity]
              rfl
          simp only [execOp, ho, Sem.run_bind, key]
          rfl
        · simp [Pg.run] at hrun
      · simp [Pg.run] at hrun
    · simp [Pg.run] at hrun
  · simp [Pg.run] at hrun

/-- A value, read by a callee: 'S'' says where its blocks may lie. -/
def ArgRel (S' : Nat → Prop) (w : World) (a : AV) (v : Value) : Prop := RelV0 S' w a v
/-- The blocks that are named lie in S'. -/
def InS (hp : Nat → Option Blk) (pl : Nat → Value) (S' : Nat → Prop) (ids : List Nat) : Prop := ∀ i ∈ ids, ∀ B, hp i = some B → B.live = true → ∀ k, blkOf (pl i) = some k → S' k

theorem shows_rel {S S' : Nat → Prop} {rows : List (List AV)} {v : Value} (h : Shows S w rows v) (hS : ∀ k, S k → S' k) (hb : ∀ k, blkOf v = some k → S' k) (hc : ∀ A n c, v = .slice A n c → n ≤ c) : RelV0 S' w (.sl rows) v := by
  obtain ⟨A, cap, sz, u, rfl, hm, hn, hsz, hA, h1, hh⟩ := h
  refine .sl rows A cap sz u (hc _ _ _ rfl) hm (fun e => (hn e).1) hsz (fun h0 => ?_) h1 (fun j q r a hr ha => (hh j q r a hr ha).mono hS (fun _ _ => rfl))
  obtain ⟨ad, rfl, hcell⟩ := hA h0
  exact ⟨ad, rfl, hb _ rfl, hcell⟩

theorem arg0_ok (h : RelX E σ pl a w) {av : AV} {v : Value} (hv : RelV (look σ.hp) pl (SS E (look σ.hp) pl w) w av v) {l : List Nat} {r : (AV × List Nat) × List Nat} (hrun : (arg0 av).run (look σ.hp) l = some r) :
    (∀ i ∈ r.1.2, (look σ.hp i).isSome = true) ∧ ∀ S', (∀ k, SS E (look σ.hp) pl w k → S' k) → InS (look σ.hp) pl S' r.1.2 → RelV0 S' w r.1.1 v := by
  have hr0 : ∀ rows l', (rowsOf av fun rows => rets (.sl rows)).run (look σ.hp) l = some ({ val := .sl rows }, l') → Shows (SS E (look σ.hp) pl w) w rows v := by
    intro rows l' hr
    obtain ⟨rows', l'', hk, hs⟩ := rowsOf_ok h hv hr
    simp only [rets, Pg.run, Option.some.injEq, Prod.mk.injEq, Eff.mk.injEq, AV.sl.injEq] at hk
    rw [hk.1.1] at hs
    exact hs
  unfold arg0 at hrun
  split at hrun
  · rename_i id ver
    replace hrun := getB_run hrun
    obtain ⟨B, hB, hver, hl, hrun⟩ := hrun
    split at hrun
    · rename_i sz rows hk
      simp only [Pg.run, Option.some.injEq] at hrun
      subst hrun
      refine ⟨fun i hi => by simp at hi; subst hi; simp [hB], fun S' hS hI => ?_⟩
      rw [relv_own hv hB hver hl]
      exact row_sl (h.blks id B hB) hk hS (hI id (by simp) B hB hl)
    · simp [Pg.run] at hrun
  · rename_i id ver lo n
    replace hrun := getB_run hrun
    obtain ⟨B, hB, hver, hl, hrun⟩ := hrun
    obtain ⟨g, cap, hg, hnc, hnm, hlen, he⟩ := relv_vw hv hB hver hl
    have hcap : ∀ A m c, v = .slice A m c → m ≤ c := by
      intro A m c e
      rw [he] at e
      simp only [Value.slice.injEq] at e
      omega
    have hblk : blkOf v = some g := by rw [he]; rfl
    split at hrun
    · rename_i sz rows hk
      simp only [Pg.run, Option.some.injEq] at hrun
      subst hrun
      refine ⟨fun i hi => by simp at hi; subst hi; simp [hB], fun S' hS hI => ?_⟩
      have hs := hr0 ((rows.drop lo).take n) (id :: l) (by simp [rowsOf, getB, Pg.run, hB, hver, hl, hk, rets])
      exact shows_rel hs hS (fun k hk' => by rw [hblk] at hk'; exact hI id (by simp) B hB hl k (by rw [hg]; exact hk')) hcap
    · rename_i cells hk
      simp only [Pg.run, Option.some.injEq] at hrun
      subst hrun
      refine ⟨fun i hi => by simp at hi; subst hi; simp [hB], fun S' hS hI => ?_⟩
      have hs := hr0 (((cells.drop lo).take n).map fun c => [c]) (id :: l) (by simp [rowsOf, getB, Pg.run, hB, hver, hl, hk, rets])
      exact shows_rel hs hS (fun k hk' => by rw [hblk] at hk'; exact hI id (by simp) B hB hl k (by rw [hg]; exact hk')) hcap
    · simp [Pg.run] at hrun
  · replace hrun := chk_run hrun
    obtain ⟨hc, hrun⟩ := hrun
    simp only [Pg.run, Option.some.injEq] at hrun
    subst hrun
    exact ⟨fun i hi => by simp at hi, fun S' hS _ => (relv_pure hv hc).mono hS (fun _ _ => rfl)⟩

/-- A list of them. -/
theorem mapPg_ok {f : AV → Pg (AV × List Nat)} (h : RelX E σ pl a w)
    (hf : ∀ (av : AV) (v : Value) (l : List Nat) (r : (AV × List Nat) × List Nat), RelV (look σ.hp) pl (SS E (look σ.hp) pl w) w av v → (f av).run (look σ.hp) l = some r →
      (∀ i ∈ r.1.2, (look σ.hp i).isSome = true) ∧ ∀ S', (∀ k, SS E (look σ.hp) pl w k → S' k) → InS (look σ.hp) pl S' r.1.2 → RelV0 S' w r.1.1 v) :
    ∀ (avs : List AV) (vs : List Value) (l : List Nat) (r : List (AV × List Nat) × List Nat), vs.length = avs.length →
      (∀ (j : Nat) (b : AV) (u : Value), avs[j]? = some b → vs[j]? = some u → RelV (look σ.hp) pl (SS E (look σ.hp) pl w) w b u) → (mapPg f avs).run (look σ.hp) l = some r →
      r.1.length = avs.length ∧ (∀ i ∈ r.1.flatMap (·.2), (look σ.hp i).isSome = true) ∧ ∀ S', (∀ k, SS E (look σ.hp) pl w k → S' k) → InS (look σ.hp) pl S' (r.1.flatMap (·.2)) →
        ∀ (j : Nat) (b : AV) (u : Value), (r.1.map (·.1))[j]? = some b → vs[j]? = some u → RelV0 S' w b u
  | [], vs, l, r, _, _, hr => by
    simp only [mapPg, Pg.run, Option.some.injEq] at hr
    subst hr
    exact ⟨rfl, fun i hi => by simp at hi, fun S' _ _ j b u hb => by simp at hb⟩
  | av :: avs, [], l, r, hl, _, _ => by simp at hl
  | av :: avs, v :: vs, l, r, hl, hv, hr => by
    simp only [mapPg, Pg.run_bind] at hr
    cases h1 : (f av).run (look σ.hp) l with
    | none => simp [h1] at hr
    | some q =>
      simp only [h1, Option.bind_some] at hr
      cases h2 : (mapPg f avs).run (look σ.hp) q.2 with
      | none => simp [h2] at hr
      | some q2 =>
        simp only [h2, Option.bind_some, Pg.run, Option.some.injEq] at hr
        subst hr
        obtain ⟨a1, a2⟩ := hf av v l q (hv 0 av v rfl rfl) h1
        obtain ⟨b1, b2, b3⟩ := mapPg_ok h hf avs vs q.2 q2 (by simpa using hl) (fun j b u hb hu => hv (j + 1) b u (by simpa using hb) (by simpa using hu)) h2
        refine ⟨by simp [b1], fun i hi => ?_, fun S' hS hI j b u hb hu => ?_⟩
        · simp only [List.flatMap_cons, List.mem_append] at hi
          rcases hi with hi | hi
          · exact a1 i hi
          · exact b2 i hi
        · have hI1 : InS (look σ.hp) pl S' q.1.2 := fun i hi => hI i (by simp only [List.flatMap_cons, List.mem_append]; exact .inl hi)
          have hI2 : InS (look σ.hp) pl S' (q2.1.flatMap (·.2)) := fun i hi => hI i (by simp only [List.flatMap_cons, List.mem_append]; exact .inr hi)
          cases j with
          | zero =>
            simp at hb hu
            subst hb
            subst hu
            exact a2 S' hS hI1
          | succ j => exact b3 S' hS hI2 j b u (by simpa using hb) (by simpa using hu)

theorem arg1_ok (h : RelX E σ pl a w) (av : AV) (v : Value) (l : List Nat) (r : (AV × List Nat) × List Nat) (hv : RelV (look σ.hp) pl (SS E (look σ.hp) pl w) w av v) (hrun : (arg1 av).run (look σ.hp) l = some r) :
    (∀ i ∈ r.1.2, (look σ.hp i).isSome = true) ∧ ∀ S', (∀ k, SS E (look σ.hp) pl w k → S' k) → InS (look σ.hp) pl S' r.1.2 → RelV0 S' w r.1.1 v := by
  unfold arg1 at hrun
  split at hrun
  · rename_i id ver r0 c
    replace hrun := getB_run hrun
    obtain ⟨B, hB, hver, hl, hrun⟩ := hrun
    obtain ⟨g, hg, he⟩ := relv_ptr hv hB hver hl
    split at hrun
    · rename_i cells hk
      replace hrun := chk_run hrun
      obtain ⟨hr0, hrun⟩ := hrun
      have hr0 : r0 = 0 := by simpa using hr0
      subst hr0
      rw [Pg.run_bind] at hrun
      cases hm : (mapPg arg0 (cells.drop c)).run (look σ.hp) (id :: l) with
      | none => rw [hm] at hrun; simp at hrun
      | some q =>
        rw [hm] at hrun
        simp only [Option.bind_some, Pg.run, Option.some.injEq] at hrun
        subst hrun
        obtain ⟨g', vs, hp1, hp2, hp3, hp4, hp5⟩ := h.varCell hB hk
        have hgg : g' = g := by rw [hp1] at hg; simpa [blkOf] using hg
        subst hgg
        have hoff : B.off 0 c = c := by simp [Blk.off, hk]
        obtain ⟨m1, m2, m3⟩ := mapPg_ok (f := arg0) h (fun av v l r hv hr => arg0_ok h hv hr) (cells.drop c) (vs.toList.drop c) (id :: l) q (by simp [hp3]) (fun j b u hb hu => by
          rw [List.getElem?_drop] at hb hu
          exact hp5 _ b u hb (by simpa using hu)) hm
        refine ⟨fun i hi => ?_, fun S' hS hI => ?_⟩
        · rcases List.mem_cons.1 hi with rfl | hi
          · simp [hB]
          · exact m2 i hi
        · have m4 := m3 S' hS fun i hi => hI i (List.mem_cons_of_mem _ hi)
          have hlen : (q.1.map (·.1)).length = cells.length - c := by simp [m1]
          rw [he, hoff]
          refine .eptr _ _ (fun j => (vs[c + j]?).getD .nilIface) (hI id (by simp) B hB hl g' (by rw [hp1]; rfl)) (fun j hj => ?_) (fun j => ?_) (fun j b hb => ?_)
          · have hlt : c + j < vs.size := by omega
            rw [add_none, cell_of w g' _ vs _ _ hp2]
            simp only [Array.getElem?_eq_getElem hlt, Option.getD_some]
          · show ((vs[c + j]?).getD .nilIface).oneCell' = true
            cases hx : vs[c + j]? with
            | none => rfl
            | some u => exact hp4 u (List.mem_of_getElem? (by simpa using hx))
          · have hlt := lt_of_getElem? hb
            have hx : vs[c + j]? = some (vs[c + j]'(by omega)) := Array.getElem?_eq_getElem (by omega)
            show RelV0 S' w b ((vs[c + j]?).getD .nilIface)
            rw [hx]
            exact m4 j b _ hb (by rw [List.getElem?_drop]; simp [hx])
    · rename_i cells hk
      simp only [Pg.run, Option.some.injEq] at hrun
      subst hrun
      obtain ⟨g', vs, hp1, hp2, hp3, hp4, hp5⟩ := h.arrCell hB hk
      have hgg : g' = g := by rw [hp1] at hg; simpa [blkOf] using hg
      subst hgg
      refine ⟨fun i hi => by simp at hi; subst hi; simp [hB], fun S' hS hI => ?_⟩
      rw [he]
      have hoff : B.off r0 c = r0 + c := by simp [Blk.off, hk]
      refine .eptr _ _ (fun q => (vs[r0 + c + q]?).getD .nilIface) (hI id (by simp) B hB hl g' (by rw [hp1]; rfl)) (fun q hq => ?_) (fun q => ?_) (fun q b hb => ?_)
      · simp only [List.length_drop] at hq
        have hlt : r0 + c + q < vs.size := by omega
        rw [add_none, cell_of w g' _ vs _ _ hp2, hoff]
        simp only [Array.getElem?_eq_getElem hlt, Option.getD_some]
      · show ((vs[r0 + c + q]?).getD .nilIface).oneCell' = true
        cases hx : vs[r0 + c + q]? with
        | none => rfl
        | some u => exact hp4 u (List.mem_of_getElem? (by simpa using hx))
      · rw [List.getElem?_drop] at hb
        have hlt := lt_of_getElem? hb
        have hx : vs[r0 + c + q]? = some (vs[r0 + c + q]'(by omega)) := Array.getElem?_eq_getElem (by omega)
        show RelV0 S' w b ((vs[r0 + c + q]?).getD .nilIface)
        rw [hx]
        exact (hp5 _ b _ hb hx).mono hS (fun _ _ => rfl)
    · simp [Pg.run] at hrun
  · exact arg0_ok h hv hrun

theorem arg2_ok (h : RelX E σ pl a w) (av : AV) (v : Value) (l : List Nat) (r : (AV × List Nat) × List Nat) (hv : RelV (look σ.hp) pl (SS E (look σ.hp) pl w) w av v) (hrun : (arg2 av).run (look σ.hp) l = some r) :
    (∀ i ∈ r.1.2, (look σ.hp i).isSome = true) ∧ ∀ S', (∀ k, SS E (look σ.hp) pl w k → S' k) → InS (look σ.hp) pl S' r.1.2 → RelV0 S' w r.1.1 v := by
  unfold arg2 at hrun
  split at hrun
  · rename_i f first cap
    obtain ⟨v1, v2, l1, l2, rfl, r1, r2⟩ : ∃ (v1 v2 : List Value), v1.length = first.length ∧ v2.length = cap.length ∧ v = .func f v1.toArray v2.toArray ∧
        (∀ (j : Nat) (b : AV) (u : Value), first[j]? = some b → v1[j]? = some u → RelV (look σ.hp) pl (SS E (look σ.hp) pl w) w b u) ∧
        (∀ (j : Nat) (b : AV) (u : Value), cap[j]? = some b → v2[j]? = some u → RelV (look σ.hp) pl (SS E (look σ.hp) pl w) w b u) := by
      cases hv with
      | pure _ _ h0 =>
        cases h0 with
        | fn _ _ _ v1 v2 l1 l2 h1 h2 => exact ⟨v1, v2, l1, l2, rfl, fun j b u hb hu => .pure _ _ (h1 j b u hb hu), fun j b u hb hu => .pure _ _ (h2 j b u hb hu)⟩
      | fn _ _ _ v1 v2 l1 l2 h1 h2 => exact ⟨v1, v2, l1, l2, rfl, h1, h2⟩
    rw [Pg.run_bind] at hrun
    cases hm : (mapPg arg1 first).run (look σ.hp) l with
    | none => rw [hm] at hrun; simp at hrun
    | some q1 =>
      rw [hm] at hrun
      simp only [Option.bind_some, Pg.run_bind] at hrun
      cases hm2 : (mapPg arg1 cap).run (look σ.hp) q1.2 with
      | none => rw [hm2] at hrun; simp at hrun
      | some q2 =>
        rw [hm2] at hrun
        simp only [Option.bind_some, Pg.run, Option.some.injEq] at hrun
        subst hrun
        obtain ⟨a1, a2, a3⟩ := mapPg_ok (f := arg1) h (arg1_ok h) first v1 l q1 l1 r1 hm
        obtain ⟨b1, b2, b3⟩ := mapPg_ok (f := arg1) h (arg1_ok h) cap v2 q1.2 q2 l2 r2 hm2
        refine ⟨fun i hi => ?_, fun S' hS hI => ?_⟩
        · rcases List.mem_append.1 hi with hi | hi
          · exact a2 i hi
          · exact b2 i hi
        · exact .fn f _ _ v1 v2 (by simp [a1, l1]) (by simp [b1, l2]) (a3 S' hS fun i hi => hI i (List.mem_append_left _ hi)) (b3 S' hS fun i hi => hI i (List.mem_append_right _ hi))
  · rename_i t x
    rw [Pg.run_bind] at hrun
    cases hm : (arg0 x).run (look σ.hp) l with
    | none => rw [hm] at hrun; simp at hrun
    | some q =>
      rw [hm] at hrun
      simp only [Option.bind_some, Pg.run, Option.some.injEq] at hrun
      subst hrun
      obtain ⟨v', rfl, hv'⟩ : ∃ v', v = .iface t v' ∧ RelV (look σ.hp) pl (SS E (look σ.hp) pl w) w x v' := by
        cases hv with
        | pure _ _ h0 => cases h0 with | ifc _ _ v' h' => exact ⟨v', rfl, .pure _ _ h'⟩
        | ifc _ _ v' h' => exact ⟨v', rfl, h'⟩
      obtain ⟨a1, a2⟩ := arg0_ok h hv' hm
      exact ⟨a1, fun S' hS hI => .ifc t _ _ (a2 S' hS hI)⟩
  · exact arg1_ok h av v l r hv hrun

theorem giveUp_run : ∀ (ids : List Nat) (l : List Nat) (r : List (Nat × Blk) × List Nat), (giveUp ids).run (look σ.hp) l = some r → GoneOf σ r.1 ∧ ∀ i ∈ ids, ∃ p ∈ r.1, p.1 = i
  | [], l, r, hr => by
    simp only [giveUp, mapPg, Pg.run, Option.some.injEq] at hr
    subst hr
    exact ⟨fun p hp => absurd hp (by simp), fun i hi => absurd hi (by simp)⟩
  | i :: ids, l, r, hr => by
    simp only [giveUp, mapPg, Pg.run_bind, Pg.run] at hr
    cases hB : look σ.hp i with
    | none => simp [hB, Pg.run] at hr
    | some B =>
      simp only [hB, Pg.run, Option.bind_some] at hr
      cases hm : (giveUp ids).run (look σ.hp) (i :: l) with
      | none =>
        unfold giveUp at hm
        rw [hm] at hr
        simp at hr
      | some q =>
        have hm' := hm
        unfold giveUp at hm'
        rw [hm'] at hr
        simp only [Option.bind_some, Option.some.injEq] at hr
        subst hr
        obtain ⟨h1, h2⟩ := giveUp_run ids _ q hm
        refine ⟨fun p hp => ?_, fun j hj => ?_⟩
        · rcases List.mem_cons.1 hp with rfl | hp
          · exact ⟨rfl, B, hB, rfl⟩
          · exact h1 p hp
        · rcases List.mem_cons.1 hj with rfl | hj
          · exact ⟨_, List.mem_cons_self, rfl⟩
          · obtain ⟨p, hp, e⟩ := h2 j hj
            exact ⟨p, List.mem_cons_of_mem _ hp, e⟩

theorem run_callFunc {f : FuncId} {args : Array Value} (hf : Callable P f) (w : World) : (callFunc f args).run P w = .ok (.enter f args) w := by
  obtain ⟨fn, h1, h2, h3⟩ := hf
  simp only [callFunc, Sem.run_bind, program, Sem.run, Result.andThen_ok, h1, h2, h3, Bool.false_eq_true, if_false]
  rfl

theorem ok_callE (h : RelX E σ pl a w) (hd : ∀ q, o.dst = some q → q < E.nt) {f : FuncId} {avs : List AV} {vs : List Value} (hl : vs.length = avs.length)
    (hv : ∀ (j : Nat) (b : AV) (u : Value), avs[j]? = some b → vs[j]? = some u → RelV (look σ.hp) pl (SS E (look σ.hp) pl w) w b u)
    (hexec : Callable P f → (execOp a.eval o).run P w = .ok (.enter f vs.toArray) w)
    (hrun : (callE P ov f avs).run (look σ.hp) [] = some (eff, log)) (hobl : All eff.obl) : Ok P E o a w (σ.app o.dst eff) := by
  unfold callE at hrun
  rw [Pg.run_bind] at hrun
  cases hm : (mapPg arg2 avs).run (look σ.hp) [] with
  | none => rw [hm] at hrun; simp at hrun
  | some q =>
    rw [hm] at hrun
    simp only [Option.bind_some] at hrun
    obtain ⟨m1, m2, m3⟩ := mapPg_ok (f := arg2) h (arg2_ok h) avs vs [] q hl hv hm
    split at hrun
    · simp [Pg.run] at hrun
    · rename_i res hres
      split at hrun
      · simp only [Pg.run, Option.some.injEq, Prod.mk.injEq] at hrun
        obtain ⟨rfl, _⟩ := hrun
        obtain ⟨o1, o2⟩ : Flat res ∧ Con P f (q.1.map (fun p : AV × List Nat => p.1)) res := hobl
        obtain ⟨hcl, hcon⟩ := o2
        intro K Q hK
        unfold Oper.wp
        rw [hexec hcl]
        have := hcon w (fun k => k < w.heap.size) vs (fun _ h => h) (by simp [m1, hl]) (m3 _ (fun k hk => hk.lt h.below) (fun i hi B hB hlv k hk => (h.blk_lt hB hlv hk).2))
        refine this.mono fun e w' hr => ?_
        obtain ⟨v, rfl, hrv, hb⟩ := hr
        obtain ⟨g1, _, _⟩ := h.grow hb
        exact hK _ _ ⟨pl, g1.put o.dst hd (.pure _ _ (hrv.flat o1))⟩
      · rw [Pg.run_bind] at hrun
        cases hg : (giveUp (q.1.flatMap (·.2))).run (look σ.hp) q.2 with
        | none => rw [hg] at hrun; simp at hrun
        | some q2 =>
          rw [hg] at hrun
          simp only [Option.bind_some, Pg.run, Option.some.injEq, Prod.mk.injEq] at hrun
          obtain ⟨rfl, _⟩ := hrun
          obtain ⟨hcl, hcon⟩ : Con P f (q.1.map (fun p : AV × List Nat => p.1)) res := hobl
          obtain ⟨hgone, hcov⟩ := giveUp_run _ _ _ hg
          obtain ⟨h', hSS, hE', hfree⟩ := h.giveUps _ hgone
          intro K Q hK
          unfold Oper.wp
          rw [hexec hcl]
          have := hcon w (SS E (look (puts σ.hp q2.1)) pl w) vs (fun k hk => hk.lt h.below) (by simp [m1, hl]) (m3 _ hSS (fun i hi B hB hlv k hk => by
            obtain ⟨p, hp, rfl⟩ := hcov i hi
            exact hfree p hp B hB hlv k hk))
          refine this.mono fun e w' hr => ?_
          obtain ⟨v, rfl, hrv, hb⟩ := hr
          obtain ⟨g1, g2, g3⟩ := h'.grow hb
          refine hK _ _ ⟨pl, g1.put o.dst hd (.pure _ _ (hrv.mono (fun k hk => ?_) (fun _ _ => rfl)))⟩
          rcases hk with hk | hk
          · exact g2 k hk
          · exact g3 k hk.1 hk.2

theorem mapM_rel (h : RelX E σ pl a w) {args : Array Operand} {avs : List AV} (hv : args.toList.mapM σ.ev = some avs) :
    (args.toList.map a.eval).length = avs.length ∧ ∀ (j : Nat) (b : AV) (u : Value), avs[j]? = some b → (args.toList.map a.eval)[j]? = some u → RelV (look σ.hp) pl (SS E (look σ.hp) pl w) w b u := by
  obtain ⟨n1, g1⟩ := mapM_get hv
  refine ⟨by simp [n1], fun j b u hb hu => ?_⟩
  simp only [List.getElem?_map, Option.map_eq_some_iff] at hu
  obtain ⟨x, hx, rfl⟩ := hu
  exact h.ev (g1 j x b hx hb)

theorem ok_call (h : RelX E σ pl a w) (hd : ∀ q, o.dst = some q → q < E.nt) (c : Operand) (args : Array Operand) (ts : Array TypeId) (ho : o.op = .call { callee := .value c, args := args, argTypes := ts })
    (hrun : (exec1 P T ov o σ.ev).run (look σ.hp) [] = some (eff, log)) (hobl : All eff.obl) : Ok P E o a w (σ.app o.dst eff) := by
  simp only [exec1, ho] at hrun
  cases c with
  | func f =>
    simp only at hrun
    split at hrun
    · rename_i avs hvs
      obtain ⟨l1, l2⟩ := mapM_rel h hvs
      refine ok_callE h hd l1 l2 (fun hf => ?_) hrun hobl
      have : (args.toList.map a.eval).toArray = args.map a.eval := by rw [← Array.toList_map, Array.toArray_toList]
      simp only [execOp, ho, resolve, Act.eval, Deferred.ofValue, Sem.run_bind, Sem.run_pure, Result.andThen_ok, invoke, Array.append_empty, Array.empty_append, run_callFunc hf]
      rw [this]
    · simp [Pg.run] at hrun
  | tmp t =>
    simp only at hrun
    split at hrun
    · rename_i f first cap avs hf0 hvs
      obtain ⟨l1, l2⟩ := mapM_rel h hvs
      have hr := h.ev hf0
      obtain ⟨v1, v2, n1, n2, hfv, r1, r2⟩ : ∃ (v1 v2 : List Value), v1.length = first.length ∧ v2.length = cap.length ∧ a.eval (.tmp t) = .func (.func f) v1.toArray v2.toArray ∧
          (∀ (j : Nat) (b : AV) (u : Value), first[j]? = some b → v1[j]? = some u → RelV (look σ.hp) pl (SS E (look σ.hp) pl w) w b u) ∧
          (∀ (j : Nat) (b : AV) (u : Value), cap[j]? = some b → v2[j]? = some u → RelV (look σ.hp) pl (SS E (look σ.hp) pl w) w b u) := by
        generalize a.eval (.tmp t) = v at hr
        cases hr with
        | pure _ _ h0 =>
          cases h0 with
          | fn _ _ _ v1 v2 l1 l2 h1 h2 => exact ⟨v1, v2, l1, l2, rfl, fun j b u hb hu => .pure _ _ (h1 j b u hb hu), fun j b u hb hu => .pure _ _ (h2 j b u hb hu)⟩
        | fn _ _ _ v1 v2 l1 l2 h1 h2 => exact ⟨v1, v2, l1, l2, rfl, h1, h2⟩
      refine ok_callE (vs := v1 ++ args.toList.map a.eval ++ v2) h hd (by simp at l1 ⊢; omega) (fun j b u hb hu => ?_) (fun hf => ?_) hrun hobl
      · have e1 : (first ++ avs).length = (v1 ++ args.toList.map a.eval).length := by simp only [List.length_append]; omega
        by_cases h1 : j < (first ++ avs).length
        · rw [List.getElem?_append_left h1] at hb
          rw [List.getElem?_append_left (by omega)] at hu
          by_cases h2 : j < first.length
          · rw [List.getElem?_append_left h2] at hb
            rw [List.getElem?_append_left (by omega)] at hu
            exact r1 j b u hb hu
          · rw [List.getElem?_append_right (by omega)] at hb
            rw [List.getElem?_append_right (by omega), n1] at hu
            exact l2 _ b u hb hu
        · rw [List.getElem?_append_right (by omega)] at hb
          rw [List.getElem?_append_right (by omega), ← e1] at hu
          exact r2 _ b u hb hu
      · have : (args.toList.map a.eval).toArray = args.map a.eval := by rw [← Array.toList_map, Array.toArray_toList]
        simp only [execOp, ho, resolve, hfv, Deferred.ofValue, Sem.run_bind, Sem.run_pure, Result.andThen_ok, invoke, run_callFunc hf]
        rw [← this]
        simp
    · simp [Pg.run] at hrun
  | const v => simp [Pg.run] at hrun
  | global g => simp [Pg.run] at hrun
end
end Go.E
