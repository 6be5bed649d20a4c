/- ED: each operation of the model does what exec1 says (tenth part: bytes as a text; calls by their contracts). Conditions: none. -/
import Derived.Test.YtjngmlkaijpbgaaEC
set_option linter.unusedVariables false
set_option linter.unusedSimpArgs false
namespace Go.E
open Go.RowKit
section
variable {P : Program} {E : Env} {T : Tab} {ov : Ov} {o : Oper} {σ : St} {pl : Nat → Value} {a : Act} {w : World} {eff : Eff} {log : List Nat}

theorem foldl_push (z : List UInt8) : ∀ (s : ByteArray), (z.map fun b => ((b.toNat : Nat) : Int)).foldl (fun r n => r.push (UInt8.ofNat n.toNat)) s = ⟨s.data ++ z.toArray⟩ := by
  intro s
  rw [foldl_push_bytes, List.map_map]
  have : ((fun n : Int => UInt8.ofNat n.toNat) ∘ fun b : UInt8 => ((b.toNat : Nat) : Int)) = id := by funext b; simp
  rw [this, List.map_id]

theorem ok_convert (hT : TabOk P T) (h : RelX E σ pl a w) (hd : ∀ q, o.dst = some q → q < E.nt) (src dst : TypeId) (x : Operand) (ho : o.op = .convert src dst x)
    (hrun : (exec1 P T ov o σ.ev).run (look σ.hp) [] = some (eff, log)) (hobl : All eff.obl) : Ok P E o a w (σ.app o.dst eff) := by
  simp only [exec1, ho] at hrun
  split at hrun
  · rename_i ts td av hs hdd hx
    have u1 := und hT hs w
    have u2 := und hT hdd w
    split at hrun
    · rename_i k1 k q n h1 h2
      simp only [rets, Pg.run, Option.some.injEq, Prod.mk.injEq] at hrun
      obtain ⟨rfl, _⟩ := hrun
      have e := relv_toV (h.ev hx) rfl
      refine .pure h hd (v := .int k (k.wrap n)) ?_ (.pure _ _ (.i _ _))
      rw [h1] at u1
      rw [h2] at u2
      simp [execOp, ho, convert, u1, u2, e, Conv.intToInt]
    · rename_i z h1 h2
      simp only [rets, Pg.run, Option.some.injEq, Prod.mk.injEq] at hrun
      obtain ⟨rfl, _⟩ := hrun
      have e := relv_toV (h.ev hx) rfl
      refine .pure h hd (v := .string z) ?_ (.pure _ _ (.s _))
      rw [h1] at u1
      rw [h2] at u2
      simp [execOp, ho, convert, u1, u2, e]
    · rename_i e h1 h2
      split at hrun
      · rename_i te z hte hov
        split at hrun
        · rename_i hte8
          obtain ⟨rows, l', hk, hsh⟩ := rowsOf_ok h (h.ev hx) hrun
          simp only [Pg.run, Option.some.injEq, Prod.mk.injEq] at hk
          obtain ⟨rfl, _⟩ := hk
          have o1 : rows = z.data.toList.map fun b => [AV.i .u8 b.toNat] := hobl
          have us := (hT src ts hs).1
          rw [h1] at us
          have ud := (hT dst td hdd).1
          rw [h2] at ud
          have ue := (hT e te hte).1
          rw [hte8] at ue
          have hone : ∀ r ∈ rows, r.length = 1 := by
            intro r hr
            rw [o1] at hr
            obtain ⟨b, _, rfl⟩ := List.mem_map.1 hr
            rfl
          refine .pure h hd (v := .string z) ?_ (.pure _ _ (.s _))
          have key : (convert src dst (a.eval x)).run P w = .ok (.string z) w := by
            rcases hsh.flat hone with ⟨e0, er⟩ | ⟨ad, cap, xs, e0, hl, hcell, hx1, hxr⟩
            · rw [e0, run_convert_bytes_nil w src e us ue 0 0 dst ud]
              have : z.data.toList = [] := by
                rw [er] at o1
                simpa using o1.symm
              have hz : z = ByteArray.empty := by
                cases z with
                | mk d =>
                  simp at this
                  subst this
                  rfl
              rw [hz]
            · rw [e0, run_convert_bytes_string w src dst e _ rows.length cap us ue ud]
              have hxs : xs = (z.data.toList.map fun b => ((b.toNat : Nat) : Int)).map (Value.int .u8) := by
                apply List.ext_getElem?
                intro j
                simp only [List.getElem?_map]
                have hfl := flatten1 j hone
                cases hj : z.data.toList[j]? with
                | none =>
                  rw [Option.map_none, Option.map_none, List.getElem?_eq_none]
                  rw [List.getElem?_eq_none_iff] at hj
                  rw [hl, o1]
                  simpa using hj
                | some b =>
                  have hlt := lt_of_getElem? hj
                  have hlx : j < xs.length := by rw [hl, o1]; simpa using hlt
                  rw [Option.map_some, Option.map_some, List.getElem?_eq_getElem hlx]
                  have hrj : rows[j]? = some [AV.i .u8 b.toNat] := by rw [o1, List.getElem?_map, hj]; rfl
                  rw [hrj] at hfl
                  have := hxr j _ _ hfl (List.getElem?_eq_getElem hlx)
                  generalize xs[j] = u at this ⊢
                  cases this
                  rfl
              have hload := run_loadCells_list (P := P) w ad xs hcell
              rw [hl, Nat.mul_one] at hload
              rw [hxs] at hload
              rw [run_bytesToString w ad rows.length cap _ hload, foldl_push]
              cases z
              simp [ByteArray.empty, ByteArray.emptyWithCapacity]
              rfl
          simp only [execOp, ho, Sem.run_bind, key]
          rfl
        · simp [Pg.run] at hrun
      · simp [Pg.run] at hrun
    · simp [Pg.run] at hrun
  · simp [Pg.run] at hrun

/-- A value, read by a callee: 'S'' says where its blocks may lie. -/
def ArgRel (S' : Nat → Prop) (w : World) (a : AV) (v : Value) : Prop := RelV0 S' w a v
/-- The blocks that are named lie in S'. -/
def InS (hp : Nat → Option Blk) (pl : Nat → Value) (S' : Nat → Prop) (ids : List Nat) : Prop := ∀ i ∈ ids, ∀ B, hp i = some B → B.live = true → ∀ k, blkOf (pl i) = some k → S' k

theorem shows_rel {S S' : Nat → Prop} {rows : List (List AV)} {v : Value} (h : Shows S w rows v) (hS : ∀ k, S k → S' k) (hb : ∀ k, blkOf v = some k → S' k) (hc : ∀ A n c, v = .slice A n c → n ≤ c) : RelV0 S' w (.sl rows) v := by
  obtain ⟨A, cap, sz, u, rfl, hm, hn, hsz, hA, h1, hh⟩ := h
  refine .sl rows A cap sz u (hc _ _ _ rfl) hm (fun e => (hn e).1) hsz (fun h0 => ?_) h1 (fun j q r a hr ha => (hh j q r a hr ha).mono hS (fun _ _ => rfl))
  obtain ⟨ad, rfl, hcell⟩ := hA h0
  exact ⟨ad, rfl, hb _ rfl, hcell⟩

theorem arg0_ok (h : RelX E σ pl a w) {av : AV} {v : Value} (hv : RelV (look σ.hp) pl (SS E (look σ.hp) pl w) w av v) {l : List Nat} {r : (AV × List Nat) × List Nat} (hrun : (arg0 av).run (look σ.hp) l = some r) :
    (∀ i ∈ r.1.2, (look σ.hp i).isSome = true) ∧ ∀ S', (∀ k, SS E (look σ.hp) pl w k → S' k) → InS (look σ.hp) pl S' r.1.2 → RelV0 S' w r.1.1 v := by
  have hr0 : ∀ rows l', (rowsOf av fun rows => rets (.sl rows)).run (look σ.hp) l = some ({ val := .sl rows }, l') → Shows (SS E (look σ.hp) pl w) w rows v := by
    intro rows l' hr
    obtain ⟨rows', l'', hk, hs⟩ := rowsOf_ok h hv hr
    simp only [rets, Pg.run, Option.some.injEq, Prod.mk.injEq, Eff.mk.injEq, AV.sl.injEq] at hk
    rw [hk.1.1] at hs
    exact hs
  unfold arg0 at hrun
  split at hrun
  · rename_i id ver
    replace hrun := getB_run hrun
    obtain ⟨B, hB, hver, hl, hrun⟩ := hrun
    split at hrun
    · rename_i sz rows hk
      simp only [Pg.run, Option.some.injEq] at hrun
      subst hrun
      refine ⟨fun i hi => by simp at hi; subst hi; simp [hB], fun S' hS hI => ?_⟩
      rw [relv_own hv hB hver hl]
      exact row_sl (h.blks id B hB) hk hS (hI id (by simp) B hB hl)
    · simp [Pg.run] at hrun
  · rename_i id ver lo n
    replace hrun := getB_run hrun
    obtain ⟨B, hB, hver, hl, hrun⟩ := hrun
    obtain ⟨g, cap, hg, hnc, hnm, hlen, he⟩ := relv_vw hv hB hver hl
    have hcap : ∀ A m c, v = .slice A m c → m ≤ c := by
      intro A m c e
      rw [he] at e
      simp only [Value.slice.injEq] at e
      omega
    have hblk : blkOf v = some g := by rw [he]; rfl
    split at hrun
    · rename_i sz rows hk
      simp only [Pg.run, Option.some.injEq] at hrun
      subst hrun
      refine ⟨fun i hi => by simp at hi; subst hi; simp [hB], fun S' hS hI => ?_⟩
      have hs := hr0 ((rows.drop lo).take n) (id :: l) (by simp [rowsOf, getB, Pg.run, hB, hver, hl, hk, rets])
      exact shows_rel hs hS (fun k hk' => by rw [hblk] at hk'; exact hI id (by simp) B hB hl k (by rw [hg]; exact hk')) hcap
    · rename_i cells hk
      simp only [Pg.run, Option.some.injEq] at hrun
      subst hrun
      refine ⟨fun i hi => by simp at hi; subst hi; simp [hB], fun S' hS hI => ?_⟩
      have hs := hr0 (((cells.drop lo).take n).map fun c => [c]) (id :: l) (by simp [rowsOf, getB, Pg.run, hB, hver, hl, hk, rets])
      exact shows_rel hs hS (fun k hk' => by rw [hblk] at hk'; exact hI id (by simp) B hB hl k (by rw [hg]; exact hk')) hcap
    · simp [Pg.run] at hrun
  · replace hrun := chk_run hrun
    obtain ⟨hc, hrun⟩ := hrun
    simp only [Pg.run, Option.some.injEq] at hrun
    subst hrun
    exact ⟨fun i hi => by simp at hi, fun S' hS _ => (relv_pure hv hc).mono hS (fun _ _ => rfl)⟩

/-- A list of them. -/
theorem mapPg_ok {f : AV → Pg (AV × List Nat)} (h : RelX E σ pl a w)
    (hf : ∀ (av : AV) (v : Value) (l : List Nat) (r : (AV × List Nat) × List Nat), RelV (look σ.hp) pl (SS E (look σ.hp) pl w) w av v → (f av).run (look σ.hp) l = some r →
      (∀ i ∈ r.1.2, (look σ.hp i).isSome = true) ∧ ∀ S', (∀ k, SS E (look σ.hp) pl w k → S' k) → InS (look σ.hp) pl S' r.1.2 → RelV0 S' w r.1.1 v) :
    ∀ (avs : List AV) (vs : List Value) (l : List Nat) (r : List (AV × List Nat) × List Nat), vs.length = avs.length →
      (∀ (j : Nat) (b : AV) (u : Value), avs[j]? = some b → vs[j]? = some u → RelV (look σ.hp) pl (SS E (look σ.hp) pl w) w b u) → (mapPg f avs).run (look σ.hp) l = some r →
      r.1.length = avs.length ∧ (∀ i ∈ r.1.flatMap (·.2), (look σ.hp i).isSome = true) ∧ ∀ S', (∀ k, SS E (look σ.hp) pl w k → S' k) → InS (look σ.hp) pl S' (r.1.flatMap (·.2)) →
        ∀ (j : Nat) (b : AV) (u : Value), (r.1.map (·.1))[j]? = some b → vs[j]? = some u → RelV0 S' w b u
  | [], vs, l, r, _, _, hr => by
    simp only [mapPg, Pg.run, Option.some.injEq] at hr
    subst hr
    exact ⟨rfl, fun i hi => by simp at hi, fun S' _ _ j b u hb => by simp at hb⟩
  | av :: avs, [], l, r, hl, _, _ => by simp at hl
  | av :: avs, v :: vs, l, r, hl, hv, hr => by
    simp only [mapPg, Pg.run_bind] at hr
    cases h1 : (f av).run (look σ.hp) l with
    | none => simp [h1] at hr
    | some q =>
      simp only [h1, Option.bind_some] at hr
      cases h2 : (mapPg f avs).run (look σ.hp) q.2 with
      | none => simp [h2] at hr
      | some q2 =>
        simp only [h2, Option.bind_some, Pg.run, Option.some.injEq] at hr
        subst hr
        obtain ⟨a1, a2⟩ := hf av v l q (hv 0 av v rfl rfl) h1
        obtain ⟨b1, b2, b3⟩ := mapPg_ok h hf avs vs q.2 q2 (by simpa using hl) (fun j b u hb hu => hv (j + 1) b u (by simpa using hb) (by simpa using hu)) h2
        refine ⟨by simp [b1], fun i hi => ?_, fun S' hS hI j b u hb hu => ?_⟩
        · simp only [List.flatMap_cons, List.mem_append] at hi
          rcases hi with hi | hi
          · exact a1 i hi
          · exact b2 i hi
        · have hI1 : InS (look σ.hp) pl S' q.1.2 := fun i hi => hI i (by simp only [List.flatMap_cons, List.mem_append]; exact .inl hi)
          have hI2 : InS (look σ.hp) pl S' (q2.1.flatMap (·.2)) := fun i hi => hI i (by simp only [List.flatMap_cons, List.mem_append]; exact .inr hi)
          cases j with
          | zero =>
            simp at hb hu
            subst hb
            subst hu
            exact a2 S' hS hI1
          | succ j => exact b3 S' hS hI2 j b u (by simpa using hb) (by simpa using hu)

theorem arg1_ok (h : RelX E σ pl a w) (av : AV) (v : Value) (l : List Nat) (r : (AV × List Nat) × List Nat) (hv : RelV (look σ.hp) pl (SS E (look σ.hp) pl w) w av v) (hrun : (arg1 av).run (look σ.hp) l = some r) :
    (∀ i ∈ r.1.2, (look σ.hp i).isSome = true) ∧ ∀ S', (∀ k, SS E (look σ.hp) pl w k → S' k) → InS (look σ.hp) pl S' r.1.2 → RelV0 S' w r.1.1 v := by
  unfold arg1 at hrun
  split at hrun
  · rename_i id ver r0 c
    replace hrun := getB_run hrun
    obtain ⟨B, hB, hver, hl, hrun⟩ := hrun
    obtain ⟨g, hg, he⟩ := relv_ptr hv hB hver hl
    split at hrun
    · rename_i cells hk
      replace hrun := chk_run hrun
      obtain ⟨hr0, hrun⟩ := hrun
      have hr0 : r0 = 0 := by simpa using hr0
      subst hr0
      rw [Pg.run_bind] at hrun
      cases hm : (mapPg arg0 (cells.drop c)).run (look σ.hp) (id :: l) with
      | none => rw [hm] at hrun; simp at hrun
      | some q =>
        rw [hm] at hrun
        simp only [Option.bind_some, Pg.run, Option.some.injEq] at hrun
        subst hrun
        obtain ⟨g', vs, hp1, hp2, hp3, hp4, hp5⟩ := h.varCell hB hk
        have hgg : g' = g := by rw [hp1] at hg; simpa [blkOf] using hg
        subst hgg
        have hoff : B.off 0 c = c := by simp [Blk.off, hk]
        obtain ⟨m1, m2, m3⟩ := mapPg_ok (f := arg0) h (fun av v l r hv hr => arg0_ok h hv hr) (cells.drop c) (vs.toList.drop c) (id :: l) q (by simp [hp3]) (fun j b u hb hu => by
          rw [List.getElem?_drop] at hb hu
          exact hp5 _ b u hb (by simpa using hu)) hm
        refine ⟨fun i hi => ?_, fun S' hS hI => ?_⟩
        · rcases List.mem_cons.1 hi with rfl | hi
          · simp [hB]
          · exact m2 i hi
        · have m4 := m3 S' hS fun i hi => hI i (List.mem_cons_of_mem _ hi)
          have hlen : (q.1.map (·.1)).length = cells.length - c := by simp [m1]
          rw [he, hoff]
          refine .eptr _ _ (fun j => (vs[c + j]?).getD .nilIface) (hI id (by simp) B hB hl g' (by rw [hp1]; rfl)) (fun j hj => ?_) (fun j => ?_) (fun j b hb => ?_)
          · have hlt : c + j < vs.size := by omega
            rw [add_none, cell_of w g' _ vs _ _ hp2]
            simp only [Array.getElem?_eq_getElem hlt, Option.getD_some]
          · show ((vs[c + j]?).getD .nilIface).oneCell' = true
            cases hx : vs[c + j]? with
            | none => rfl
            | some u => exact hp4 u (List.mem_of_getElem? (by simpa using hx))
          · have hlt := lt_of_getElem? hb
            have hx : vs[c + j]? = some (vs[c + j]'(by omega)) := Array.getElem?_eq_getElem (by omega)
            show RelV0 S' w b ((vs[c + j]?).getD .nilIface)
            rw [hx]
            exact m4 j b _ hb (by rw [List.getElem?_drop]; simp [hx])
    · rename_i cells hk
      simp only [Pg.run, Option.some.injEq] at hrun
      subst hrun
      obtain ⟨g', vs, hp1, hp2, hp3, hp4, hp5⟩ := h.arrCell hB hk
      have hgg : g' = g := by rw [hp1] at hg; simpa [blkOf] using hg
      subst hgg
      refine ⟨fun i hi => by simp at hi; subst hi; simp [hB], fun S' hS hI => ?_⟩
      rw [he]
      have hoff : B.off r0 c = r0 + c := by simp [Blk.off, hk]
      refine .eptr _ _ (fun q => (vs[r0 + c + q]?).getD .nilIface) (hI id (by simp) B hB hl g' (by rw [hp1]; rfl)) (fun q hq => ?_) (fun q => ?_) (fun q b hb => ?_)
      · simp only [List.length_drop] at hq
        have hlt : r0 + c + q < vs.size := by omega
        rw [add_none, cell_of w g' _ vs _ _ hp2, hoff]
        simp only [Array.getElem?_eq_getElem hlt, Option.getD_some]
      · show ((vs[r0 + c + q]?).getD .nilIface).oneCell' = true
        cases hx : vs[r0 + c + q]? with
        | none => rfl
        | some u => exact hp4 u (List.mem_of_getElem? (by simpa using hx))
      · rw [List.getElem?_drop] at hb
        have hlt := lt_of_getElem? hb
        have hx : vs[r0 + c + q]? = some (vs[r0 + c + q]'(by omega)) := Array.getElem?_eq_getElem (by omega)
        show RelV0 S' w b ((vs[r0 + c + q]?).getD .nilIface)
        rw [hx]
        exact (hp5 _ b _ hb hx).mono hS (fun _ _ => rfl)
    · simp [Pg.run] at hrun
  · exact arg0_ok h hv hrun

theorem arg2_ok (h : RelX E σ pl a w) (av : AV) (v : Value) (l : List Nat) (r : (AV × List Nat) × List Nat) (hv : RelV (look σ.hp) pl (SS E (look σ.hp) pl w) w av v) (hrun : (arg2 av).run (look σ.hp) l = some r) :
    (∀ i ∈ r.1.2, (look σ.hp i).isSome = true) ∧ ∀ S', (∀ k, SS E (look σ.hp) pl w k → S' k) → InS (look σ.hp) pl S' r.1.2 → RelV0 S' w r.1.1 v := by
  unfold arg2 at hrun
  split at hrun
  · rename_i f first cap
    obtain ⟨v1, v2, l1, l2, rfl, r1, r2⟩ : ∃ (v1 v2 : List Value), v1.length = first.length ∧ v2.length = cap.length ∧ v = .func f v1.toArray v2.toArray ∧
        (∀ (j : Nat) (b : AV) (u : Value), first[j]? = some b → v1[j]? = some u → RelV (look σ.hp) pl (SS E (look σ.hp) pl w) w b u) ∧
        (∀ (j : Nat) (b : AV) (u : Value), cap[j]? = some b → v2[j]? = some u → RelV (look σ.hp) pl (SS E (look σ.hp) pl w) w b u) := by
      cases hv with
      | pure _ _ h0 =>
        cases h0 with
        | fn _ _ _ v1 v2 l1 l2 h1 h2 => exact ⟨v1, v2, l1, l2, rfl, fun j b u hb hu => .pure _ _ (h1 j b u hb hu), fun j b u hb hu => .pure _ _ (h2 j b u hb hu)⟩
      | fn _ _ _ v1 v2 l1 l2 h1 h2 => exact ⟨v1, v2, l1, l2, rfl, h1, h2⟩
    rw [Pg.run_bind] at hrun
    cases hm : (mapPg arg1 first).run (look σ.hp) l with
    | none => rw [hm] at hrun; simp at hrun
    | some q1 =>
      rw [hm] at hrun
      simp only [Option.bind_some, Pg.run_bind] at hrun
      cases hm2 : (mapPg arg1 cap).run (look σ.hp) q1.2 with
      | none => rw [hm2] at hrun; simp at hrun
      | some q2 =>
        rw [hm2] at hrun
        simp only [Option.bind_some, Pg.run, Option.some.injEq] at hrun
        subst hrun
        obtain ⟨a1, a2, a3⟩ := mapPg_ok (f := arg1) h (arg1_ok h) first v1 l q1 l1 r1 hm
        obtain ⟨b1, b2, b3⟩ := mapPg_ok (f := arg1) h (arg1_ok h) cap v2 q1.2 q2 l2 r2 hm2
        refine ⟨fun i hi => ?_, fun S' hS hI => ?_⟩
        · rcases List.mem_append.1 hi with hi | hi
          · exact a2 i hi
          · exact b2 i hi
        · exact .fn f _ _ v1 v2 (by simp [a1, l1]) (by simp [b1, l2]) (a3 S' hS fun i hi => hI i (List.mem_append_left _ hi)) (b3 S' hS fun i hi => hI i (List.mem_append_right _ hi))
  · rename_i t x
    rw [Pg.run_bind] at hrun
    cases hm : (arg0 x).run (look σ.hp) l with
    | none => rw [hm] at hrun; simp at hrun
    | some q =>
      rw [hm] at hrun
      simp only [Option.bind_some, Pg.run, Option.some.injEq] at hrun
      subst hrun
      obtain ⟨v', rfl, hv'⟩ : ∃ v', v = .iface t v' ∧ RelV (look σ.hp) pl (SS E (look σ.hp) pl w) w x v' := by
        cases hv with
        | pure _ _ h0 => cases h0 with | ifc _ _ v' h' => exact ⟨v', rfl, .pure _ _ h'⟩
        | ifc _ _ v' h' => exact ⟨v', rfl, h'⟩
      obtain ⟨a1, a2⟩ := arg0_ok h hv' hm
      exact ⟨a1, fun S' hS hI => .ifc t _ _ (a2 S' hS hI)⟩
  · exact arg1_ok h av v l r hv hrun

theorem giveUp_run : ∀ (ids : List Nat) (l : List Nat) (r : List (Nat × Blk) × List Nat), (giveUp ids).run (look σ.hp) l = some r → GoneOf σ r.1 ∧ ∀ i ∈ ids, ∃ p ∈ r.1, p.1 = i
  | [], l, r, hr => by
    simp only [giveUp, mapPg, Pg.run, Option.some.injEq] at hr
    subst hr
    exact ⟨fun p hp => absurd hp (by simp), fun i hi => absurd hi (by simp)⟩
  | i :: ids, l, r, hr => by
    simp only [giveUp, mapPg, Pg.run_bind, Pg.run] at hr
    cases hB : look σ.hp i with
    | none => simp [hB, Pg.run] at hr
    | some B =>
      simp only [hB, Pg.run, Option.bind_some] at hr
      cases hm : (giveUp ids).run (look σ.hp) (i :: l) with
      | none =>
        unfold giveUp at hm
        rw [hm] at hr
        simp at hr
      | some q =>
        have hm' := hm
        unfold giveUp at hm'
        rw [hm'] at hr
        simp only [Option.bind_some, Option.some.injEq] at hr
        subst hr
        obtain ⟨h1, h2⟩ := giveUp_run ids _ q hm
        refine ⟨fun p hp => ?_, fun j hj => ?_⟩
        · rcases List.mem_cons.1 hp with rfl | hp
          · exact ⟨rfl, B, hB, rfl⟩
          · exact h1 p hp
        · rcases List.mem_cons.1 hj with rfl | hj
          · exact ⟨_, List.mem_cons_self, rfl⟩
          · obtain ⟨p, hp, e⟩ := h2 j hj
            exact ⟨p, List.mem_cons_of_mem _ hp, e⟩

theorem run_callFunc {f : FuncId} {args : Array Value} (hf : Callable P f) (w : World) : (callFunc f args).run P w = .ok (.enter f args) w := by
  obtain ⟨fn, h1, h2, h3⟩ := hf
  simp only [callFunc, Sem.run_bind, program, Sem.run, Result.andThen_ok, h1, h2, h3, Bool.false_eq_true, if_false]
  rfl

theorem ok_callE (h : RelX E σ pl a w) (hd : ∀ q, o.dst = some q → q < E.nt) {f : FuncId} {avs : List AV} {vs : List Value} (hl : vs.length = avs.length)
    (hv : ∀ (j : Nat) (b : AV) (u : Value), avs[j]? = some b → vs[j]? = some u → RelV (look σ.hp) pl (SS E (look σ.hp) pl w) w b u)
    (hexec : Callable P f → (execOp a.eval o).run P w = .ok (.enter f vs.toArray) w)
    (hrun : (callE P ov f avs).run (look σ.hp) [] = some (eff, log)) (hobl : All eff.obl) : Ok P E o a w (σ.app o.dst eff) := by
  unfold callE at hrun
  rw [Pg.run_bind] at hrun
  cases hm : (mapPg arg2 avs).run (look σ.hp) [] with
  | none => rw [hm] at hrun; simp at hrun
  | some q =>
    rw [hm] at hrun
    simp only [Option.bind_some] at hrun
    obtain ⟨m1, m2, m3⟩ := mapPg_ok (f := arg2) h (arg2_ok h) avs vs [] q hl hv hm
    split at hrun
    · simp [Pg.run] at hrun
    · rename_i res hres
      split at hrun
      · simp only [Pg.run, Option.some.injEq, Prod.mk.injEq] at hrun
        obtain ⟨rfl, _⟩ := hrun
        obtain ⟨o1, o2⟩ : Flat res ∧ Con P f (q.1.map (fun p : AV × List Nat => p.1)) res := hobl
        obtain ⟨hcl, hcon⟩ := o2
        intro K Q hK
        unfold Oper.wp
        rw [hexec hcl]
        have := hcon w (fun k => k < w.heap.size) vs (fun _ h => h) (by simp [m1, hl]) (m3 _ (fun k hk => hk.lt h.below) (fun i hi B hB hlv k hk => (h.blk_lt hB hlv hk).2))
        refine this.mono fun e w' hr => ?_
        obtain ⟨v, rfl, hrv, hb⟩ := hr
        obtain ⟨g1, _, _⟩ := h.grow hb
        exact hK _ _ ⟨pl, g1.put o.dst hd (.pure _ _ (hrv.flat o1))⟩
      · rw [Pg.run_bind] at hrun
        cases hg : (giveUp (q.1.flatMap (·.2))).run (look σ.hp) q.2 with
        | none => rw [hg] at hrun; simp at hrun
        | some q2 =>
          rw [hg] at hrun
          simp only [Option.bind_some, Pg.run, Option.some.injEq, Prod.mk.injEq] at hrun
          obtain ⟨rfl, _⟩ := hrun
          obtain ⟨hcl, hcon⟩ : Con P f (q.1.map (fun p : AV × List Nat => p.1)) res := hobl
          obtain ⟨hgone, hcov⟩ := giveUp_run _ _ _ hg
          obtain ⟨h', hSS, hE', hfree⟩ := h.giveUps _ hgone
          intro K Q hK
          unfold Oper.wp
          rw [hexec hcl]
          have := hcon w (SS E (look (puts σ.hp q2.1)) pl w) vs (fun k hk => hk.lt h.below) (by simp [m1, hl]) (m3 _ hSS (fun i hi B hB hlv k hk => by
            obtain ⟨p, hp, rfl⟩ := hcov i hi
            exact hfree p hp B hB hlv k hk))
          refine this.mono fun e w' hr => ?_
          obtain ⟨v, rfl, hrv, hb⟩ := hr
          obtain ⟨g1, g2, g3⟩ := h'.grow hb
          refine hK _ _ ⟨pl, g1.put o.dst hd (.pure _ _ (hrv.mono (fun k hk => ?_) (fun _ _ => rfl)))⟩
          rcases hk with hk | hk
          · exact g2 k hk
          · exact g3 k hk.1 hk.2

theorem mapM_rel (h : RelX E σ pl a w) {args : Array Operand} {avs : List AV} (hv : args.toList.mapM σ.ev = some avs) :
    (args.toList.map a.eval).length = avs.length ∧ ∀ (j : Nat) (b : AV) (u : Value), avs[j]? = some b → (args.toList.map a.eval)[j]? = some u → RelV (look σ.hp) pl (SS E (look σ.hp) pl w) w b u := by
  obtain ⟨n1, g1⟩ := mapM_get hv
  refine ⟨by simp [n1], fun j b u hb hu => ?_⟩
  simp only [List.getElem?_map, Option.map_eq_some_iff] at hu
  obtain ⟨x, hx, rfl⟩ := hu
  exact h.ev (g1 j x b hx hb)

theorem plain_val {S : Nat → Prop} {w : World} {x : AV} {u : Value} (hp : plainA x = true) (h : RelV0 S w x u) : u = valA x := by
  cases h <;> first | rfl | (simp [plainA] at hp)
theorem plain_rel {S : Nat → Prop} {w : World} {x : AV} (hp : plainA x = true) : RelV0 S w x (valA x) := by
  cases x <;> first | (simp [plainA] at hp; done) | exact .b _ | exact .i _ _ | exact .s _
theorem plain_one {x : AV} (hp : plainA x = true) : (valA x).oneCell' = true := by
  cases x <;> first | (simp [plainA] at hp; done) | rfl
theorem IOCon.toG {f g : FuncId} {t : Nat} {cap : Bool} {ty sz : Nat} {rows rs : List (List AV)} (hsz : ∀ r ∈ rows, r.length = sz) (h : IOCon P f g t cap ty sz rows rs) : IOConG P f g (some t) cap ty sz rows rs := by
  obtain ⟨h1, h2, h3, h4, h5, h6⟩ := h
  refine ⟨h1, h2, h3, fun w base v cv S xs hS hb ho hx1 hxr hc => ?_⟩
  have hxs : xs = rows.flatten.map valA := by
    apply List.ext_getElem?
    intro j
    by_cases hj : j < xs.length
    · have hj' : j < rows.flatten.length := by rw [flatten_len hsz, ← ho.1]; exact hj
      rw [List.getElem?_eq_getElem hj, List.getElem?_map, List.getElem?_eq_getElem hj', Option.map_some]
      have := hxr j _ _ (List.getElem?_eq_getElem hj') (List.getElem?_eq_getElem hj)
      rw [plain_val (h4 _ (List.getElem_mem hj')) this]
    · rw [List.getElem?_eq_none (by omega), List.getElem?_eq_none (by rw [List.length_map, flatten_len hsz, ← ho.1]; omega)]
  rw [hxs] at ho
  refine (h6 w base v cv ho hc).mono fun e w' hr => ?_
  obtain ⟨g0, g1, g2, g3, g4, g5, g6⟩ := hr
  refine ⟨g0, _, g1, fun u hu => ?_, fun j b u hb hu => ?_, g2, g3, g4, g5, g6⟩
  · obtain ⟨x, hx, rfl⟩ := List.mem_map.1 hu
    exact plain_one (h5 x hx)
  · rw [List.getElem?_map, hb, Option.map_some, Option.some.injEq] at hu
    rw [← hu]
    exact plain_rel (h5 b (List.mem_of_getElem? hb))
theorem ok_ioE (h : RelX E σ pl a w) (hd : ∀ q, o.dst = some q → q < E.nt) {f : FuncId} {avs : List AV} {vs : List Value} {rs : List (List AV)} (hl : vs.length = avs.length)
    (hv : ∀ (j : Nat) (b : AV) (u : Value), avs[j]? = some b → vs[j]? = some u → RelV (look σ.hp) pl (SS E (look σ.hp) pl w) w b u)
    (hexec : Callable P f → (execOp a.eval o).run P w = .ok (.enter f vs.toArray) w)
    (hrun : (ioE P f avs rs).run (look σ.hp) [] = some (eff, log)) (hobl : All eff.obl) : Ok P E o a w (σ.app o.dst eff) := by
  unfold ioE at hrun
  split at hrun
  · rename_i x0 g cap
    split at hrun
    · rename_i t id ver hio
      replace hrun := getB_run hrun
      obtain ⟨B, hB, hver, hlive, hrun⟩ := hrun
      split at hrun
      · rename_i sz rows hk
        -- the arguments
        obtain ⟨v1, v2, rfl⟩ : ∃ v1 v2, vs = [v1, v2] := by
          match vs, hl with
          | [v1, v2], _ => exact ⟨v1, v2, rfl⟩
        have r1 := hv 0 _ v1 rfl rfl
        have r2 := hv 1 _ v2 rfl rfl
        have e1 : v1 = ioVal t (pl id) := by
          unfold ioArg at hio
          split at hio
          · simp only [Option.some.injEq, Prod.mk.injEq] at hio
            obtain ⟨rfl, rfl, rfl⟩ := hio
            cases r1 with
            | pure _ _ h0 => cases h0 with
              | ifc _ _ u hu => cases hu
            | ifc _ _ u hu => simp only [ioVal]; rw [relv_own hu hB hver hlive]
          · simp only [Option.some.injEq, Prod.mk.injEq] at hio
            obtain ⟨rfl, rfl, rfl⟩ := hio
            exact relv_own r1 hB hver hlive
          · cases hio
        obtain ⟨cs, hcl, e2, hcr⟩ : ∃ cs : List Value, cs.length = cap.length ∧ v2 = .func (.func g) #[] cs.toArray ∧ ∀ (j : Nat) (b : AV) (u : Value), cap[j]? = some b → cs[j]? = some u → RelV (look σ.hp) pl (SS E (look σ.hp) pl w) w b u := by
          cases r2 with
          | pure _ _ h0 => cases h0 with
            | fn _ _ _ c1 c2 l1 l2 h1 h2 =>
              have : c1 = [] := List.eq_nil_of_length_eq_zero (by simpa using l1)
              subst this
              exact ⟨c2, l2, rfl, fun j b u hb hu => .pure _ _ (h2 j b u hb hu)⟩
          | fn _ _ _ c1 c2 l1 l2 h1 h2 =>
            have : c1 = [] := List.eq_nil_of_length_eq_zero (by simpa using l1)
            subst this
            exact ⟨c2, l2, rfl, h2⟩
        obtain ⟨hsz, xs, ho, hx1, hxr⟩ := h.rowCell hB hk
        -- the call, from its contract
        have key : ∀ cp : Bool, IOConG P f g t cp B.ty sz rows rs → (cp = true → ∃ gv, cs = [.pointer (some ⟨gv, 0, none⟩)] ∧ gv < w.heap.size ∧ w.cell? ⟨gv, 0, none⟩ = some (pl id) ∧ blkOf (pl id) ≠ some gv) → (cp = false → cs = []) →
            Ok P E o a w (σ.app o.dst { val := .tup [], ups := [(id, { B with k := .row sz rs })], obl := [] }) := by
          intro cp hio hcap hncap
          obtain ⟨hcall, hlen, hrsz, hio⟩ := hio
          have hcv : ∃ cv, cs.toArray = (if cp then #[cv] else #[]) ∧ (cp = true → ∃ gv, cv = .pointer (some ⟨gv, 0, none⟩) ∧ gv < w.heap.size ∧ w.cell? ⟨gv, 0, none⟩ = some (pl id) ∧ blkOf (pl id) ≠ some gv) := by
            cases cp with
            | true => obtain ⟨gv, q1, q2, q3, q4⟩ := hcap rfl; exact ⟨.pointer (some ⟨gv, 0, none⟩), by simp [q1], fun _ => ⟨gv, rfl, q2, q3, q4⟩⟩
            | false => exact ⟨.bool false, by simp [hncap rfl], fun h => by cases h⟩
          obtain ⟨cv, q1, q2⟩ := hcv
          intro K Q hK
          unfold Oper.wp
          rw [hexec hcall]
          have hc := hio w E.w0.heap.size (pl id) cv (SS E (look σ.hp) pl w) xs (fun k hk => hk.lt h.below) (fun k hk hs => by
            rcases hs with hs | ⟨_, _, hs⟩
            · have := (h.blk_lt hB hlive hk).1
              have := E.hS0 k hs
              omega
            · exact hs id B hB hlive hk) ho hx1 hxr q2
          rw [e1, e2, q1]
          refine hc.mono fun e w' hr => ?_
          obtain ⟨rfl, xs', g1, g1a, g1b, g2, g3, g4, g5, g6⟩ := hr
          have hno : ∀ k, blkOf (pl id) = some k → (w.heap.size ≤ k ∧ k < w'.heap.size) ∨ (∃ C, look σ.hp id = some C ∧ C.live = true ∧ blkOf (pl id) = some k) := fun k hk => .inr ⟨B, hB, hlive, hk⟩
          have hch := h.chg (w' := w') id { B with k := .row sz rs } (pl id) (.inr ⟨B, hB, hlive, rfl, by funext r c; simp [Blk.off, hk], rfl, by simp [Blk.len, hk, hlen]⟩)
            (fun k hk hne => g2 k hk (hne B hB hlive)) g3 g4 g5 g6 hno
            ⟨hrsz, xs', by rw [hlen]; exact g1, g1a, g1b⟩
          have epl : setPl pl id (pl id) = pl := by funext i; unfold setPl; split <;> simp_all
          rw [epl] at hch
          exact hK _ _ ⟨pl, hch.1.put o.dst hd (.pure _ _ (.tup [] [] rfl (fun j b u hb hu => by simp at hb)))⟩
        split at hrun
        · simp only [Pg.run, Option.some.injEq, Prod.mk.injEq] at hrun
          obtain ⟨rfl, _⟩ := hrun
          exact key false hobl (fun h => by cases h) (fun _ => List.eq_nil_of_length_eq_zero (by simpa using hcl))
        · rename_i idv verv
          replace hrun := getB_run hrun
          obtain ⟨C, hC, hverC, hliveC, hrun⟩ := hrun
          split at hrun
          · rename_i x cells hkC
            simp only [Pg.run, Option.some.injEq, Prod.mk.injEq] at hrun
            obtain ⟨rfl, _⟩ := hrun
            obtain ⟨hx, hio⟩ : x = .own id ver ∧ IOConG P f g t true B.ty sz rows rs := hobl
            obtain ⟨c0, rfl⟩ : ∃ c0, cs = [c0] := by
              match cs, hcl with
              | [c0], _ => exact ⟨c0, rfl⟩
            obtain ⟨gv, hgv, ec⟩ := relv_ptr (hcr 0 _ c0 rfl rfl) hC hverC hliveC
            obtain ⟨gv', us, u1, u2, u3, u4, u5⟩ := h.varCell hC hkC
            have hgg : gv' = gv := by rw [u1] at hgv; simpa [blkOf] using hgv
            subst hgg
            have hne : id ≠ idv := by
              intro e
              subst e
              rw [hB] at hC
              simp only [Option.some.injEq] at hC
              subst hC
              rw [hk] at hkC
              cases hkC
            have hus : 0 < us.size := by rw [u3]; simp
            have hcell := u5 0 x us[0] rfl (by simp [hus])
            rw [hx] at hcell
            have hval := relv_own hcell hB hver hlive
            refine key true hio (fun _ => ⟨gv', by rw [ec]; simp [Blk.off, hkC], ?_, ?_, ?_⟩) (fun h => by cases h)
            · exact (Array.getElem?_eq_some_iff.1 u2).1
            · simp [World.cell?, u2, hus, ← hval]
            · intro hb
              exact h.dist id idv B C hB hC hlive hliveC hne gv' hb hgv
          · simp [Pg.run] at hrun
        · simp [Pg.run] at hrun
      · simp [Pg.run] at hrun
    · simp [Pg.run] at hrun
  · simp [Pg.run] at hrun
theorem ok_callB (h : RelX E σ pl a w) (hd : ∀ q, o.dst = some q → q < E.nt) {f : FuncId} {avs : List AV} {vs : List Value} {d ty : Nat} {k : BK} {mk : Nat → AV} (hdst : o.dst = some d)
    (hmk : ((∃ sz rows, k = .row sz rows) ∧ mk = fun v => .own d v) ∨ ((∃ cells, k = .arr cells) ∧ mk = fun v => .ptr d v 0 0)) (hl : vs.length = avs.length)
    (hv : ∀ (j : Nat) (b : AV) (u : Value), avs[j]? = some b → vs[j]? = some u → RelV (look σ.hp) pl (SS E (look σ.hp) pl w) w b u)
    (hexec : Callable P f → (execOp a.eval o).run P w = .ok (.enter f vs.toArray) w)
    (hrun : (callB P d ty k mk f avs).run (look σ.hp) [] = some (eff, log)) (hobl : All eff.obl) : Ok P E o a w (σ.app o.dst eff) := by
  unfold callB at hrun
  rw [Pg.run_bind] at hrun
  cases hm : (mapPg arg2 avs).run (look σ.hp) [] with
  | none => rw [hm] at hrun; simp at hrun
  | some q =>
    rw [hm] at hrun
    simp only [Option.bind_some] at hrun
    obtain ⟨m1, m2, m3⟩ := mapPg_ok (f := arg2) h (arg2_ok h) avs vs [] q hl hv hm
    rw [Pg.run_bind] at hrun
    cases hg : (giveUp (q.1.flatMap (·.2))).run (look σ.hp) q.2 with
    | none => rw [hg] at hrun; simp at hrun
    | some q2 =>
      rw [hg] at hrun
      simp only [Option.bind_some] at hrun
      rw [Pg.run_bind] at hrun
      cases hk : (mkB d ty k mk [ConB P f (q.1.map (·.1)) ty k]).run (look σ.hp) q2.2 with
      | none => rw [hk] at hrun; simp at hrun
      | some q3 =>
        rw [hk] at hrun
        simp only [Option.bind_some, Pg.run, Option.some.injEq, Prod.mk.injEq] at hrun
        obtain ⟨ver, hver, he⟩ := mkB_run hk
        obtain ⟨rfl, _⟩ := hrun
        rw [he] at hobl
        rw [he]
        simp only
        obtain ⟨hcl, hcon⟩ : ConB P f (q.1.map (fun p : AV × List Nat => p.1)) ty k := hobl
        obtain ⟨hgone, hcov⟩ := giveUp_run _ _ _ hg
        obtain ⟨h', hSS, hE', hfree⟩ := h.giveUps _ hgone
        have hn' : ∀ C, look (puts σ.hp q2.1) d = some C → C.ver < ver := by
          intro C hC
          rcases look_puts q2.1 σ.hp d with ⟨p, hp', e1, e2⟩ | ⟨_, e2⟩
          · obtain ⟨_, B, hB, hv⟩ := hgone p hp'
            rw [e2] at hC
            simp only [Option.some.injEq] at hC
            rw [e1] at hB
            rw [← hC, ← hv]
            exact hver B hB
          · rw [e2] at hC; exact hver C hC
        intro K Q hK
        unfold Oper.wp
        rw [hexec hcl]
        have := hcon w (SS E (look (puts σ.hp q2.1)) pl w) vs (fun k hk => hk.lt h.below) (by simp [m1, hl]) (m3 _ hSS (fun i hi B hB hlv k hk => by
          obtain ⟨p, hp, rfl⟩ := hcov i hi
          exact hfree p hp B hB hlv k hk))
        refine this.mono fun e w' hr => ?_
        obtain ⟨v, rfl, hrv, hb⟩ := hr
        have hS1 : ∀ (j : Nat) (b : AV) (u : Value), RelV0 (fun b => (SS E (look (puts σ.hp q2.1)) pl w b ∨ (w.heap.size ≤ b ∧ b < w'.heap.size)) ∧ blkOf v ≠ some b) w' b u →
            RelV0 (fun k => SS E (look (puts σ.hp q2.1)) pl w k ∨ (w.heap.size ≤ k ∧ k < w'.heap.size ∧ blkOf v ≠ some k)) w' b u := fun j b u hu => hu.mono (fun k hk => by
              rcases hk with ⟨hk | hk, hne⟩
              · exact .inl hk
              · exact .inr ⟨hk.1, hk.2, hne⟩) (fun _ _ => rfl)
        have hone : v.oneCell' = true := by
          rcases hmk with ⟨⟨sz, rows, rfl⟩, _⟩ | ⟨⟨cells, rfl⟩, _⟩
          · obtain ⟨_, xs, ho, _⟩ := hrv
            rcases ho.2 with ⟨rfl, _⟩ | ⟨g, cap, cur, rfl, _⟩ <;> rfl
          · obtain ⟨g, vs', rfl, _⟩ := hrv
            rfl
        have hnew := h'.newS hb d ⟨ver, ty, k⟩ v hn' (by
          intro j hj
          rcases hmk with ⟨⟨sz, rows, rfl⟩, _⟩ | ⟨⟨cells, rfl⟩, _⟩
          · obtain ⟨_, xs, ho, _⟩ := hrv
            rcases ho.2 with ⟨rfl, _⟩ | ⟨g, cap, cur, rfl, g1, g2, _⟩
            · simp [blkOf] at hj
            · simp [blkOf] at hj
              subst hj
              exact ⟨g1, (Array.getElem?_eq_some_iff.1 g2).1⟩
          · obtain ⟨g, vs', rfl, g1, g2, _⟩ := hrv
            simp [blkOf] at hj
            subst hj
            exact ⟨g1, (Array.getElem?_eq_some_iff.1 g2).1⟩) (by
          rcases hmk with ⟨⟨sz, rows, rfl⟩, _⟩ | ⟨⟨cells, rfl⟩, _⟩
          · obtain ⟨c1, xs, ho, c2, c3⟩ := hrv
            refine ⟨c1, xs, ⟨ho.1, ?_⟩, c2, fun j b u hb' hu' => hS1 j b u (c3 j b u hb' hu')⟩
            rcases ho.2 with hn | ⟨g, cap, cur, e1, e2, e3⟩
            · exact .inl hn
            · exact .inr ⟨g, cap, cur, e1, Nat.le_trans h.below.size e2, e3⟩
          · obtain ⟨g, vs', e1, g1, g2, g3, g4, g5⟩ := hrv
            exact ⟨g, vs', e1, Nat.le_trans h.below.size g1, g2, g3, g4, fun j b u hb' hu' => hS1 j b u (g5 j b u hb' hu')⟩)
        refine hK _ _ ⟨setPl pl d v, ?_⟩
        have hval : RelV (look (Go.E.put (puts σ.hp q2.1) d ⟨ver, ty, k⟩)) (setPl pl d v) (SS E (look (Go.E.put (puts σ.hp q2.1) d ⟨ver, ty, k⟩)) (setPl pl d v) w') w' (mk ver) v := by
          rcases hmk with ⟨⟨sz, rows, rfl⟩, rfl⟩ | ⟨⟨cells, rfl⟩, rfl⟩
          · exact .own d ver v ⟨ver, ty, .row sz rows⟩ (by simp [look_put]) (Nat.le_refl _) hone fun _ _ => by simp [setPl]
          · obtain ⟨g, vs', rfl, _⟩ := hrv
            exact .ptr d ver 0 0 _ ⟨ver, ty, .arr cells⟩ (by simp [look_put]) (Nat.le_refl _) rfl fun _ _ => ⟨g, by simp [setPl, blkOf], by simp [Blk.off]⟩
        have := hnew.put o.dst hd hval
        unfold St.app
        simp only [List.foldl_append]
        exact this
theorem ok_callF (h : RelX E σ pl a w) (hd : ∀ q, o.dst = some q → q < E.nt) {f : FuncId} {avs : List AV} {vs : List Value} (hl : vs.length = avs.length)
    (hv : ∀ (j : Nat) (b : AV) (u : Value), avs[j]? = some b → vs[j]? = some u → RelV (look σ.hp) pl (SS E (look σ.hp) pl w) w b u)
    (hexec : Callable P f → (execOp a.eval o).run P w = .ok (.enter f vs.toArray) w)
    (hrun : (callF P ov o.dst f avs).run (look σ.hp) [] = some (eff, log)) (hobl : All eff.obl) : Ok P E o a w (σ.app o.dst eff) := by
  unfold callF at hrun
  split at hrun
  · rename_i d _ hdst
    exact ok_callB h hd hdst (.inl ⟨⟨_, _, rfl⟩, rfl⟩) hl hv hexec hrun hobl
  · rename_i d _ hdst
    exact ok_callB h hd hdst (.inr ⟨⟨_, rfl⟩, rfl⟩) hl hv hexec hrun hobl
  · split at hrun
    · exact ok_ioE h hd hl hv hexec hrun hobl
    · exact ok_callE h hd hl hv hexec hrun hobl

theorem ok_call (h : RelX E σ pl a w) (hd : ∀ q, o.dst = some q → q < E.nt) (c : Operand) (args : Array Operand) (ts : Array TypeId) (ho : o.op = .call { callee := .value c, args := args, argTypes := ts })
    (hrun : (exec1 P T ov o σ.ev).run (look σ.hp) [] = some (eff, log)) (hobl : All eff.obl) : Ok P E o a w (σ.app o.dst eff) := by
  simp only [exec1, ho] at hrun
  cases c with
  | func f =>
    simp only at hrun
    split at hrun
    · rename_i avs hvs
      obtain ⟨l1, l2⟩ := mapM_rel h hvs
      refine ok_callF h hd l1 l2 (fun hf => ?_) hrun hobl
      have : (args.toList.map a.eval).toArray = args.map a.eval := by rw [← Array.toList_map, Array.toArray_toList]
      simp only [execOp, ho, resolve, Act.eval, Deferred.ofValue, Sem.run_bind, Sem.run_pure, Result.andThen_ok, invoke, Array.append_empty, Array.empty_append, run_callFunc hf]
      rw [this]
    · simp [Pg.run] at hrun
  | tmp t =>
    simp only at hrun
    split at hrun
    · rename_i f first cap avs hf0 hvs
      obtain ⟨l1, l2⟩ := mapM_rel h hvs
      have hr := h.ev hf0
      obtain ⟨v1, v2, n1, n2, hfv, r1, r2⟩ : ∃ (v1 v2 : List Value), v1.length = first.length ∧ v2.length = cap.length ∧ a.eval (.tmp t) = .func (.func f) v1.toArray v2.toArray ∧
          (∀ (j : Nat) (b : AV) (u : Value), first[j]? = some b → v1[j]? = some u → RelV (look σ.hp) pl (SS E (look σ.hp) pl w) w b u) ∧
          (∀ (j : Nat) (b : AV) (u : Value), cap[j]? = some b → v2[j]? = some u → RelV (look σ.hp) pl (SS E (look σ.hp) pl w) w b u) := by
        generalize a.eval (.tmp t) = v at hr
        cases hr with
        | pure _ _ h0 =>
          cases h0 with
          | fn _ _ _ v1 v2 l1 l2 h1 h2 => exact ⟨v1, v2, l1, l2, rfl, fun j b u hb hu => .pure _ _ (h1 j b u hb hu), fun j b u hb hu => .pure _ _ (h2 j b u hb hu)⟩
        | fn _ _ _ v1 v2 l1 l2 h1 h2 => exact ⟨v1, v2, l1, l2, rfl, h1, h2⟩
      refine ok_callE (vs := v1 ++ args.toList.map a.eval ++ v2) h hd (by simp at l1 ⊢; omega) (fun j b u hb hu => ?_) (fun hf => ?_) hrun hobl
      · have e1 : (first ++ avs).length = (v1 ++ args.toList.map a.eval).length := by simp only [List.length_append]; omega
        by_cases h1 : j < (first ++ avs).length
        · rw [List.getElem?_append_left h1] at hb
          rw [List.getElem?_append_left (by omega)] at hu
          by_cases h2 : j < first.length
          · rw [List.getElem?_append_left h2] at hb
            rw [List.getElem?_append_left (by omega)] at hu
            exact r1 j b u hb hu
          · rw [List.getElem?_append_right (by omega)] at hb
            rw [List.getElem?_append_right (by omega), n1] at hu
            exact l2 _ b u hb hu
        · rw [List.getElem?_append_right (by omega)] at hb
          rw [List.getElem?_append_right (by omega), ← e1] at hu
          exact r2 _ b u hb hu
      · have : (args.toList.map a.eval).toArray = args.map a.eval := by rw [← Array.toList_map, Array.toArray_toList]
        simp only [execOp, ho, resolve, hfv, Deferred.ofValue, Sem.run_bind, Sem.run_pure, Result.andThen_ok, invoke, run_callFunc hf]
        rw [← this]
        simp
    · simp [Pg.run] at hrun
  | const v => simp [Pg.run] at hrun
  | global g => simp [Pg.run] at hrun
end
end Go.E
