/- EM: what is handed in, read as values that nobody writes: ints, bools, strings, and slices, structs and arrays of such. Conditions: the type is 'plainT'. -/
import Derived.Test.YtjngmlkaijpbgaaEI
import Derived.DataReads
import Derived.ChangeOld
import Derived.DataElems
import Derived.SizedLaws
set_option linter.unusedVariables false
set_option linter.unusedSimpArgs false
namespace Go.E
open Go.RowKit

def sizeT (T : Tab) (t : Nat) : Nat := ((look T t).map TI.size).getD 0
def bytesT (T : Tab) (t : Nat) : Nat := ((look T t).map TI.bytes).getD 0
def contig (T : Tab) : Nat → List Field → Option Nat
  | off, [] => some off
  | off, f :: fs => if f.offset == off then contig T (off + sizeT T f.type) fs else none
/-- Types of which the opener knows. -/
def plainT (T : Tab) : Nat → Nat → Bool
  | 0, _ => false
  | n + 1, t => match look T t with
    | some ti => (match ti.desc with
      | .bool => true
      | .int _ => true
      | .string => true
      | .slice e => Nat.ble 1 (sizeT T e) && plainT T n e
      | .struct fs => contig T 0 fs.toList == some ti.size && fs.toList.all fun f => plainT T n f.type
      | .array k e => k * sizeT T e == ti.size && plainT T n e
      | _ => false)
    | none => false
def TyFs (C : Nat → List AV → Prop) : List Field → List AV → Prop
  | [], cs => cs = []
  | f :: fs, cs => ∃ a b, cs = a ++ b ∧ C f.type a ∧ TyFs C fs b
/-! How much a reading holds: values and letters, each as often as it is met. -/
mutual
def bulkD {H : Type} : DataW H → Nat
  | .lit (.string bytes) => bytes.length + 1
  | .lit _ => 1
  | .nil => 1
  | .ptr d => bulkD d + 1
  | .slice elems spare => bulkDs elems + bulkDs spare + 1
  | .agg parts => bulkDs parts + 1
  | .iface _ d => bulkD d + 1
  | .map entries => bulkDm entries + 1
  | .held _ => 1
def bulkDs {H : Type} : List (DataW H) → Nat
  | [] => 0
  | d :: r => bulkD d + bulkDs r
def bulkDm {H : Type} : List (Lit × DataW H) → Nat
  | [] => 0
  | x :: r => bulkDe x + bulkDm r
def bulkDe {H : Type} : Lit × DataW H → Nat
  | (.string bytes, d) => bytes.length + bulkD d + 1
  | (_, d) => bulkD d + 1
end
theorem bulkD_pos {H : Type} (d : DataW H) : 1 ≤ bulkD d := by
  cases d with
  | lit l => cases l <;> simp [bulkD]
  | nil => simp [bulkD]
  | ptr d => simp [bulkD]
  | slice elems spare => simp [bulkD]
  | agg parts => simp [bulkD]
  | iface t d => simp [bulkD]
  | map entries => simp [bulkD]
  | held h => simp [bulkD]
theorem bulkDs_mem {H : Type} {d : DataW H} : ∀ {l : List (DataW H)}, d ∈ l → bulkD d ≤ bulkDs l
  | x :: r, h => by
    simp only [bulkDs]
    rcases List.mem_cons.1 h with rfl | h
    · omega
    · have := bulkDs_mem h; omega
theorem bulkDs_len {H : Type} : ∀ (l : List (DataW H)), l.length ≤ bulkDs l
  | [] => by simp [bulkDs]
  | x :: r => by have := bulkD_pos x; have := bulkDs_len r; simp only [bulkDs, List.length_cons]; omega
/-- Cells of a type: what is known of them ('L': no slice and no text is longer). -/
def TyC (T : Tab) (L : Nat) : Nat → Nat → List AV → Prop
  | 0, _, _ => False
  | n + 1, t, cs => match look T t with
    | some ti => (match ti.desc with
      | .bool => ∃ b, cs = [.b b]
      | .int k => ∃ x, cs = [.i k x] ∧ k.min ≤ x ∧ x ≤ k.max
      | .string => ∃ s, cs = [.s s] ∧ s.size ≤ maxLen ∧ s.size ≤ 140737488351232 ∧ s.size ≤ L
      | .slice e => ∃ rows, cs = [.sl rows] ∧ rows.length ≤ maxLen ∧ rows.length * bytesT T e ≤ 140737488351232 ∧ rows.length ≤ L ∧ ∀ r ∈ rows, TyC T L n e r
      | .struct fs => TyFs (TyC T L n) fs.toList cs
      | .array k e => ∃ rows : List (List AV), cs = rows.flatten ∧ rows.length = k ∧ ∀ r ∈ rows, TyC T L n e r
      | _ => False)
    | none => False

def Cells2 (S : Nat → Prop) (w : World) (avs : List AV) (cs : List Value) : Prop :=
  avs.length = cs.length ∧ (∀ u ∈ cs, u.oneCell' = true) ∧ ∀ (j : Nat) (a : AV) (u : Value), avs[j]? = some a → cs[j]? = some u → RelV0 S w a u
theorem Cells2.one {S : Nat → Prop} {w : World} {a : AV} {u : Value} (h : RelV0 S w a u) (h1 : u.oneCell' = true) : Cells2 S w [a] [u] :=
  ⟨rfl, fun x hx => by rw [List.mem_singleton.1 hx]; exact h1, fun j b v hb hv => by
    cases j with
    | zero => simp at hb hv; subst hb hv; exact h
    | succ j => simp at hb⟩
theorem Cells2.append {S : Nat → Prop} {w : World} {a b : List AV} {c d : List Value} (h1 : Cells2 S w a c) (h2 : Cells2 S w b d) : Cells2 S w (a ++ b) (c ++ d) := by
  refine ⟨by simp [h1.1, h2.1], fun u hu => ?_, fun j x u hx hu => ?_⟩
  · rcases List.mem_append.1 hu with hu | hu
    · exact h1.2.1 u hu
    · exact h2.2.1 u hu
  · by_cases hj : j < a.length
    · rw [List.getElem?_append_left hj] at hx
      rw [List.getElem?_append_left (by rw [← h1.1]; exact hj)] at hu
      exact h1.2.2 j x u hx hu
    · rw [List.getElem?_append_right (by omega)] at hx
      rw [List.getElem?_append_right (by rw [← h1.1]; omega), ← h1.1] at hu
      exact h2.2.2 _ x u hx hu
theorem Cells2.nil {S : Nat → Prop} {w : World} : Cells2 S w [] [] := ⟨rfl, fun u hu => by simp at hu, fun j a u ha => by simp at ha⟩

theorem choose_rows {Q : Nat → List AV → Prop} : ∀ (n : Nat), (∀ i, i < n → ∃ r, Q i r) → ∃ rows : List (List AV), rows.length = n ∧ ∀ (i : Nat) (r : List AV), rows[i]? = some r → Q i r
  | 0, _ => ⟨[], rfl, fun i r h => by simp at h⟩
  | n + 1, h => by
    obtain ⟨rows, h1, h2⟩ := choose_rows n fun i hi => h i (by omega)
    obtain ⟨r, hr⟩ := h n (by omega)
    refine ⟨rows ++ [r], by simp [h1], fun i q hq => ?_⟩
    by_cases hi : i < rows.length
    · rw [List.getElem?_append_left hi] at hq
      exact h2 i q hq
    · rw [List.getElem?_append_right (by omega)] at hq
      have : i = n := by
        by_cases e : i - rows.length = 0
        · omega
        · rw [List.getElem?_eq_none (by simp; omega)] at hq; cases hq
      subst this
      rw [h1, Nat.sub_self] at hq
      simp at hq
      subst hq
      exact hr

section
variable {P : Program} {T : Tab} {H : Type} {enc : TypeId × Value → H} {W : World} {spare : Nat → Bool} {held : Bool}

theorem cellsOf_sizeT (hT : TabOk P T) {t : Nat} {ti : TI} (h : look T t = some ti) : P.cellsOf t = sizeT T t := by
  have h2 := (hT t ti h).2
  unfold Program.cellsOf sizeT
  rw [h]
  cases hi : P.info? t with
  | none => rw [hi] at h2; simp at h2
  | some i =>
    rw [hi] at h2
    simp only [Option.map_some, Option.some.injEq, Prod.mk.injEq] at h2
    simp [h2.1]
theorem bytesOf_bytesT (hT : TabOk P T) {t : Nat} {ti : TI} (h : look T t = some ti) : P.bytesOf t = bytesT T t := by
  have h2 := (hT t ti h).2
  unfold Program.bytesOf bytesT
  rw [h]
  cases hi : P.info? t with
  | none => rw [hi] at h2; simp at h2
  | some i =>
    rw [hi] at h2
    simp only [Option.map_some, Option.some.injEq, Prod.mk.injEq] at h2
    simp [h2.2.1]
theorem weights_mem_all {t : Nat} : ∀ {ds : List (DataW H)} {d : DataW H}, d ∈ ds → ∀ n ∈ d.weights P t, n ∈ DataW.weightsAll P t ds
  | [], d, h, _, _ => by simp at h
  | d0 :: ds, d, h, n, hn => by
    simp only [DataW.weightsAll, List.mem_append]
    rcases List.mem_cons.1 h with rfl | h
    · exact .inl hn
    · exact .inr (weights_mem_all h n hn)
theorem plain_look {n t : Nat} (h : plainT T n t = true) : ∃ ti, look T t = some ti := by
  cases n with
  | zero => simp [plainT] at h
  | succ n =>
    unfold plainT at h
    split at h
    · rename_i ti hti; exact ⟨ti, hti⟩
    · cases h

/-- The opener, for one type. -/
def Opens (P : Program) (T : Tab) (H : Type) (enc : TypeId × Value → H) (W : World) (spare : Nat → Bool) (held : Bool) (n t : Nat) : Prop :=
  ∀ fuel cs d ps, DataW.trod enc P W 0 spare held fuel t cs = some (d, ps) → (∀ m ∈ d.weights P t, m ≤ reachBytes) → ∀ L, bulkD d ≤ L → ∃ avs, Cells2 (fun k => k < W.heap.size) W avs cs ∧ TyC T L n t avs

theorem opens_fields {C : Nat → List AV → Prop} {cs : List Value} : ∀ (fs : List Field) (off m : Nat), contig T off fs = some m → m = cs.length → off ≤ cs.length →
    (∀ f ∈ fs, ∃ avs, Cells2 (fun k => k < W.heap.size) W avs ((cs.drop f.offset).take (sizeT T f.type)) ∧ C f.type avs) → ∃ avs, Cells2 (fun k => k < W.heap.size) W avs (cs.drop off) ∧ TyFs C fs avs
  | [], off, m, hc, hm, hoff, _ => by
    simp only [contig, Option.some.injEq] at hc
    have : cs.drop off = [] := by simp; omega
    rw [this]
    exact ⟨[], .nil, rfl⟩
  | f :: fs, off, m, hc, hm, hoff, h => by
    simp only [contig] at hc
    split at hc
    · rename_i e
      have e' : f.offset = off := by simpa using e
      have hle : off + sizeT T f.type ≤ m := by
        clear h
        have : ∀ (fs : List Field) (o m : Nat), contig T o fs = some m → o ≤ m := by
          intro fs
          induction fs with
          | nil => intro o m h; simp [contig] at h; omega
          | cons g gs ih =>
            intro o m h
            simp only [contig] at h
            split at h
            · have := ih _ _ h; omega
            · cases h
        exact this fs _ _ hc
      obtain ⟨a, h1, h2⟩ := h f (by simp)
      obtain ⟨b, h3, h4⟩ := opens_fields fs _ m hc hm (by omega) fun g hg => h g (List.mem_cons_of_mem _ hg)
      rw [e'] at h1
      refine ⟨a ++ b, ?_, a, b, rfl, h2, h4⟩
      have : cs.drop off = (cs.drop off).take (sizeT T f.type) ++ cs.drop (off + sizeT T f.type) := by
        rw [← List.drop_drop, List.take_append_drop]
      rw [this]
      exact h1.append h3
    · cases hc

theorem opens_array {C : List AV → Prop} {cs : List Value} {sz : Nat} : ∀ (k i : Nat), (i + k) * sz = cs.length →
    (∀ j, i ≤ j → j < i + k → ∃ avs, Cells2 (fun k => k < W.heap.size) W avs ((cs.drop (j * sz)).take sz) ∧ C avs) →
    ∃ rows : List (List AV), Cells2 (fun k => k < W.heap.size) W rows.flatten (cs.drop (i * sz)) ∧ rows.length = k ∧ ∀ r ∈ rows, C r
  | 0, i, hl, _ => by
    have : cs.drop (i * sz) = [] := by simp; simp at hl; omega
    rw [this]
    exact ⟨[], .nil, rfl, fun r hr => by simp at hr⟩
  | k + 1, i, hl, h => by
    obtain ⟨a, h1, h2⟩ := h i (Nat.le_refl _) (by omega)
    obtain ⟨rows, h3, h4, h5⟩ := opens_array k (i + 1) (by rw [← hl]; congr 1; omega) fun j hj hj' => h j (by omega) (by omega)
    refine ⟨a :: rows, ?_, by simp [h4], fun r hr => ?_⟩
    · have : cs.drop (i * sz) = (cs.drop (i * sz)).take sz ++ cs.drop ((i + 1) * sz) := by
        rw [Nat.add_mul, Nat.one_mul, ← List.drop_drop, List.take_append_drop]
      rw [this, List.flatten_cons]
      exact h1.append h3
    · rcases List.mem_cons.1 hr with rfl | hr
      · exact h2
      · exact h5 r hr

theorem opens (hT : TabOk P T) : ∀ (n t : Nat), plainT T n t = true → Opens P T H enc W spare held n t
  | 0, t, h => by simp [plainT] at h
  | n + 1, t, h => by
    obtain ⟨ti, hti⟩ := plain_look h
    have hu := (hT t ti hti).1
    have hsz := cellsOf_sizeT hT hti
    intro fuel cs d ps htr hwt L hL
    cases fuel with
    | zero => simp [DataW.trod] at htr
    | succ fuel =>
      unfold plainT at h
      rw [hti] at h
      simp only at h
      unfold TyC
      rw [hti]
      simp only
      unfold DataW.trod at htr
      rw [hu] at htr
      cases hd : ti.desc with
      | bool =>
        rw [hd] at htr h
        split at htr <;> simp_all
        rename_i b
        refine ⟨[.b b], .one (.b b) rfl, ?_⟩
        cases b <;> simp
      | int k =>
        rw [hd] at htr h
        split at htr <;> simp_all
        rename_i k' x _
        obtain ⟨⟨rfl, hw⟩, _⟩ := htr
        refine ⟨[.i k' x], .one (.i k' x) rfl, x, rfl, ?_⟩
        simpa [Lit.wf] using hw
      | string =>
        rw [hd] at htr h
        split at htr <;> simp_all
        rename_i s
        refine ⟨[.s s], .one (.s s) rfl, s, rfl, htr.1, ?_, ?_⟩
        · have := hwt s.data.toList.length (by rw [← htr.2.1]; simp [DataW.weights])
          simpa [reachBytes] using this
        · rw [← htr.2.1] at hL
          simp only [bulkD] at hL
          have e : s.data.toList.length = s.size := by rw [Array.length_toList]; rfl
          omega
      | slice e =>
        rw [hd] at h
        simp only [Bool.and_eq_true] at h
        obtain ⟨tei, htei⟩ := plain_look h.2
        have hse := cellsOf_sizeT hT htei
        have hpos : 0 < sizeT T e := by have := Nat.le_of_ble_eq_true h.1; omega
        have hop := opens hT n e h.2
        rw [hd] at htr
        split at htr
        all_goals first | (simp_all; done) | skip
        · rename_i e' heq
          refine ⟨[.sl []], .one (.sl [] none 0 0 (fun _ _ => .bool false) (by simp) (by simp) (fun _ => rfl) (fun r hr => by simp at hr) (fun h => by simp at h) (fun _ _ => rfl) (fun j q r a hr => by simp at hr)) rfl, [], rfl, by simp, by simp, by simp, fun r hr => by simp at hr⟩
        · rename_i e' a len cap heq
          simp only [Option.some.injEq, TypeDesc.slice.injEq] at heq
          subst heq
          split at htr
          · rename_i hb
            obtain ⟨_, hlc, hcm⟩ := hb
            cases hm : (List.range len).mapM fun i => (W.cells? 0 (a.add (i * P.cellsOf e)) (P.cellsOf e)).bind (DataW.trod enc P W 0 spare held fuel e) with
            | none => simp [hm] at htr
            | some elems =>
              obtain ⟨rest, hwd⟩ : ∃ rest : List (DataW H), d = .slice (elems.map (·.1)) rest := by
                dsimp only at htr
                rw [hm] at htr
                simp only [Option.bind_some] at htr
                generalize (if spare a.block = true then (List.range (cap - len)).mapM fun j => (W.cells? 0 (a.add ((len + j) * P.cellsOf e)) (P.cellsOf e)).bind (DataW.trod enc P W 0 spare held fuel e) else some []) = rs at htr
                cases rs with
                | none => simp at htr
                | some rs =>
                  simp only [Option.map_some, Option.some.injEq, Prod.mk.injEq] at htr
                  exact ⟨_, htr.1.symm⟩
              have hw1 : len * bytesT T e ≤ 140737488351232 := by
                have := hwt ((elems.map (·.1)).length + rest.length |> (· * P.bytesOf e)) (by rw [hwd]; simp [DataW.weights, hu, hd])
                have hl := mapM_some_length hm
                rw [List.length_range] at hl
                rw [bytesOf_bytesT hT htei] at this
                simp only [List.length_map, hl] at this
                refine Nat.le_trans (Nat.mul_le_mul_right _ (Nat.le_add_right len rest.length)) ?_
                simpa [reachBytes] using this
              have hw2 : ∀ x ∈ elems, ∀ m ∈ x.1.weights P e, m ≤ reachBytes := fun x hx m hm => hwt m (by
                rw [hwd]
                simp only [DataW.weights, hu, hd, List.mem_cons, List.mem_append]
                exact .inr (.inl (weights_mem_all (List.mem_map.2 ⟨x, hx, rfl⟩) m hm)))
              have hw3 : ∀ x ∈ elems, bulkD x.1 ≤ L := fun x hx => by
                rw [hwd] at hL
                simp only [bulkD] at hL
                have := bulkDs_mem (List.mem_map.2 ⟨x, hx, rfl⟩ : x.1 ∈ elems.map (·.1))
                omega
              have hw4 : len ≤ L := by
                rw [hwd] at hL
                simp only [bulkD] at hL
                have := bulkDs_len (elems.map (·.1))
                have hl := mapM_some_length hm
                rw [List.length_range] at hl
                rw [List.length_map, hl] at this
                omega
              have hel : ∀ i, i < len → ∃ csi, W.cells? 0 (a.add (i * sizeT T e)) (sizeT T e) = some csi ∧ ∃ avs, Cells2 (fun k => k < W.heap.size) W avs csi ∧ TyC T L n e avs := by
                intro i hi
                have := mapM_some_get hm i i (by simp [hi])
                have hl := mapM_some_length hm
                rw [List.length_range] at hl
                rw [List.getElem?_eq_getElem (by omega), hse] at this
                cases hc : W.cells? 0 (a.add (i * sizeT T e)) (sizeT T e) with
                | none => simp [hc] at this
                | some csi =>
                  rw [hc] at this
                  simp only [Option.bind_some] at this
                  exact ⟨csi, rfl, hop fuel csi _ _ this (hw2 _ (List.getElem_mem _)) L (hw3 _ (List.getElem_mem _))⟩
              obtain ⟨rows, hrl, hrq⟩ := choose_rows (Q := fun i r => ∃ csi, W.cells? 0 (a.add (i * sizeT T e)) (sizeT T e) = some csi ∧ Cells2 (fun k => k < W.heap.size) W r csi ∧ TyC T L n e r) len
                (fun i hi => by obtain ⟨csi, h1, avs, h2, h3⟩ := hel i hi; exact ⟨avs, csi, h1, h2, h3⟩)
              have hcell : ∀ i csi, W.cells? 0 (a.add (i * sizeT T e)) (sizeT T e) = some csi → csi.length = sizeT T e ∧ ∀ q, q < sizeT T e → W.cell? (a.add (i * sizeT T e + q)) = csi[q]? := by
                intro i csi hc
                have hc' := hc
                unfold World.cells? at hc'
                rw [if_pos (Nat.zero_le _)] at hc'
                have hl := mapM_some_length hc'
                rw [List.length_range] at hl
                refine ⟨hl, fun q hq => ?_⟩
                have := mapM_some_get hc' q q (by simp [hq])
                rw [← this, Addr.add_add]
              refine ⟨[.sl rows], .one ?_ rfl, rows, rfl, by omega, by rw [hrl]; exact hw1, by rw [hrl]; exact hw4, fun r hr => ?_⟩
              · rw [← hrl]
                refine .sl rows (some a) cap (sizeT T e) (fun j q => if j < len ∧ q < sizeT T e then (W.cell? (a.add (j * sizeT T e + q))).getD (.bool false) else .bool false) (by omega) (by omega) (fun h => by cases h) (fun r hr => ?_) (fun h0 => ?_) (fun j q => ?_) (fun j q r b hr hb => ?_)
                · obtain ⟨i, hi, rfl⟩ := List.mem_iff_getElem.1 hr
                  obtain ⟨csi, h1, h2, _⟩ := hrq i _ (List.getElem?_eq_getElem hi)
                  rw [h2.1, (hcell i csi h1).1]
                · refine ⟨a, rfl, ?_, fun j q hj hq => ?_⟩
                  · obtain ⟨csi, h1, _⟩ := hel 0 (by omega)
                    have := World.cells?_block h1 hpos
                    rwa [add_block] at this
                  · obtain ⟨csi, h1, _⟩ := hel j (by omega)
                    obtain ⟨h2, h3⟩ := hcell j csi h1
                    rw [if_pos ⟨by omega, hq⟩, h3 q hq, List.getElem?_eq_getElem (by omega)]
                    rfl
                · show Value.oneCell' (if _ then _ else _) = true
                  split
                  · rename_i hjq
                    obtain ⟨csi, h1, avs, h2, _⟩ := hel j hjq.1
                    obtain ⟨h3, h4⟩ := hcell j csi h1
                    rw [h4 q hjq.2, List.getElem?_eq_getElem (by omega)]
                    exact h2.2.1 _ (List.getElem_mem _)
                  · rfl
                · obtain ⟨csi, h1, h2, _⟩ := hrq j r hr
                  obtain ⟨h3, h4⟩ := hcell j csi h1
                  have hj : j < rows.length := lt_of_getElem? hr
                  have hq : q < r.length := lt_of_getElem? hb
                  rw [h2.1, h3] at hq
                  show RelV0 _ _ b (if _ then _ else _)
                  rw [if_pos ⟨by omega, hq⟩, h4 q hq, List.getElem?_eq_getElem (by omega)]
                  exact h2.2.2 q b _ hb (List.getElem?_eq_getElem (by omega))
              · obtain ⟨i, hi, rfl⟩ := List.mem_iff_getElem.1 hr
                obtain ⟨csi, _, _, h3⟩ := hrq i _ (List.getElem?_eq_getElem hi)
                exact h3
          · cases htr
      | struct fs =>
        rw [hd] at h
        simp only [Bool.and_eq_true, beq_iff_eq, List.all_eq_true] at h
        rw [hd] at htr
        simp only at htr
        split at htr
        · rename_i hlen
          cases hm : (fs.toList.mapM fun f => DataW.trod enc P W 0 spare held fuel f.type ((cs.drop f.offset).take (P.cellsOf f.type))) with
          | none => simp [hm] at htr
          | some xs =>
            have hszt : ti.size = cs.length := by rw [hlen, hsz]; simp [sizeT, hti]
            obtain ⟨avs, h1, h2⟩ := opens_fields (T := T) (W := W) (C := TyC T L n) (cs := cs) fs.toList 0 ti.size h.1 hszt (Nat.zero_le _) (fun f hf => by
              obtain ⟨i, hi, e⟩ := List.mem_iff_getElem.1 hf
              have := mapM_some_get hm i f (by rw [← e]; exact List.getElem?_eq_getElem hi)
              have hl := mapM_some_length hm
              rw [List.getElem?_eq_getElem (by omega)] at this
              obtain ⟨tf, htf⟩ := plain_look (h.2 f hf)
              rw [cellsOf_sizeT hT htf] at this
              exact opens hT n f.type (h.2 f hf) fuel _ _ _ this (fun m hm' => hwt m (by
                rw [hm] at htr
                simp only [Option.map_some, Option.some.injEq, Prod.mk.injEq] at htr
                rw [← htr.1]
                simp only [DataW.weights, hu, hd]
                exact DataW.weights_mem_each (j := i) (t := f.type) (d := (xs[i]'(by omega)).1) (by rw [List.getElem?_map, ← e, List.getElem?_eq_getElem hi]; rfl) (by rw [List.getElem?_map, List.getElem?_eq_getElem (by omega)]; rfl) m hm')) L (by
                rw [hm] at htr
                simp only [Option.map_some, Option.some.injEq, Prod.mk.injEq] at htr
                rw [← htr.1] at hL
                simp only [bulkD] at hL
                have := bulkDs_mem (List.mem_map.2 ⟨_, List.getElem_mem (show i < xs.length by omega), rfl⟩ : (xs[i]'(by omega)).1 ∈ xs.map (·.1))
                exact Nat.le_trans this (by omega)))
            exact ⟨avs, by simpa using h1, h2⟩
        · cases htr
      | array k e =>
        rw [hd] at h
        simp only [Bool.and_eq_true, beq_iff_eq] at h
        rw [hd] at htr
        simp only at htr
        obtain ⟨tei, htei⟩ := plain_look h.2
        have hse := cellsOf_sizeT hT htei
        split at htr
        · rename_i hlen
          cases hm : ((List.range k).mapM fun i => DataW.trod enc P W 0 spare held fuel e ((cs.drop (i * P.cellsOf e)).take (P.cellsOf e))) with
          | none => simp [hm] at htr
          | some xs =>
            have hszt : ti.size = cs.length := by rw [hlen, hsz]; simp [sizeT, hti]
            obtain ⟨rows, h1, h2, h3⟩ := opens_array (W := W) (C := TyC T L n e) (cs := cs) (sz := sizeT T e) k 0 (by rw [Nat.zero_add, h.1, hszt]) (fun j _ hj => by
              have := mapM_some_get hm j j (List.getElem?_range (by omega))
              have hl := mapM_some_length hm
              rw [List.length_range] at hl
              rw [List.getElem?_eq_getElem (by omega), hse] at this
              exact opens hT n e h.2 fuel _ _ _ this (fun m hm' => hwt m (by
                rw [hm] at htr
                simp only [Option.map_some, Option.some.injEq, Prod.mk.injEq] at htr
                rw [← htr.1]
                simp only [DataW.weights, hu, hd]
                exact weights_mem_all (List.mem_map.2 ⟨_, List.getElem_mem (by omega), rfl⟩) m hm')) L (by
                rw [hm] at htr
                simp only [Option.map_some, Option.some.injEq, Prod.mk.injEq] at htr
                rw [← htr.1] at hL
                simp only [bulkD] at hL
                have := bulkDs_mem (List.mem_map.2 ⟨_, List.getElem_mem (show j < xs.length by omega), rfl⟩ : (xs[j]'(by omega)).1 ∈ xs.map (·.1))
                exact Nat.le_trans this (by omega)))
            exact ⟨rows.flatten, by simpa using h1, rows, rfl, h2, h3⟩
        · cases htr
      | _ => rw [hd] at h; first | exact absurd h Bool.false_ne_true | cases h
end
end Go.E
