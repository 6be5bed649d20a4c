/- EO: '==' of two structs or arrays of ints, bools and strings, in one step. Conditions: the type is 'flatT', the cells are of it. Ba: the values of the Go types, and some words on lists. Conditions: none. Sa: texts: their order is total. Conditions: none. Ga: goods: is a text a SKU. Conditions: none. ES: the stable sort's pieces in plain words: rows turned round, runs swapped, two sorted runs merged by turning. Conditions: 'lt' a strict weak order. ET1: the worlds that a sort passes through: the row laid, new blocks behind, some draws on. Conditions: none. ET2: a row of one's own that has been put into another order: what the world keeps, what the row holds. Conditions: none. Lt: sort.Slice at lines: a row of one's own is put into the order of the SKUs. Conditions: sizes. La: lines: entries in form. Conditions: none. Lb: walks, written by a program of this claim's own, and what each function hands back. Conditions: none. Lu: lines in plain words: sums of entries, SKU by SKU. Conditions: none. Lc: walks, written by a program of this claim's own, and what each function hands back. Conditions: none. Lq: entries in form: how many there are. Conditions: none. EY: a map gone through: the next entry is any that has not been. Conditions: none. -/
import Derived.ChangeKeysEq
import Derived.Sort.LotA
import Derived.Shelf.SlSortFuncK.RowK2
import Derived.Below
import Derived.WalkKit
import Derived.BigQuiet
import Derived.Shelf.SlSortFuncK.WholeK
import Derived.Shelf.GgSortFunc.Tiny
import Derived.Lib.Walk
import Derived.Maps.RangeRun
import Derived.Test.YtjngmlkaijpbgaaH2
set_option linter.unusedVariables false
set_option linter.unnecessarySimpa false
set_option linter.unusedSimpArgs false
set_option linter.unusedSectionVars false
namespace Go.E
open Go.RowKit
/-- Types whose cells are ints, bools and strings; the names of the fields looked at. -/
def flatT (P : Program) (T : Tab) : Nat → Nat → Bool
  | 0, _ => false
  | n + 1, t => match look T t with
    | some ti => (match ti.desc with
      | .bool => ti.size == 1
      | .int _ => ti.size == 1
      | .string => ti.size == 1
      | .struct fs => contig T 0 fs.toList == some ti.size && (fs.toList.all fun f => f.name != "_" && flatT P T n f.type) && !P.stoodInHeld t
      | .array k e => k * sizeT T e == ti.size && flatT P T n e
      | _ => false)
    | none => false
/-- Cells of such a type. -/
def FlC (T : Tab) : Nat → Nat → List AV → Prop
  | 0, _, _ => False
  | n + 1, t, cs => match look T t with
    | some ti => (match ti.desc with
      | .bool => ∃ b, cs = [.b b]
      | .int k => ∃ x, cs = [.i k x]
      | .string => ∃ s, cs = [.s s]
      | .struct fs => TyFs (FlC T n) fs.toList cs
      | .array k e => ∃ rows : List (List AV), cs = rows.flatten ∧ rows.length = k ∧ ∀ r ∈ rows, FlC T n e r
      | _ => False)
    | none => False
def aggT (T : Tab) (t : Nat) : Bool := ((look T t).map TI.isAgg).getD false
def valT (T : Tab) (t : Nat) (cs : List AV) : Value := if aggT T t then .agg (cs.map valA).toArray else valA (cs.headD .dead)
theorem flen_fields {T : Tab} {C : Nat → List AV → Prop} : ∀ (fs : List Field) (off m : Nat) (cs : List AV), contig T off fs = some m → (∀ f ∈ fs, ∀ a, C f.type a → a.length = sizeT T f.type) → TyFs C fs cs → off + cs.length = m
  | [], off, m, cs, hc, _, h => by
    simp only [contig, Option.some.injEq] at hc
    simp only [TyFs] at h
    subst h
    simpa using hc
  | f :: fs, off, m, cs, hc, hl, h => by
    simp only [contig] at hc
    split at hc
    · obtain ⟨a, b, rfl, ha, hb⟩ := h
      have := flen_fields fs _ m b hc (fun g hg => hl g (List.mem_cons_of_mem _ hg)) hb
      have := hl f (by simp) a ha
      simp only [List.length_append]
      omega
    · cases hc
theorem flen_rows {n : Nat} : ∀ (rows : List (List AV)), (∀ r ∈ rows, r.length = n) → rows.flatten.length = rows.length * n
  | [], _ => by simp
  | r :: rows, h => by
    have := flen_rows rows fun q hq => h q (List.mem_cons_of_mem _ hq)
    simp only [List.flatten_cons, List.length_append, List.length_cons, this, h r (by simp), Nat.add_mul, Nat.one_mul]
    omega
theorem flat_len {P : Program} {T : Tab} : ∀ (n t : Nat) (cs : List AV), flatT P T n t = true → FlC T n t cs → cs.length = sizeT T t
  | 0, t, cs, h, _ => by simp [flatT] at h
  | n + 1, t, cs, h, hc => by
    unfold flatT at h
    unfold FlC at hc
    unfold sizeT
    cases hl : look T t with
    | none => rw [hl] at h; simp at h
    | some ti =>
      rw [hl] at h hc
      simp only [Option.map_some, Option.getD_some] at h hc ⊢
      cases hd : ti.desc with
      | bool => rw [hd] at h hc; obtain ⟨b, rfl⟩ := hc; simp at h; simp [h]
      | int k => rw [hd] at h hc; obtain ⟨b, rfl⟩ := hc; simp at h; simp [h]
      | string => rw [hd] at h hc; obtain ⟨b, rfl⟩ := hc; simp at h; simp [h]
      | struct fs =>
        rw [hd] at h hc
        simp only [Bool.and_eq_true, beq_iff_eq, List.all_eq_true] at h
        have := flen_fields fs.toList 0 _ cs h.1.1 (fun f hf a ha => flat_len n f.type a (h.1.2 f hf).2 ha) hc
        omega
      | array k e =>
        rw [hd] at h hc
        simp only [Bool.and_eq_true, beq_iff_eq] at h
        obtain ⟨rows, rfl, hk, hr⟩ := hc
        rw [flen_rows rows fun r hr' => flat_len n e r h.2 (hr r hr'), hk, h.1]
      | _ => rw [hd] at h; simp at h
section
variable {P : Program} {T : Tab}
theorem flat_lookT {n t : Nat} (h : flatT P T n t = true) : ∃ ti, look T t = some ti := by
  cases n with
  | zero => simp [flatT] at h
  | succ n =>
    unfold flatT at h
    cases hl : look T t with
    | none => rw [hl] at h; simp at h
    | some ti => exact ⟨ti, rfl⟩
theorem extract_mid (A cs B : List AV) : (((A ++ cs ++ B).map valA).toArray.extract A.length (A.length + cs.length)) = (cs.map valA).toArray := by
  apply Array.ext'
  rw [Array.toList_extract]
  simp [List.extract, List.map_append]
theorem part_ok (hT : TabOk P T) {n t : Nat} (hf : flatT P T n t = true) (A cs B : List AV) (hc : FlC T n t cs) (w : World) : (part t ((A ++ cs ++ B).map valA).toArray A.length).run P w = .ok (valT T t cs) w := by
  have hlen := flat_len n t cs hf hc
  cases n with
  | zero => simp [flatT] at hf
  | succ n =>
    obtain ⟨ti, hl⟩ := flat_lookT hf
    have hu := (hT t ti hl).1
    have hsz := cellsOf_sizeT hT hl
    obtain ⟨i, hi⟩ := info_of_underlying hu
    unfold flatT at hf
    unfold FlC at hc
    rw [hl] at hf hc
    simp only at hf hc
    have hg : aggT T t = ti.isAgg := by simp [aggT, hl]
    have one : ∀ a, cs = [a] → ((A ++ cs ++ B).map valA).toArray[A.length]? = some (valA a) := by
      intro a e; subst e; simp
    cases hd : ti.desc with
    | bool =>
      rw [hd] at hu hc; obtain ⟨b, hb⟩ := hc
      have := one _ hb
      subst hb
      simp only [part, isAgg, Sem.run_bind, run_underlying hu, Result.andThen_ok, this]
      simp [valT, hg, TI.isAgg, hd]
    | int k =>
      rw [hd] at hu hc; obtain ⟨b, hb⟩ := hc
      have := one _ hb
      subst hb
      simp only [part, isAgg, Sem.run_bind, run_underlying hu, Result.andThen_ok, this]
      simp [valT, hg, TI.isAgg, hd]
    | string =>
      rw [hd] at hu hc; obtain ⟨b, hb⟩ := hc
      have := one _ hb
      subst hb
      simp only [part, isAgg, Sem.run_bind, run_underlying hu, Result.andThen_ok, this]
      simp [valT, hg, TI.isAgg, hd]
    | struct fs =>
      rw [hd] at hu
      simp only [part, isAgg, Sem.run_bind, run_underlying hu, Result.andThen_ok, run_sizeOf w hi, hsz, ← hlen, extract_mid]
      simp [valT, hg, TI.isAgg, hd, run_sizeOf w hi, hsz, ← hlen]
    | array k e =>
      rw [hd] at hu
      simp only [part, isAgg, Sem.run_bind, run_underlying hu, Result.andThen_ok, run_sizeOf w hi, hsz, ← hlen, extract_mid]
      simp [valT, hg, TI.isAgg, hd, run_sizeOf w hi, hsz, ← hlen]
    | _ => rw [hd] at hf; simp at hf
def EqT (P : Program) (T : Tab) (d n t : Nat) : Prop := ∀ (cs ds : List AV), FlC T n t cs → FlC T n t ds → ∀ w, ∃ r : Bool, (Op.equalIn d t (valT T t cs) (valT T t ds)).run P w = .ok r w ∧ (r = true ↔ cs = ds)
theorem app_iff {a b c d : List AV} (h : a.length = c.length) : a ++ b = c ++ d ↔ a = c ∧ b = d :=
  ⟨fun e => List.append_inj e h, fun ⟨e1, e2⟩ => by rw [e1, e2]⟩
theorem eq_fields (hT : TabOk P T) {d n : Nat} (w : World) : ∀ (fs : List Field) (A A' cs ds : List AV) (m : Nat), contig T A.length fs = some m → A.length = A'.length →
    (∀ f ∈ fs, f.name ≠ "_" ∧ flatT P T n f.type = true ∧ EqT P T d n f.type) → TyFs (FlC T n) fs cs → TyFs (FlC T n) fs ds →
    ∃ r : Bool, (Op.eqFields d ((A ++ cs).map valA).toArray ((A' ++ ds).map valA).toArray fs).run P w = .ok r w ∧ (r = true ↔ cs = ds)
  | [], A, A', cs, ds, m, _, _, _, h1, h2 => by
    simp only [TyFs] at h1 h2
    subst h1 h2
    exact ⟨true, by simp [Op.eqFields], by simp⟩
  | f :: fs, A, A', cs, ds, m, hc, hA, hall, h1, h2 => by
    simp only [contig] at hc
    split at hc
    · rename_i hoff
      have hoff : f.offset = A.length := by simpa using hoff
      obtain ⟨a, b, rfl, ha, hb⟩ := h1
      obtain ⟨a', b', rfl, ha', hb'⟩ := h2
      obtain ⟨hn, hf, hE⟩ := hall f (by simp)
      have la := flat_len n f.type a hf ha
      have la' := flat_len n f.type a' hf ha'
      have p1 := part_ok hT hf A a b ha w
      have p2 := part_ok hT hf A' a' b' ha' w
      rw [← hA] at p2
      obtain ⟨r, hr, hiff⟩ := hE a a' ha ha' w
      obtain ⟨r', hr', hiff'⟩ := eq_fields hT w fs (A ++ a) (A' ++ a') b b' m (by rw [List.length_append, la]; exact hc) (by simp [hA, la, la']) (fun g hg => hall g (List.mem_cons_of_mem _ hg)) hb hb'
      rw [List.append_assoc] at hr' p1 p2
      rw [List.append_assoc] at hr'
      simp only [Op.eqFields, hn, ne_eq, not_false_eq_true, if_true, Sem.run_bind, hoff, p1, p2, hr, Result.andThen_ok, app_iff (la.trans la'.symm)]
      cases r
      · exact ⟨false, by simp, by simp; intro e; exact absurd (hiff.2 e) (by simp)⟩
      · refine ⟨r', by simpa using hr', ?_⟩
        rw [hiff']
        simp [hiff.1 rfl]
    · cases hc
theorem eq_items (hT : TabOk P T) {d n e : Nat} (w : World) (hf : flatT P T n e = true) (hE : EqT P T d n e) : ∀ (rows rows' A A' : List (List AV)), rows.length = rows'.length → A.length = A'.length →
    (∀ r ∈ rows, FlC T n e r) → (∀ r ∈ rows', FlC T n e r) → (∀ r ∈ A, FlC T n e r) → (∀ r ∈ A', FlC T n e r) →
    ∃ r : Bool, (Op.eqItems d e (P.cellsOf e) (((A ++ rows).flatten).map valA).toArray (((A' ++ rows').flatten).map valA).toArray (List.range' A.length rows.length)).run P w = .ok r w ∧ (r = true ↔ rows.flatten = rows'.flatten)
  | [], [], A, A', _, _, _, _, _, _ => ⟨true, by simp [Op.eqItems], by simp⟩
  | [], _ :: _, _, _, h, _, _, _, _, _ => by simp at h
  | _ :: _, [], _, _, h, _, _, _, _, _ => by simp at h
  | a :: rows, a' :: rows', A, A', hl, hA, h1, h2, h3, h4 => by
    obtain ⟨ti, hlook⟩ := flat_lookT hf
    have hsz := cellsOf_sizeT hT hlook
    have ha := h1 a (by simp)
    have ha' := h2 a' (by simp)
    have la := flat_len n e a hf ha
    have la' := flat_len n e a' hf ha'
    have lA := flen_rows A fun r hr => flat_len n e r hf (h3 r hr)
    have lA' := flen_rows A' fun r hr => flat_len n e r hf (h4 r hr)
    have p1 := part_ok hT hf A.flatten a rows.flatten ha w
    have p2 := part_ok hT hf A'.flatten a' rows'.flatten ha' w
    rw [lA] at p1
    rw [lA', ← hA] at p2
    obtain ⟨r, hr, hiff⟩ := hE a a' ha ha' w
    obtain ⟨r', hr', hiff'⟩ := eq_items hT w hf hE rows rows' (A ++ [a]) (A' ++ [a']) (by simpa using hl) (by simp [hA]) (fun q hq => h1 q (List.mem_cons_of_mem _ hq)) (fun q hq => h2 q (List.mem_cons_of_mem _ hq))
      (fun q hq => by rcases List.mem_append.1 hq with hq | hq; exact h3 q hq; rw [List.mem_singleton.1 hq]; exact ha) (fun q hq => by rcases List.mem_append.1 hq with hq | hq; exact h4 q hq; rw [List.mem_singleton.1 hq]; exact ha')
    have e1 : (A ++ a :: rows).flatten = A.flatten ++ a ++ rows.flatten := by simp
    have e2 : (A' ++ a' :: rows').flatten = A'.flatten ++ a' ++ rows'.flatten := by simp
    have e3 : (A ++ [a] ++ rows).flatten = A.flatten ++ a ++ rows.flatten := by simp
    have e4 : (A' ++ [a'] ++ rows').flatten = A'.flatten ++ a' ++ rows'.flatten := by simp
    have e5 : (A ++ [a]).length = A.length + 1 := by simp
    rw [e3, e4, e5] at hr'
    rw [e1, e2, List.length_cons, List.range'_succ, hsz]
    rw [hsz] at hr'
    simp only [Op.eqItems, Sem.run_bind, p1, p2, hr, Result.andThen_ok, List.flatten_cons, app_iff (la.trans la'.symm)]
    cases r
    · exact ⟨false, by simp, by simp; intro e; exact absurd (hiff.2 e) (by simp)⟩
    · refine ⟨r', by simpa using hr', ?_⟩
      rw [hiff']
      simp [hiff.1 rfl]
theorem eq_flat (hT : TabOk P T) : ∀ (n d t : Nat), flatT P T n t = true → EqT P T (d + n) n t
  | 0, d, t, h => by simp [flatT] at h
  | n + 1, d, t, h => by
    intro cs ds hc hd w
    obtain ⟨ti, hl⟩ := flat_lookT h
    have hu := (hT t ti hl).1
    unfold flatT at h
    unfold FlC at hc hd
    rw [hl] at h hc hd
    simp only at h hc hd
    have hg : aggT T t = ti.isAgg := by simp [aggT, hl]
    cases hdc : ti.desc with
    | bool =>
      rw [hdc] at hu hc hd
      obtain ⟨x, rfl⟩ := hc
      obtain ⟨y, rfl⟩ := hd
      refine ⟨x == y, ?_, by simp⟩
      simp only [valT, hg, TI.isAgg, hdc, Bool.false_eq_true, if_false, List.headD_cons, valA]
      exact run_equalIn_bool' w (d + n) t x y hu
    | int k =>
      rw [hdc] at hu hc hd
      obtain ⟨x, rfl⟩ := hc
      obtain ⟨y, rfl⟩ := hd
      refine ⟨x == y, ?_, by simp⟩
      simp only [valT, hg, TI.isAgg, hdc, Bool.false_eq_true, if_false, List.headD_cons, valA]
      exact run_equalIn_int w (d + n) t k k x y hu
    | string =>
      rw [hdc] at hu hc hd
      obtain ⟨x, rfl⟩ := hc
      obtain ⟨y, rfl⟩ := hd
      refine ⟨x.toList == y.toList, ?_, ?_⟩
      rotate_left
      · rw [beq_iff_eq]
        constructor
        · intro e
          rw [ByteArray.toList_eq, ByteArray.toList_eq] at e
          have : x = y := ByteArray.ext (Array.ext' e)
          rw [this]
        · intro e
          simp only [List.cons.injEq, AV.s.injEq, and_true] at e
          rw [e]
      simp only [valT, hg, TI.isAgg, hdc, Bool.false_eq_true, if_false, List.headD_cons, valA]
      exact run_equalIn_string w (d + n) t x y hu
    | struct fs =>
      rw [hdc] at hu hc hd h
      simp only [Bool.and_eq_true, beq_iff_eq, List.all_eq_true, bne_iff_ne, ne_eq, Bool.not_eq_true'] at h
      have hfs : P.fieldsOf t = fs := by simp [Program.fieldsOf, hu]
      have := eq_fields hT (d := d + n) (n := n) w fs.toList [] [] cs ds ti.size h.1.1 rfl (fun f hf => ⟨(h.1.2 f hf).1, (h.1.2 f hf).2, eq_flat hT n d f.type (h.1.2 f hf).2⟩) hc hd
      obtain ⟨r, hr, hiff⟩ := this
      refine ⟨r, ?_, hiff⟩
      simp only [valT, hg, TI.isAgg, hdc, if_true]
      rw [show d + (n + 1) = (d + n) + 1 from rfl, run_equalIn_struct w (d + n) t _ _ (by rw [hfs]; exact hu) h.2, hfs]
      exact hr
    | array k e =>
      rw [hdc] at hu hc hd h
      simp only [Bool.and_eq_true, beq_iff_eq] at h
      obtain ⟨rows, rfl, hk, hr⟩ := hc
      obtain ⟨rows', rfl, hk', hr'⟩ := hd
      obtain ⟨te, hle⟩ := flat_lookT h.2
      obtain ⟨i, hi⟩ := info_of_underlying (hT e te hle).1
      obtain ⟨r, hrun, hiff⟩ := eq_items hT (d := d + n) w h.2 (eq_flat hT n d e h.2) rows rows' [] [] (by omega) rfl hr hr' (fun r hr => by simp at hr) (fun r hr => by simp at hr)
      refine ⟨r, ?_, hiff⟩
      simp only [valT, hg, TI.isAgg, hdc, if_true]
      rw [show d + (n + 1) = (d + n) + 1 from rfl, run_equalIn_array w (d + n) _ _ hu hi, List.range_eq_range', ← hk]
      exact hrun
    | _ => rw [hdc] at h; simp at h
theorem flat_vals {n : Nat} (hT : TabOk P T) : ∀ (n t : Nat) (cs : List AV), flatT P T n t = true → FlC T n t cs → ∀ a ∈ cs, ∃ v, toV a = some v ∧ v = valA a
  | 0, t, cs, h, _ => by simp [flatT] at h
  | n + 1, t, cs, h, hc => by
    obtain ⟨ti, hl⟩ := flat_lookT h
    unfold flatT at h
    unfold FlC at hc
    rw [hl] at h hc
    simp only at h hc
    intro a ha
    cases hd : ti.desc with
    | bool => rw [hd] at hc; obtain ⟨x, rfl⟩ := hc; rw [List.mem_singleton.1 ha]; exact ⟨_, rfl, rfl⟩
    | int k => rw [hd] at hc; obtain ⟨x, rfl⟩ := hc; rw [List.mem_singleton.1 ha]; exact ⟨_, rfl, rfl⟩
    | string => rw [hd] at hc; obtain ⟨x, rfl⟩ := hc; rw [List.mem_singleton.1 ha]; exact ⟨_, rfl, rfl⟩
    | struct fs =>
      rw [hd] at hc h
      simp only [Bool.and_eq_true, beq_iff_eq, List.all_eq_true] at h
      have key : ∀ (fs : List Field) (cs : List AV), (∀ f ∈ fs, flatT P T n f.type = true) → TyFs (FlC T n) fs cs → ∀ a ∈ cs, ∃ v, toV a = some v ∧ v = valA a := by
        intro fs
        induction fs with
        | nil => intro cs _ h1 a ha; simp only [TyFs] at h1; subst h1; simp at ha
        | cons f fs ih =>
          intro cs h0 h1 a ha
          obtain ⟨x, y, rfl, hx, hy⟩ := h1
          rcases List.mem_append.1 ha with ha | ha
          · exact flat_vals (n := n) hT n f.type x (h0 f (by simp)) hx a ha
          · exact ih y (fun g hg => h0 g (List.mem_cons_of_mem _ hg)) hy a ha
      exact key fs.toList cs (fun f hf => (h.1.2 f hf).2) hc a ha
    | array k e =>
      rw [hd] at hc h
      simp only [Bool.and_eq_true] at h
      obtain ⟨rows, rfl, _, hr⟩ := hc
      obtain ⟨r, hr', ha'⟩ := List.mem_flatten.1 ha
      exact flat_vals (n := n) hT n e r h.2 (hr r hr') a ha'
    | _ => rw [hd] at h; simp at h
theorem flat_value (hT : TabOk P T) {n t : Nat} {cs : List AV} (h : flatT P T n t = true) (hc : FlC T n t cs) {S : Nat → Prop} {w : World} {v : Value} (hv : RelV0 S w (.agg cs) v) : v = .agg (cs.map valA).toArray := by
  cases hv with
  | agg _ vs hl h1 hr =>
    congr 2
    apply List.ext_getElem (by simpa using hl)
    intro j j1 j2
    have hj : j < cs.length := by omega
    have hrel := hr j _ _ (List.getElem?_eq_getElem hj) (List.getElem?_eq_getElem j1)
    obtain ⟨u, hu, he⟩ := flat_vals (n := n) hT n t cs h hc cs[j] (List.getElem_mem hj)
    rw [List.getElem_map]
    generalize cs[j] = q at hrel hu
    generalize vs[j] = y at hrel
    cases q with
    | b x => cases hrel; rfl
    | i k x => cases hrel; rfl
    | s x => cases hrel; rfl
    | _ => simp [toV] at hu
/-- '==' of two structs or arrays. -/
theorem aggEq_of (hT : TabOk P T) {n t : Nat} (hn : n ≤ 10000) (h : (flatT P T n t && aggT T t && !(P.eqGuardType P.depth t)) = true) {cs ds : List AV} (hc : FlC T n t cs) (hd : FlC T n t ds) {z : Bool} (hz : z = true ↔ cs = ds) : AggEq P t cs ds z := by
  simp only [Bool.and_eq_true, Bool.not_eq_true'] at h
  obtain ⟨⟨h1, h2⟩, h3⟩ := h
  intro S w v u hv hu
  rw [flat_value hT h1 hc hv, flat_value hT h1 hd hu]
  obtain ⟨r, hr, hiff⟩ := eq_flat hT n (10000 - n) t h1 cs ds hc hd w
  rw [show 10000 - n + n = 10000 by omega] at hr
  simp only [valT, h2, if_true] at hr
  rw [Sem.run_bind, run_eqGuard_agg w .eql t (.tmp 0) (.tmp 0) _ _ h3, Result.andThen_ok, run_eql_struct, hr, Result.andThen_ok]
  have : r = z := by
    cases r <;> cases z <;> simp_all
  rw [this]
end
theorem aggEq_true {P : Program} {t : Nat} {cs ds : List AV} {p : Prop} [Decidable p] (h : AggEq P t cs ds (decide p)) (hp : p) : AggEq P t cs ds true := by rw [decide_eq_true hp] at h; exact h
theorem aggEq_false {P : Program} {t : Nat} {cs ds : List AV} {p : Prop} [Decidable p] (h : AggEq P t cs ds (decide p)) (hp : ¬p) : AggEq P t cs ds false := by rw [decide_eq_false hp] at h; exact h
theorem aggNe_dec {P : Program} {t : Nat} {cs ds : List AV} {p : Prop} [Decidable p] (h : AggEq P t cs ds (decide p)) : AggEq P t cs ds (!decide (¬p)) := by
  have : (!decide (¬p)) = decide p := by by_cases hp : p <;> simp [hp]
  rw [this]; exact h
/-- Cells by one's own encoding. -/
theorem flc_cA {T : Tab} {n t e k : Nat} {ti te : TI} {kd : IntKind} (hl : look T t = some ti) (hd : ti.desc = .array k e) (hle : look T e = some te) (hde : te.desc = .int kd) (v : Vector Int k) : FlC T (n + 2) t (cA (AV.i kd) v) := by
  unfold FlC
  rw [hl]
  simp only [hd]
  refine ⟨v.toList.map fun x => [AV.i kd x], ?_, by simp, fun r hr => ?_⟩
  · simp only [cA]
    generalize v.toList = l
    induction l with
    | nil => rfl
    | cons x l ih => simp [ih]
  · obtain ⟨x, _, rfl⟩ := List.mem_map.1 hr
    unfold FlC
    rw [hle]
    simp only [hde]
    exact ⟨x, rfl⟩
theorem cA_inj {n : Nat} {k : IntKind} {v w : Vector Int n} : cA (AV.i k) v = cA (AV.i k) w ↔ v = w := by
  refine ⟨fun h => ?_, fun h => by rw [h]⟩
  have h' : v.toList = w.toList := by
    have key : ∀ (a b : List Int), a.map (AV.i k) = b.map (AV.i k) → a = b := by
      intro a
      induction a with
      | nil => intro b hb; cases b <;> simp_all
      | cons x a ih => intro b hb; cases b with
        | nil => simp at hb
        | cons y b => simp only [List.map_cons, List.cons.injEq, AV.i.injEq, true_and] at hb; rw [hb.1, ih b hb.2]
    exact key _ _ h
  exact Vector.toList_inj.1 h'
end Go.E
namespace Go.Proofs.Ytjngmlkaijpbgaa
open Go.E
set_option maxRecDepth 100000
set_option maxHeartbeats 4000000
structure Dot where
  rep : Int
  num : Int
  deriving Inhabited, DecidableEq
structure Span where
  rep : Int
  lo : Int
  hi : Int
  deriving Inhabited, DecidableEq
def c3 (n : Int) : List AV := [.i .i64 n]
def c33 (v : List Int) : List AV := [.sl (v.map c3)]
def c26 (d : Dot) : List AV := [.i .i64 d.rep, .i .i64 d.num]
def c81 (s : Span) : List AV := [.i .i64 s.rep, .i .i64 s.lo, .i .i64 s.hi]
theorem getD_bang {v : List Int} {n : Nat} : v.getD n 0 = v[n]! := by
  simp [List.getD_eq_getElem?_getD]
theorem fl26 (x : Dot) : FlC tab 3 26 (c26 x) := ⟨[_], [_], rfl, ⟨_, rfl⟩, [_], [], rfl, ⟨_, rfl⟩, rfl⟩
theorem eq26 (x y : Dot) : AggEq Try.prog 26 (c26 x) (c26 y) (decide (x = y)) := by
  refine aggEq_of tab_ok (n := 3) (by decide) (by kernel_rfl) (fl26 x) (fl26 y) ?_
  cases x; cases y; simp [c26]
theorem fl81 (x : Span) : FlC tab 3 81 (c81 x) := ⟨[_], [_, _], rfl, ⟨_, rfl⟩, [_], [_], rfl, ⟨_, rfl⟩, [_], [], rfl, ⟨_, rfl⟩, rfl⟩
theorem eq81 (x y : Span) : AggEq Try.prog 81 (c81 x) (c81 y) (decide (x = y)) := by
  refine aggEq_of tab_ok (n := 3) (by decide) (by kernel_rfl) (fl81 x) (fl81 y) ?_
  cases x; cases y; simp [c81]
def sgn (b : Bool) : Int := if b then -1 else 1
def inv30 {α : Type} [Inhabited α] (a b : List α) (i : Int) : Prop := 0 ≤ i ∧ i ≤ a.length ∧ ∀ j : Nat, (j : Int) < i → a[j]! = b[j]!
def dec30 {α : Type} (a : List α) (i : Int) : Nat := (a.length - i).toNat
theorem bang_eq {α : Type} [Inhabited α] {a b : List α} (hl : (a.length : Int) = b.length) (h : ∀ j : Nat, (j : Int) < a.length → a[j]! = b[j]!) : a = b := by
  apply List.ext_getElem (by omega)
  intro j h1 h2
  have := h j (by omega)
  simpa [h1, h2] using this
def inv29 {α : Type} (vs : List α) (i : Int) (l : List α) : Prop := 0 ≤ i ∧ i ≤ vs.length ∧ l = vs.take i.toNat
def dec29 {α : Type} (vs : List α) (i : Int) (l : List α) : Nat := (vs.length - i).toNat
def sz22 (v : List Int) : Prop := v.length * 8 ≤ 140737488351232
def sz38 (vs : List (List Int)) : Prop := vs.length * 24 ≤ 140737488351232 ∧ ∀ v ∈ vs, sz22 v
theorem bang_mem {α : Type} [Inhabited α] {a : List α} {i : Nat} (h : i < a.length) : a[i]! ∈ a := by
  rw [getElem!_pos a i h]; exact List.getElem_mem h
theorem take_step {α : Type} [Inhabited α] {a : List α} {i : Int} (h0 : 0 ≤ i) (h : i < a.length) : a.take i.toNat ++ [a[i.toNat]!] = a.take (i + 1).toNat := by
  have e : (i + 1).toNat = i.toNat + 1 := by omega
  have hl : i.toNat < a.length := by omega
  rw [e, List.take_succ_eq_append_getElem hl, getElem!_pos a _ hl]
structure Entry where
  dot : Dot
  sku : ByteArray
  qty : Int
  deriving Inhabited, DecidableEq
structure Run where
  lo : Int
  hi : Int
  deriving Inhabited, DecidableEq
structure Past where
  vec : List Int
  cloud : List Span
  deriving Inhabited, DecidableEq
structure Line where
  sku : ByteArray
  qty : Int
  parts : Int
  deriving Inhabited, DecidableEq
def c5 (n : Int) : List AV := [.i .u8 n]
def c9 (s : ByteArray) : List AV := [.s s]
def c28 (e : Entry) : List AV := [.i .i64 e.dot.rep, .i .i64 e.dot.num, .s e.sku, .i .i64 e.qty]
def c108 (r : Run) : List AV := [.i .i64 r.lo, .i .i64 r.hi]
def c36 (p : Past) : List AV := [.sl (p.vec.map c3), .sl (p.cloud.map c81)]
def c55 (l : Line) : List AV := [.s l.sku, .i .i64 l.qty, .i .i64 l.parts]
theorem fl28 (x : Entry) : FlC tab 4 28 (c28 x) := ⟨[_, _], [_, _], rfl, ⟨[_], [_], rfl, ⟨_, rfl⟩, [_], [], rfl, ⟨_, rfl⟩, rfl⟩, [_], [_], rfl, ⟨_, rfl⟩, [_], [], rfl, ⟨_, rfl⟩, rfl⟩
theorem eq28 (x y : Entry) : AggEq Try.prog 28 (c28 x) (c28 y) (decide (x = y)) := by
  refine aggEq_of tab_ok (n := 4) (by decide) (by kernel_rfl) (fl28 x) (fl28 y) ?_
  obtain ⟨⟨a, b⟩, c, d⟩ := x; obtain ⟨⟨a', b'⟩, c', d'⟩ := y; simp [c28, and_assoc]
theorem fl55 (x : Line) : FlC tab 3 55 (c55 x) := ⟨[_], [_, _], rfl, ⟨_, rfl⟩, [_], [_], rfl, ⟨_, rfl⟩, [_], [], rfl, ⟨_, rfl⟩, rfl⟩
theorem eq55 (x y : Line) : AggEq Try.prog 55 (c55 x) (c55 y) (decide (x = y)) := by
  refine aggEq_of tab_ok (n := 3) (by decide) (by kernel_rfl) (fl55 x) (fl55 y) ?_
  cases x; cases y; simp [c55]
structure Case where
  a : List Entry
  b : List Entry
  p : Past
  d : Dot
  rep : Int
  sku : ByteArray
  deriving Inhabited
def c38 (c : Case) : List AV := [.sl (c.a.map c28), .sl (c.b.map c28), .sl (c.p.vec.map c3), .sl (c.p.cloud.map c81), .i .i64 c.d.rep, .i .i64 c.d.num, .i .i64 c.rep, .s c.sku]
end Go.Proofs.Ytjngmlkaijpbgaa
namespace Go.Proofs.Ytjngmlkaijpbgaa
open Go.E
set_option maxRecDepth 100000
set_option maxHeartbeats 4000000
theorem bl_cons (a b : UInt8) (x y : List UInt8) : Go.Op.bytesLess (a :: x) (b :: y) = true ↔ a.toNat < b.toNat ∨ (a = b ∧ Go.Op.bytesLess x y = true) := by
  rw [Go.Op.bytesLess, Bool.or_eq_true, Bool.and_eq_true, decide_eq_true_eq, beq_iff_eq, UInt8.lt_iff_toNat_lt]
theorem bl_irr : ∀ l : List UInt8, ¬ Go.Op.bytesLess l l = true
  | [] => by simp [Go.Op.bytesLess]
  | a :: l => by
    rw [bl_cons]
    rintro (h | h)
    · omega
    · exact bl_irr l h.2
theorem bl_trans : ∀ {x y z : List UInt8}, Go.Op.bytesLess x y = true → Go.Op.bytesLess y z = true → Go.Op.bytesLess x z = true
  | _, [], _, h, _ => by cases ‹List UInt8› <;> simp [Go.Op.bytesLess] at h
  | _, _ :: _, [], _, h => by simp [Go.Op.bytesLess] at h
  | [], _ :: _, c :: z, _, _ => by simp [Go.Op.bytesLess]
  | a :: x, b :: y, c :: z, h1, h2 => by
    rw [bl_cons] at *
    rcases h1 with h1 | ⟨rfl, h1⟩
    · rcases h2 with h2 | ⟨rfl, h2⟩
      · exact .inl (by omega)
      · exact .inl h1
    · rcases h2 with h2 | ⟨rfl, h2⟩
      · exact .inl h2
      · exact .inr ⟨rfl, bl_trans h1 h2⟩
theorem bl_total : ∀ {x y : List UInt8}, ¬ Go.Op.bytesLess x y = true → ¬ Go.Op.bytesLess y x = true → x = y
  | [], [], _, _ => rfl
  | [], b :: y, h, _ => by simp [Go.Op.bytesLess] at h
  | a :: x, [], _, h => by simp [Go.Op.bytesLess] at h
  | a :: x, b :: y, h1, h2 => by
    rw [bl_cons] at *
    have e : a = b := UInt8.toNat_inj.1 (by omega)
    subst e
    rw [bl_total (fun h => h1 (.inr ⟨rfl, h⟩)) (fun h => h2 (.inr ⟨rfl, h⟩))]
theorem sLt_irr (x : ByteArray) : ¬ sLt x x = true := bl_irr _
theorem sLt_trans {x y z : ByteArray} (h1 : sLt x y = true) (h2 : sLt y z = true) : sLt x z = true := bl_trans h1 h2
theorem sLt_total {x y : ByteArray} (h1 : ¬ sLt x y = true) (h2 : ¬ sLt y x = true) : x = y := by
  have e := bl_total h1 h2
  rw [ByteArray.toList_eq, ByteArray.toList_eq] at e
  exact ByteArray.ext (Array.ext' e)
end Go.Proofs.Ytjngmlkaijpbgaa
namespace Go.Proofs.Ytjngmlkaijpbgaa
open Go.E
set_option maxRecDepth 100000
set_option maxHeartbeats 4000000
def isLet (c : Int) : Bool := decide (65 ≤ c ∧ c ≤ 90)
def isDig (c : Int) : Bool := decide (48 ≤ c ∧ c ≤ 57)
def isMrk (c : Int) : Bool := decide (c = 45 ∨ c = 46)
def standsB (s : ByteArray) (i : Nat) : Bool := isLet (byt s i) || isDig (byt s i) || (isMrk (byt s i) && decide (i ≠ 0 ∧ i + 1 ≠ s.size) && !isMrk (byt s (i - 1)))
def allUp (p : Nat → Bool) : Nat → Bool
  | 0 => true
  | n + 1 => allUp p n && p n
theorem allUp_iff (p : Nat → Bool) : ∀ n, allUp p n = true ↔ ∀ i, i < n → p i = true
  | 0 => by simp [allUp]
  | n + 1 => by
    rw [allUp, Bool.and_eq_true, allUp_iff p n]
    constructor
    · rintro ⟨h1, h2⟩ i hi
      by_cases e : i = n
      · rw [e]; exact h2
      · exact h1 i (by omega)
    · intro h; exact ⟨fun i hi => h i (by omega), h n (by omega)⟩
def chkE (s : ByteArray) : Int := if s.size = 0 then 20 else if 24 < s.size then 21 else if allUp (standsB s) s.size = true then 0 else 22
def good (s : ByteArray) : Bool := decide (chkE s = 0)
def invG (s : ByteArray) (i : Int) : Prop := 0 ≤ i ∧ i ≤ s.size ∧ ∀ j : Nat, (j : Int) < i → standsB s j = true
def decG (s : ByteArray) (i : Int) : Nat := (s.size - i).toNat
theorem chkE_bad {s : ByteArray} (h0 : ¬ s.size = 0) (h1 : ¬ 24 < s.size) {i : Nat} (hi : i < s.size) (h : standsB s i = false) : chkE s = 22 := by
  unfold chkE
  rw [if_neg h0, if_neg h1, if_neg]
  intro k
  have := (allUp_iff _ _).1 k i hi
  rw [h] at this; cases this
theorem chkE_ok {s : ByteArray} (h0 : ¬ s.size = 0) (h1 : ¬ 24 < s.size) (h : ∀ j : Nat, j < s.size → standsB s j = true) : chkE s = 0 := by
  unfold chkE
  rw [if_neg h0, if_neg h1, if_pos ((allUp_iff _ _).2 h)]
theorem size_zero (s : ByteArray) : s.size = 0 ↔ s = ⟨#[]⟩ := by
  constructor
  · intro h; exact ByteArray.ext (Array.eq_empty_of_size_eq_zero h)
  · rintro rfl; rfl
theorem stands_iff (s : ByteArray) (i : Nat) : standsB s i = true ↔ isLet (byt s i) = true ∨ isDig (byt s i) = true ∨ (isMrk (byt s i) = true ∧ i ≠ 0 ∧ i + 1 ≠ s.size ∧ ¬ isMrk (byt s (i - 1)) = true) := by
  unfold standsB
  cases isLet (byt s i) <;> cases isDig (byt s i) <;> cases isMrk (byt s i) <;> cases isMrk (byt s (i - 1)) <;> simp
theorem invG_step {s : ByteArray} {i : Int} (h0 : 0 ≤ i) (h1 : i < s.size) (h2 : ∀ j : Nat, (j : Int) < i → standsB s j = true) (h : standsB s i.toNat = true) : invG s (i + 1) :=
  ⟨by omega, by omega, fun j hj => by
    by_cases e : j = i.toNat
    · rw [e]; exact h
    · exact h2 j (by omega)⟩
theorem not_stands {s : ByteArray} {i : Nat} (h : ¬ standsB s i = true) : standsB s i = false := by simpa using h
theorem con89 (c : Int) : Con Try.prog 89 [.i .u8 c] (.b (isLet c)) :=
  by
  refine st_con tab_ok (by kernel_rfl) [.tmp 2] 9 Go.Proofs.Try.func89 (by kernel_rfl) (by kernel_rfl) ?_
  intro e0 cx
  refine sq ?_
  refine rg (A := True) cx [] [0] [] trivial ?_
  refine sn ?_
  refine sq ?_
  refine st_join (σ' := ⟨[(2, .b (decide ((65 : Int) ≤ c ∧ c ≤ (90 : Int))))], []⟩) ?_ ?_
  refine st_split ((65 : Int) ≤ c) (fun h_1 => ?_) (fun h_1 => ?_)
  refine rg (A := _ ∧ (AV.b (decide (c ≤ (90 : Int))) = AV.b (decide (c ≤ (90 : Int)))) ∧ (AV.b (decide (c ≤ (90 : Int))) = AV.b (decide ((65 : Int) ≤ c ∧ c ≤ (90 : Int))))) cx [(1, { tell := some (.b (true)) }), (4, { tell := some (.b (decide (c ≤ (90 : Int)))) }), (6, { tell := some (.b (decide ((65 : Int) ≤ c ∧ c ≤ (90 : Int)))) })] [2] [] ⟨(told_true h_1), (by kernel_rfl), (by simp only [eq_true h_1, told_simp1, told_simp2, and_true, true_and, and_false, false_and, or_true, true_or, or_false, false_or, not_true_eq_false, not_false_eq_true, decide_true, decide_false, Bool.decide_eq_true])⟩ ?_
  exact ⟨rfl, by kernel_rfl⟩
  refine rg (A := _ ∧ (AV.b false = AV.b (decide ((65 : Int) ≤ c ∧ c ≤ (90 : Int))))) cx [(1, { tell := some (.b (false)) }), (6, { tell := some (.b (decide ((65 : Int) ≤ c ∧ c ≤ (90 : Int)))) })] [2] [] ⟨(told_false h_1), (by simp only [eq_false h_1, told_simp1, told_simp2, and_true, true_and, and_false, false_and, or_true, true_or, or_false, false_or, not_true_eq_false, not_false_eq_true, decide_true, decide_false, Bool.decide_eq_true])⟩ ?_
  exact ⟨rfl, by kernel_rfl⟩
  refine sn ?_
  refine st_ret (by kernel_rfl) ?_
  refine q_ret (r := .b (decide ((65 : Int) ≤ c ∧ c ≤ (90 : Int)))) (obl := []) (by kernel_rfl) trivial (AVle.eq (show AV.b (decide ((65 : Int) ≤ c ∧ c ≤ (90 : Int))) = AV.b (isLet c) from ?g0)); rotate_left 1
  case g0 => exact rfl
theorem con90 (c : Int) : Con Try.prog 90 [.i .u8 c] (.b (isDig c)) :=
  by
  refine st_con tab_ok (by kernel_rfl) [.tmp 2] 9 Go.Proofs.Try.func90 (by kernel_rfl) (by kernel_rfl) ?_
  intro e0 cx
  refine sq ?_
  refine rg (A := True) cx [] [0] [] trivial ?_
  refine sn ?_
  refine sq ?_
  refine st_join (σ' := ⟨[(2, .b (decide ((48 : Int) ≤ c ∧ c ≤ (57 : Int))))], []⟩) ?_ ?_
  refine st_split ((48 : Int) ≤ c) (fun h_1 => ?_) (fun h_1 => ?_)
  refine rg (A := _ ∧ (AV.b (decide (c ≤ (57 : Int))) = AV.b (decide (c ≤ (57 : Int)))) ∧ (AV.b (decide (c ≤ (57 : Int))) = AV.b (decide ((48 : Int) ≤ c ∧ c ≤ (57 : Int))))) cx [(1, { tell := some (.b (true)) }), (4, { tell := some (.b (decide (c ≤ (57 : Int)))) }), (6, { tell := some (.b (decide ((48 : Int) ≤ c ∧ c ≤ (57 : Int)))) })] [2] [] ⟨(told_true h_1), (by kernel_rfl), (by simp only [eq_true h_1, told_simp1, told_simp2, and_true, true_and, and_false, false_and, or_true, true_or, or_false, false_or, not_true_eq_false, not_false_eq_true, decide_true, decide_false, Bool.decide_eq_true])⟩ ?_
  exact ⟨rfl, by kernel_rfl⟩
  refine rg (A := _ ∧ (AV.b false = AV.b (decide ((48 : Int) ≤ c ∧ c ≤ (57 : Int))))) cx [(1, { tell := some (.b (false)) }), (6, { tell := some (.b (decide ((48 : Int) ≤ c ∧ c ≤ (57 : Int)))) })] [2] [] ⟨(told_false h_1), (by simp only [eq_false h_1, told_simp1, told_simp2, and_true, true_and, and_false, false_and, or_true, true_or, or_false, false_or, not_true_eq_false, not_false_eq_true, decide_true, decide_false, Bool.decide_eq_true])⟩ ?_
  exact ⟨rfl, by kernel_rfl⟩
  refine sn ?_
  refine st_ret (by kernel_rfl) ?_
  refine q_ret (r := .b (decide ((48 : Int) ≤ c ∧ c ≤ (57 : Int)))) (obl := []) (by kernel_rfl) trivial (AVle.eq (show AV.b (decide ((48 : Int) ≤ c ∧ c ≤ (57 : Int))) = AV.b (isDig c) from ?g0)); rotate_left 1
  case g0 => exact rfl
theorem con91 (c : Int) : Con Try.prog 91 [.i .u8 c] (.b (isMrk c)) :=
  by
  refine st_con tab_ok (by kernel_rfl) [.tmp 2] 9 Go.Proofs.Try.func91 (by kernel_rfl) (by kernel_rfl) ?_
  intro e0 cx
  refine sq ?_
  refine rg (A := True) cx [] [0] [] trivial ?_
  refine sn ?_
  refine sq ?_
  refine st_join (σ' := ⟨[(2, .b (decide (c = (45 : Int) ∨ c = (46 : Int))))], []⟩) ?_ ?_
  refine st_split (c = (45 : Int)) (fun h_1 => ?_) (fun h_1 => ?_)
  refine rg (A := _ ∧ (AV.b true = AV.b (decide (c = (45 : Int) ∨ c = (46 : Int))))) cx [(1, { tell := some (.b (true)) }), (6, { tell := some (.b (decide (c = (45 : Int) ∨ c = (46 : Int)))) })] [2] [] ⟨(told_true h_1), (by simp only [eq_true h_1, told_simp1, told_simp2, and_true, true_and, and_false, false_and, or_true, true_or, or_false, false_or, not_true_eq_false, not_false_eq_true, decide_true, decide_false, Bool.decide_eq_true])⟩ ?_
  exact ⟨rfl, by kernel_rfl⟩
  refine rg (A := _ ∧ (AV.b (c == (46 : Int)) = AV.b (decide (c = (46 : Int)))) ∧ (AV.b (decide (c = (46 : Int))) = AV.b (decide (c = (45 : Int) ∨ c = (46 : Int))))) cx [(1, { tell := some (.b (false)) }), (4, { tell := some (.b (decide (c = (46 : Int)))) }), (6, { tell := some (.b (decide (c = (45 : Int) ∨ c = (46 : Int)))) })] [2] [] ⟨(told_false h_1), (by kernel_rfl), (by simp only [eq_false h_1, told_simp1, told_simp2, and_true, true_and, and_false, false_and, or_true, true_or, or_false, false_or, not_true_eq_false, not_false_eq_true, decide_true, decide_false, Bool.decide_eq_true])⟩ ?_
  exact ⟨rfl, by kernel_rfl⟩
  refine sn ?_
  refine st_ret (by kernel_rfl) ?_
  refine q_ret (r := .b (decide (c = (45 : Int) ∨ c = (46 : Int)))) (obl := []) (by kernel_rfl) trivial (AVle.eq (show AV.b (decide (c = (45 : Int) ∨ c = (46 : Int))) = AV.b (isMrk c) from ?g0)); rotate_left 1
  case g0 => exact rfl
theorem con119 (c : Int) : Con Try.prog 119 [.i .u8 c] (.b (isLet c)) :=
  by
  refine st_con tab_ok (by kernel_rfl) [.tmp 2] 9 Go.Proofs.Try.func119 (by kernel_rfl) (by kernel_rfl) ?_
  intro e0 cx
  refine sq ?_
  refine rg (A := True) cx [] [0] [] trivial ?_
  refine sn ?_
  refine sq ?_
  refine st_join (σ' := ⟨[(2, .b (decide ((65 : Int) ≤ c ∧ c ≤ (90 : Int))))], []⟩) ?_ ?_
  refine st_split ((65 : Int) ≤ c) (fun h_1 => ?_) (fun h_1 => ?_)
  refine rg (A := _ ∧ (AV.b (decide (c ≤ (90 : Int))) = AV.b (decide (c ≤ (90 : Int)))) ∧ (AV.b (decide (c ≤ (90 : Int))) = AV.b (decide ((65 : Int) ≤ c ∧ c ≤ (90 : Int))))) cx [(1, { tell := some (.b (true)) }), (4, { tell := some (.b (decide (c ≤ (90 : Int)))) }), (6, { tell := some (.b (decide ((65 : Int) ≤ c ∧ c ≤ (90 : Int)))) })] [2] [] ⟨(told_true h_1), (by kernel_rfl), (by simp only [eq_true h_1, told_simp1, told_simp2, and_true, true_and, and_false, false_and, or_true, true_or, or_false, false_or, not_true_eq_false, not_false_eq_true, decide_true, decide_false, Bool.decide_eq_true])⟩ ?_
  exact ⟨rfl, by kernel_rfl⟩
  refine rg (A := _ ∧ (AV.b false = AV.b (decide ((65 : Int) ≤ c ∧ c ≤ (90 : Int))))) cx [(1, { tell := some (.b (false)) }), (6, { tell := some (.b (decide ((65 : Int) ≤ c ∧ c ≤ (90 : Int)))) })] [2] [] ⟨(told_false h_1), (by simp only [eq_false h_1, told_simp1, told_simp2, and_true, true_and, and_false, false_and, or_true, true_or, or_false, false_or, not_true_eq_false, not_false_eq_true, decide_true, decide_false, Bool.decide_eq_true])⟩ ?_
  exact ⟨rfl, by kernel_rfl⟩
  refine sn ?_
  refine st_ret (by kernel_rfl) ?_
  refine q_ret (r := .b (decide ((65 : Int) ≤ c ∧ c ≤ (90 : Int)))) (obl := []) (by kernel_rfl) trivial (AVle.eq (show AV.b (decide ((65 : Int) ≤ c ∧ c ≤ (90 : Int))) = AV.b (isLet c) from ?g0)); rotate_left 1
  case g0 => exact rfl
theorem con120 (c : Int) : Con Try.prog 120 [.i .u8 c] (.b (isDig c)) :=
  by
  refine st_con tab_ok (by kernel_rfl) [.tmp 2] 9 Go.Proofs.Try.func120 (by kernel_rfl) (by kernel_rfl) ?_
  intro e0 cx
  refine sq ?_
  refine rg (A := True) cx [] [0] [] trivial ?_
  refine sn ?_
  refine sq ?_
  refine st_join (σ' := ⟨[(2, .b (decide ((48 : Int) ≤ c ∧ c ≤ (57 : Int))))], []⟩) ?_ ?_
  refine st_split ((48 : Int) ≤ c) (fun h_1 => ?_) (fun h_1 => ?_)
  refine rg (A := _ ∧ (AV.b (decide (c ≤ (57 : Int))) = AV.b (decide (c ≤ (57 : Int)))) ∧ (AV.b (decide (c ≤ (57 : Int))) = AV.b (decide ((48 : Int) ≤ c ∧ c ≤ (57 : Int))))) cx [(1, { tell := some (.b (true)) }), (4, { tell := some (.b (decide (c ≤ (57 : Int)))) }), (6, { tell := some (.b (decide ((48 : Int) ≤ c ∧ c ≤ (57 : Int)))) })] [2] [] ⟨(told_true h_1), (by kernel_rfl), (by simp only [eq_true h_1, told_simp1, told_simp2, and_true, true_and, and_false, false_and, or_true, true_or, or_false, false_or, not_true_eq_false, not_false_eq_true, decide_true, decide_false, Bool.decide_eq_true])⟩ ?_
  exact ⟨rfl, by kernel_rfl⟩
  refine rg (A := _ ∧ (AV.b false = AV.b (decide ((48 : Int) ≤ c ∧ c ≤ (57 : Int))))) cx [(1, { tell := some (.b (false)) }), (6, { tell := some (.b (decide ((48 : Int) ≤ c ∧ c ≤ (57 : Int)))) })] [2] [] ⟨(told_false h_1), (by simp only [eq_false h_1, told_simp1, told_simp2, and_true, true_and, and_false, false_and, or_true, true_or, or_false, false_or, not_true_eq_false, not_false_eq_true, decide_true, decide_false, Bool.decide_eq_true])⟩ ?_
  exact ⟨rfl, by kernel_rfl⟩
  refine sn ?_
  refine st_ret (by kernel_rfl) ?_
  refine q_ret (r := .b (decide ((48 : Int) ≤ c ∧ c ≤ (57 : Int)))) (obl := []) (by kernel_rfl) trivial (AVle.eq (show AV.b (decide ((48 : Int) ≤ c ∧ c ≤ (57 : Int))) = AV.b (isDig c) from ?g0)); rotate_left 1
  case g0 => exact rfl
theorem con121 (c : Int) : Con Try.prog 121 [.i .u8 c] (.b (isMrk c)) :=
  by
  refine st_con tab_ok (by kernel_rfl) [.tmp 2] 9 Go.Proofs.Try.func121 (by kernel_rfl) (by kernel_rfl) ?_
  intro e0 cx
  refine sq ?_
  refine rg (A := True) cx [] [0] [] trivial ?_
  refine sn ?_
  refine sq ?_
  refine st_join (σ' := ⟨[(2, .b (decide (c = (45 : Int) ∨ c = (46 : Int))))], []⟩) ?_ ?_
  refine st_split (c = (45 : Int)) (fun h_1 => ?_) (fun h_1 => ?_)
  refine rg (A := _ ∧ (AV.b true = AV.b (decide (c = (45 : Int) ∨ c = (46 : Int))))) cx [(1, { tell := some (.b (true)) }), (6, { tell := some (.b (decide (c = (45 : Int) ∨ c = (46 : Int)))) })] [2] [] ⟨(told_true h_1), (by simp only [eq_true h_1, told_simp1, told_simp2, and_true, true_and, and_false, false_and, or_true, true_or, or_false, false_or, not_true_eq_false, not_false_eq_true, decide_true, decide_false, Bool.decide_eq_true])⟩ ?_
  exact ⟨rfl, by kernel_rfl⟩
  refine rg (A := _ ∧ (AV.b (c == (46 : Int)) = AV.b (decide (c = (46 : Int)))) ∧ (AV.b (decide (c = (46 : Int))) = AV.b (decide (c = (45 : Int) ∨ c = (46 : Int))))) cx [(1, { tell := some (.b (false)) }), (4, { tell := some (.b (decide (c = (46 : Int)))) }), (6, { tell := some (.b (decide (c = (45 : Int) ∨ c = (46 : Int)))) })] [2] [] ⟨(told_false h_1), (by kernel_rfl), (by simp only [eq_false h_1, told_simp1, told_simp2, and_true, true_and, and_false, false_and, or_true, true_or, or_false, false_or, not_true_eq_false, not_false_eq_true, decide_true, decide_false, Bool.decide_eq_true])⟩ ?_
  exact ⟨rfl, by kernel_rfl⟩
  refine sn ?_
  refine st_ret (by kernel_rfl) ?_
  refine q_ret (r := .b (decide (c = (45 : Int) ∨ c = (46 : Int)))) (obl := []) (by kernel_rfl) trivial (AVle.eq (show AV.b (decide (c = (45 : Int) ∨ c = (46 : Int))) = AV.b (isMrk c) from ?g0)); rotate_left 1
  case g0 => exact rfl
theorem con92 (s : ByteArray) (i : Int) (h0 : 0 ≤ i) (h1 : i < s.size) (h2 : s.size ≤ 24) : Con Try.prog 92 [.s s, .i .i64 i] (.b (standsB s i.toNat)) :=
  by
  refine st_con tab_ok (by kernel_rfl) [.tmp 4] 33 Go.Proofs.Try.func92 (by kernel_rfl) (by kernel_rfl) ?_
  intro e0 cx
  refine sq ?_
  refine rg (A := True) cx [] [0, 1] [] trivial ?_
  refine sn ?_
  refine sq ?_
  have hl_0 := (rng_byt s)
  have hl_1 := (rng_byt s i.toNat)
  refine rg (A := ((0 : Int) ≤ i) ∧ (Option.map (fun b ↦ (↑b.toNat : Int)) s[i.toNat]? = some (byt s i.toNat))) cx [(2, { val := some (.i .u8 (byt s i.toNat)) })] [0, 1, 5] [] ⟨(by (with_reducible assumption)), (by (with_reducible refine get_byt ?_; omega))⟩ ?_
  refine sn ?_
  refine sq ?_
  refine sq ?_
  refine st_join (σ' := ⟨[(0, .s (s)), (1, .i .i64 (i)), (5, .i .u8 (byt s i.toNat)), (14, .b (decide (isLet (byt s i.toNat) = true ∨ isDig (byt s i.toNat) = true)))], []⟩) ?_ ?_
  refine st_split (isLet (byt s i.toNat) = true) (fun h_3 => ?_) (fun h_3 => ?_)
  refine rg (A := _ ∧ _ ∧ (AV.b true = AV.b (decide (isLet (byt s i.toNat) = true ∨ isDig (byt s i.toNat) = true)))) cx [(1, { val := some (.b (isLet (byt s i.toNat))), tell := some (.b (true)) }), (5, { tell := some (.b (decide (isLet (byt s i.toNat) = true ∨ isDig (byt s i.toNat) = true))) })] [0, 1, 5, 14] [] ⟨(told_eqt h_3), (con119 (byt s i.toNat)), (by simp only [eq_true h_3, told_simp1, told_simp2, and_true, true_and, and_false, false_and, or_true, true_or, or_false, false_or, not_true_eq_false, not_false_eq_true, decide_true, decide_false, Bool.decide_eq_true])⟩ ?_
  exact ⟨rfl, by kernel_rfl⟩
  refine rg (A := (AV.b (isLet (byt s i.toNat)) = AV.b false) ∧ _ ∧ _ ∧ (AV.b (isDig (byt s i.toNat)) = AV.b (decide (isLet (byt s i.toNat) = true ∨ isDig (byt s i.toNat) = true)))) cx [(1, { val := some (.b (isLet (byt s i.toNat))), tell := some (.b (false)) }), (4, { val := some (.b (isDig (byt s i.toNat))) }), (5, { tell := some (.b (decide (isLet (byt s i.toNat) = true ∨ isDig (byt s i.toNat) = true))) })] [0, 1, 5, 14] [] ⟨(told_eqn h_3), (con119 (byt s i.toNat)), (con120 (byt s i.toNat)), (by simp only [eq_false h_3, told_simp1, told_simp2, and_true, true_and, and_false, false_and, or_true, true_or, or_false, false_or, not_true_eq_false, not_false_eq_true, decide_true, decide_false, Bool.decide_eq_true])⟩ ?_
  exact ⟨rfl, by kernel_rfl⟩
  refine sn ?_
  refine st_dec (isLet (byt s i.toNat) = true ∨ isDig (byt s i.toNat) = true) (by kernel_rfl) (by kernel_rfl) (fun h_4 => ?_) (fun h_4 => ?_)
  refine sq ?_
  refine rg (A := True) cx [] [4] [] trivial ?_
  refine sn ?_
  refine st_ret (by kernel_rfl) ?_
  refine q_seq_ret ?_
  refine q_ret (r := .b (true)) (obl := []) (by kernel_rfl) trivial (AVle.eq (show AV.b true = AV.b (standsB s i.toNat) from ?g0)); rotate_left 1
  refine st_skip (by kernel_rfl) ?_
  refine sn ?_
  refine sq ?_
  refine sq ?_
  refine rg (A := _ ∧ ((AV.b !isMrk (byt s i.toNat)) = AV.b (decide ¬isMrk (byt s i.toNat) = true))) cx [(1, { val := some (.b (isMrk (byt s i.toNat))) }), (2, { tell := some (.b (decide ¬isMrk (byt s i.toNat) = true)) })] [0, 1, 17] [] ⟨(con121 (byt s i.toNat)), (told_not)⟩ ?_
  refine sn ?_
  refine st_dec (¬isMrk (byt s i.toNat) = true) (by kernel_rfl) (by kernel_rfl) (fun h_5 => ?_) (fun h_5 => ?_)
  refine sq ?_
  refine rg (A := True) cx [] [4] [] trivial ?_
  refine sn ?_
  refine st_ret (by kernel_rfl) ?_
  refine q_seq_ret ?_
  refine q_ret (r := .b (false)) (obl := []) (by kernel_rfl) trivial (AVle.eq (show AV.b false = AV.b (standsB s i.toNat) from ?g1)); rotate_left 1
  refine st_skip (by kernel_rfl) ?_
  refine sn ?_
  refine sq ?_
  refine sq ?_
  refine st_join (σ' := ⟨[(0, .s (s)), (1, .i .i64 (i)), (26, .b (decide (i = (0 : Int) ∨ i = (↑s.size : Int) - (1 : Int))))], []⟩) ?_ ?_
  refine st_split (i = (0 : Int)) (fun h_7 => ?_) (fun h_7 => ?_)
  refine rg (A := _ ∧ (AV.b true = AV.b (decide (i = (0 : Int) ∨ i = (↑s.size : Int) - (1 : Int))))) cx [(1, { tell := some (.b (true)) }), (8, { tell := some (.b (decide (i = (0 : Int) ∨ i = (↑s.size : Int) - (1 : Int)))) })] [0, 1, 26] [] ⟨(told_true h_7), (by simp only [eq_true h_7, told_simp1, told_simp2, and_true, true_and, and_false, false_and, or_true, true_or, or_false, false_or, not_true_eq_false, not_false_eq_true, decide_true, decide_false, Bool.decide_eq_true])⟩ ?_
  exact ⟨rfl, by kernel_rfl⟩
  refine rg (A := _ ∧ (AV.i IntKind.i64 (IntKind.i64.wrap ((↑s.size : Int) - (1 : Int))) = AV.i IntKind.i64 ((↑s.size : Int) - (1 : Int))) ∧ (AV.b (i == (↑s.size : Int) - (1 : Int)) = AV.b (decide (i = (↑s.size : Int) - (1 : Int)))) ∧ (AV.b (decide (i = (↑s.size : Int) - (1 : Int))) = AV.b (decide (i = (0 : Int) ∨ i = (↑s.size : Int) - (1 : Int))))) cx [(1, { tell := some (.b (false)) }), (6, { tell := some (.i .i64 ((↑s.size : Int) - (1 : Int))) }), (7, { tell := some (.b (decide (i = (↑s.size : Int) - (1 : Int)))) }), (8, { tell := some (.b (decide (i = (0 : Int) ∨ i = (↑s.size : Int) - (1 : Int)))) })] [0, 1, 26] [] ⟨(told_false h_7), (told_i64 (by omega) (by omega)), (by kernel_rfl), (by simp only [eq_false h_7, told_simp1, told_simp2, and_true, true_and, and_false, false_and, or_true, true_or, or_false, false_or, not_true_eq_false, not_false_eq_true, decide_true, decide_false, Bool.decide_eq_true])⟩ ?_
  exact ⟨rfl, by kernel_rfl⟩
  refine sn ?_
  refine st_dec (i = (0 : Int) ∨ i = (↑s.size : Int) - (1 : Int)) (by kernel_rfl) (by kernel_rfl) (fun h_8 => ?_) (fun h_8 => ?_)
  refine sq ?_
  refine rg (A := True) cx [] [4] [] trivial ?_
  refine sn ?_
  refine st_ret (by kernel_rfl) ?_
  refine q_seq_ret ?_
  refine q_ret (r := .b (false)) (obl := []) (by kernel_rfl) trivial (AVle.eq (show AV.b false = AV.b (standsB s i.toNat) from ?g2)); rotate_left 1
  refine st_skip (by kernel_rfl) ?_
  refine sn ?_
  refine sq ?_
  have hl_9 := (rng_byt s (i - (1 : Int)).toNat)
  refine rg (A := (AV.i IntKind.i64 (IntKind.i64.wrap (i - (1 : Int))) = AV.i IntKind.i64 (i - (1 : Int))) ∧ ((0 : Int) ≤ i - (1 : Int)) ∧ (Option.map (fun b ↦ (↑b.toNat : Int)) s[(i - (1 : Int)).toNat]? = some (byt s (i - (1 : Int)).toNat)) ∧ _ ∧ ((AV.b !isMrk (byt s (i - (1 : Int)).toNat)) = AV.b (decide ¬isMrk (byt s (i - (1 : Int)).toNat) = true))) cx [(2, { tell := some (.i .i64 (i - (1 : Int))) }), (3, { val := some (.i .u8 (byt s (i - (1 : Int)).toNat)) }), (4, { val := some (.b (isMrk (byt s (i - (1 : Int)).toNat))) }), (5, { tell := some (.b (decide ¬isMrk (byt s (i - (1 : Int)).toNat) = true)) })] [4] [] ⟨(told_i64 (by omega) (by omega)), (by omega), (by (with_reducible refine get_byt ?_; omega)), (con121 (byt s (i - (1 : Int)).toNat)), (told_not)⟩ ?_
  refine sn ?_
  refine st_ret (by kernel_rfl) ?_
  refine q_ret (r := .b (decide ¬isMrk (byt s (i - (1 : Int)).toNat) = true)) (obl := []) (by kernel_rfl) trivial (AVle.eq (show AV.b (decide ¬isMrk (byt s (i - (1 : Int)).toNat) = true) = AV.b (standsB s i.toNat) from ?g3)); rotate_left 1
  revert h_4; rotate_left
  revert h_4 h_5; rotate_left
  revert h_4 h_5 h_8; rotate_left
  revert h_4 h_5 h_8; rotate_left
  case' g3 => refine (fun h k l => ?_)
  case' g2 => refine (fun h k l => ?_)
  case' g1 => refine (fun h k => ?_)
  case' g0 => refine (fun h => ?_)
  · rw [(stands_iff s i.toNat).2 (h.elim .inl fun h => .inr (.inl h))]
  · rw [not_stands]; rw [stands_iff]; rintro (a | a | a)
    · exact h (.inl a)
    · exact h (.inr a)
    · exact k a.1
  · rw [not_stands]; rw [stands_iff]; rintro (a | a | a)
    · exact h (.inl a)
    · exact h (.inr a)
    · omega
  · have e : (i - 1).toNat = i.toNat - 1 := by omega
    rw [e]
    by_cases m : isMrk (byt s (i.toNat - 1)) = true
    · rw [not_stands]
      · rw [m]; rfl
      · rw [stands_iff]; rintro (a | a | a)
        · exact h (.inl a)
        · exact h (.inr a)
        · exact a.2.2.2 m
    · rw [(stands_iff s i.toNat).2 (.inr (.inr ⟨Classical.not_not.1 k, by omega, by omega, m⟩)), decide_eq_true m]
theorem con70 (s : ByteArray) : Con Try.prog 70 [.s s] (.tup [.dead, .i .i64 (chkE s)]) :=
  by
  refine st_con tab_ok (by kernel_rfl) [.tmp 2, .tmp 3] 48 Go.Proofs.Try.func70 (by kernel_rfl) (by kernel_rfl) ?_
  intro e0 cx
  refine sq ?_
  refine rg (A := True) cx [] [0] [] trivial ?_
  refine sn ?_
  refine sq ?_
  refine sq ?_
  refine rg (A := (AV.b (s.toList == { data := #[] : ByteArray }.toList) = AV.b (decide (s = { data := #[] : ByteArray })))) cx [(1, { tell := some (.b (decide (s = { data := #[] : ByteArray }))) })] [0, 7] [] (told_seq) ?_
  refine sn ?_
  refine st_dec (s = { data := #[] : ByteArray }) (by kernel_rfl) (by kernel_rfl) (fun h_0 => ?_) (fun h_0 => ?_)
  refine sq ?_
  refine rg (A := True) cx [] [2, 3] [] trivial ?_
  refine sn ?_
  refine st_ret (by kernel_rfl) ?_
  refine q_seq_ret ?_
  refine q_ret (r := .tup [.i .i64 ((0 : Int)), .i .i64 ((20 : Int))]) (obl := []) (by kernel_rfl) trivial (AVle.tup (ZLe.cons AVle.dead (ZLe.cons (AVle.eq (show AV.i IntKind.i64 (20 : Int) = AV.i IntKind.i64 (chkE s) from ?g0)) ZLe.nil))); rotate_left 1
  refine st_skip (by kernel_rfl) ?_
  refine sn ?_
  refine sq ?_
  refine sq ?_
  refine rg (A := (AV.b (decide ((↑s.size : Int) > (24 : Int))) = AV.b (decide ((24 : Int) < (↑s.size : Int))))) cx [(2, { tell := some (.b (decide ((24 : Int) < (↑s.size : Int)))) })] [0, 10] [] (by kernel_rfl) ?_
  refine sn ?_
  refine st_dec ((24 : Int) < (↑s.size : Int)) (by kernel_rfl) (by kernel_rfl) (fun h_1 => ?_) (fun h_1 => ?_)
  refine sq ?_
  refine rg (A := True) cx [] [2, 3] [] trivial ?_
  refine sn ?_
  refine st_ret (by kernel_rfl) ?_
  refine q_seq_ret ?_
  refine q_ret (r := .tup [.i .i64 ((0 : Int)), .i .i64 ((21 : Int))]) (obl := []) (by kernel_rfl) trivial (AVle.tup (ZLe.cons AVle.dead (ZLe.cons (AVle.eq (show AV.i IntKind.i64 (21 : Int) = AV.i IntKind.i64 (chkE s) from ?g1)) ZLe.nil))); rotate_left 1
  refine st_skip (by kernel_rfl) ?_
  refine sn ?_
  refine sq ?_
  refine sq ?_
  refine rg (A := True) cx [] [0, 12, 13] [] trivial ?_
  refine sn ?_
  refine st_block 0 (by kernel_rfl) ?_
  refine st_loop (X := Int) (fun x => ⟨[(0, .s (s)), (12, .i .i64 ((↑s.size : Int))), (13, .i .i64 (x))], []⟩) (fun x ↦ decG s x) (fun x ↦ invG s x) [0, 12, 13] [] ((0 : Int)) (by kernel_rfl) (by kernel_rfl) (show invG s (0 : Int) from ?g2) ?_; rotate_left 1
  intro i_2 h_3
  obtain ⟨h_4, h_5, h_6⟩ : (0 : Int) ≤ i_2 ∧ i_2 ≤ (↑s.size : Int) ∧ ∀ (j : Nat), (↑j : Int) < i_2 → standsB s j = true := h_3
  refine sq ?_
  refine rg (A := (AV.b (decide (i_2 < (↑s.size : Int))) = AV.b (decide (i_2 < (↑s.size : Int))))) cx [(0, { tell := some (.b (decide (i_2 < (↑s.size : Int)))) })] [0, 12, 13, 14] [] (by kernel_rfl) ?_
  refine sn ?_
  refine sq ?_
  refine st_dec (i_2 < (↑s.size : Int)) (by kernel_rfl) (by kernel_rfl) (fun h_7 => ?_) (fun h_7 => ?_)
  refine st_skip (by kernel_rfl) ?_
  refine sn ?_
  refine sq ?_
  refine st_block 1 (by kernel_rfl) ?_
  refine sq ?_
  refine rg (A := True) cx [] [0, 12, 13, 4] [] trivial ?_
  refine sn ?_
  refine sq ?_
  have hl_8 := (rng_byt s)
  have hl_9 := (rng_byt s i_2.toNat)
  refine rg (A := ((0 : Int) ≤ i_2) ∧ (Option.map (fun b ↦ (↑b.toNat : Int)) s[i_2.toNat]? = some (byt s i_2.toNat))) cx [(2, { val := some (.i .u8 (byt s i_2.toNat)) })] [0, 12, 13, 4, 5] [] ⟨(by (with_reducible assumption)), (by (with_reducible refine get_byt ?_; omega))⟩ ?_
  refine sn ?_
  refine sq ?_
  refine sq ?_
  refine st_join (σ' := ⟨[(0, .s (s)), (12, .i .i64 ((↑s.size : Int))), (13, .i .i64 (i_2)), (4, .i .i64 (i_2)), (5, .i .u8 (byt s i_2.toNat)), (24, .b (decide (isLet (byt s i_2.toNat) = true ∨ isDig (byt s i_2.toNat) = true)))], []⟩) ?_ ?_
  refine st_split (isLet (byt s i_2.toNat) = true) (fun h_11 => ?_) (fun h_11 => ?_)
  refine rg (A := _ ∧ _ ∧ (AV.b true = AV.b (decide (isLet (byt s i_2.toNat) = true ∨ isDig (byt s i_2.toNat) = true)))) cx [(1, { val := some (.b (isLet (byt s i_2.toNat))), tell := some (.b (true)) }), (5, { tell := some (.b (decide (isLet (byt s i_2.toNat) = true ∨ isDig (byt s i_2.toNat) = true))) })] [0, 12, 13, 4, 5, 24] [] ⟨(told_eqt h_11), (con89 (byt s i_2.toNat)), (by simp only [eq_true h_11, told_simp1, told_simp2, and_true, true_and, and_false, false_and, or_true, true_or, or_false, false_or, not_true_eq_false, not_false_eq_true, decide_true, decide_false, Bool.decide_eq_true])⟩ ?_
  exact ⟨rfl, by kernel_rfl⟩
  refine rg (A := (AV.b (isLet (byt s i_2.toNat)) = AV.b false) ∧ _ ∧ _ ∧ (AV.b (isDig (byt s i_2.toNat)) = AV.b (decide (isLet (byt s i_2.toNat) = true ∨ isDig (byt s i_2.toNat) = true)))) cx [(1, { val := some (.b (isLet (byt s i_2.toNat))), tell := some (.b (false)) }), (4, { val := some (.b (isDig (byt s i_2.toNat))) }), (5, { tell := some (.b (decide (isLet (byt s i_2.toNat) = true ∨ isDig (byt s i_2.toNat) = true))) })] [0, 12, 13, 4, 5, 24] [] ⟨(told_eqn h_11), (con89 (byt s i_2.toNat)), (con90 (byt s i_2.toNat)), (by simp only [eq_false h_11, told_simp1, told_simp2, and_true, true_and, and_false, false_and, or_true, true_or, or_false, false_or, not_true_eq_false, not_false_eq_true, decide_true, decide_false, Bool.decide_eq_true])⟩ ?_
  exact ⟨rfl, by kernel_rfl⟩
  refine sn ?_
  refine st_dec (isLet (byt s i_2.toNat) = true ∨ isDig (byt s i_2.toNat) = true) (by kernel_rfl) (by kernel_rfl) (fun h_12 => ?_) (fun h_12 => ?_)
  refine st_exit 1 (by kernel_rfl) ?_
  refine q_seq_exit ?_
  refine q_blk_hit ?_
  refine sn ?_
  refine rg (A := (AV.i IntKind.i64 (IntKind.i64.wrap (i_2 + (1 : Int))) = AV.i IntKind.i64 (i_2 + (1 : Int)))) cx [(0, { tell := some (.i .i64 (i_2 + (1 : Int))) })] [0, 12, 13] [] (told_i64 (by omega) (by omega)) ?_
  refine sn ?_
  refine loop_next (i_2 + (1 : Int)) (by kernel_rfl) (show ((↑s.size : Int) - (i_2 + (1 : Int))).toNat < ((↑s.size : Int) - i_2).toNat from (by omega)) (show invG s (i_2 + (1 : Int)) from ?g3); rotate_left 1
  refine st_skip (by kernel_rfl) ?_
  refine sn ?_
  refine sq ?_
  refine st_join (σ' := ⟨[(0, .s (s)), (12, .i .i64 ((↑s.size : Int))), (13, .i .i64 (i_2)), (4, .i .i64 (i_2)), (45, .b (decide (¬isMrk (byt s i_2.toNat) = true ∨ i_2 = (0 : Int) ∨ i_2 = (↑s.size : Int) - (1 : Int) ∨ isMrk (byt s (i_2 - (1 : Int)).toNat) = true)))], []⟩) ?_ ?_
  refine st_split (¬isMrk (byt s i_2.toNat) = true) (fun h_14 => ?_) (fun h_14 => ?_)
  have hl_15 := (rng_byt s (i_2 - (1 : Int)).toNat)
  refine rg (A := (AV.b (isMrk (byt s i_2.toNat)) = AV.b false) ∧ _ ∧ (AV.b true = AV.b (decide (¬isMrk (byt s i_2.toNat) = true ∨ i_2 = (0 : Int) ∨ i_2 = (↑s.size : Int) - (1 : Int) ∨ isMrk (byt s (i_2 - (1 : Int)).toNat) = true)))) cx [(1, { val := some (.b (isMrk (byt s i_2.toNat))), tell := some (.b (false)) }), (20, { tell := some (.b (decide (¬isMrk (byt s i_2.toNat) = true ∨ i_2 = (0 : Int) ∨ i_2 = (↑s.size : Int) - (1 : Int) ∨ isMrk (byt s (i_2 - (1 : Int)).toNat) = true))) })] [0, 12, 13, 4, 45] [] ⟨(told_eqn h_14), (con91 (byt s i_2.toNat)), (by simp only [eq_false h_14, told_simp1, told_simp2, and_true, true_and, and_false, false_and, or_true, true_or, or_false, false_or, not_true_eq_false, not_false_eq_true, decide_true, decide_false, Bool.decide_eq_true])⟩ ?_
  exact ⟨rfl, by kernel_rfl⟩
  refine st_split (i_2 = (0 : Int)) (fun h_16 => ?_) (fun h_16 => ?_)
  have hl_17 := (rng_byt s (i_2 - (1 : Int)).toNat)
  refine rg (A := _ ∧ ((AV.b !isMrk (byt s i_2.toNat)) = AV.b (decide ¬isMrk (byt s i_2.toNat) = true)) ∧ _ ∧ _ ∧ (AV.b true = AV.b (decide (¬isMrk (byt s i_2.toNat) = true ∨ i_2 = (0 : Int) ∨ i_2 = (↑s.size : Int) - (1 : Int) ∨ isMrk (byt s (i_2 - (1 : Int)).toNat) = true)))) cx [(1, { val := some (.b (isMrk (byt s i_2.toNat))) }), (2, { tell := some (.b (decide ¬isMrk (byt s i_2.toNat) = true)) }), (3, { tell := some (.b (false)) }), (5, { tell := some (.b (true)) }), (20, { tell := some (.b (decide (¬isMrk (byt s i_2.toNat) = true ∨ i_2 = (0 : Int) ∨ i_2 = (↑s.size : Int) - (1 : Int) ∨ isMrk (byt s (i_2 - (1 : Int)).toNat) = true))) })] [0, 12, 13, 4, 45] [] ⟨(con91 (byt s i_2.toNat)), (told_not), (told_false h_14), (told_true h_16), (by simp only [eq_false h_14, eq_true h_16, told_simp1, told_simp2, and_true, true_and, and_false, false_and, or_true, true_or, or_false, false_or, not_true_eq_false, not_false_eq_true, decide_true, decide_false, Bool.decide_eq_true])⟩ ?_
  exact ⟨rfl, by kernel_rfl⟩
  refine st_split (i_2 = (↑s.size : Int) - (1 : Int)) (fun h_18 => ?_) (fun h_18 => ?_)
  have hl_19 := (rng_byt s (i_2 - (1 : Int)).toNat)
  refine rg (A := _ ∧ ((AV.b !isMrk (byt s i_2.toNat)) = AV.b (decide ¬isMrk (byt s i_2.toNat) = true)) ∧ _ ∧ _ ∧ (AV.i IntKind.i64 (IntKind.i64.wrap ((↑s.size : Int) - (1 : Int))) = AV.i IntKind.i64 ((↑s.size : Int) - (1 : Int))) ∧ _ ∧ (AV.b true = AV.b (decide (¬isMrk (byt s i_2.toNat) = true ∨ i_2 = (0 : Int) ∨ i_2 = (↑s.size : Int) - (1 : Int) ∨ isMrk (byt s (i_2 - (1 : Int)).toNat) = true)))) cx [(1, { val := some (.b (isMrk (byt s i_2.toNat))) }), (2, { tell := some (.b (decide ¬isMrk (byt s i_2.toNat) = true)) }), (3, { tell := some (.b (false)) }), (5, { tell := some (.b (false)) }), (11, { tell := some (.i .i64 ((↑s.size : Int) - (1 : Int))) }), (12, { tell := some (.b (true)) }), (20, { tell := some (.b (decide (¬isMrk (byt s i_2.toNat) = true ∨ i_2 = (0 : Int) ∨ i_2 = (↑s.size : Int) - (1 : Int) ∨ isMrk (byt s (i_2 - (1 : Int)).toNat) = true))) })] [0, 12, 13, 4, 45] [] ⟨(con91 (byt s i_2.toNat)), (told_not), (told_false h_14), (told_false h_16), (told_i64 (by omega) (by omega)), (told_true h_18), (by simp only [eq_false h_14, eq_false h_16, eq_true h_18, told_simp1, told_simp2, and_true, true_and, and_false, false_and, or_true, true_or, or_false, false_or, not_true_eq_false, not_false_eq_true, decide_true, decide_false, Bool.decide_eq_true])⟩ ?_
  exact ⟨rfl, by kernel_rfl⟩
  have hl_20 := (rng_byt s (i_2 - (1 : Int)).toNat)
  refine rg (A := _ ∧ ((AV.b !isMrk (byt s i_2.toNat)) = AV.b (decide ¬isMrk (byt s i_2.toNat) = true)) ∧ _ ∧ _ ∧ (AV.i IntKind.i64 (IntKind.i64.wrap ((↑s.size : Int) - (1 : Int))) = AV.i IntKind.i64 ((↑s.size : Int) - (1 : Int))) ∧ _ ∧ (AV.i IntKind.i64 (IntKind.i64.wrap (i_2 - (1 : Int))) = AV.i IntKind.i64 (i_2 - (1 : Int))) ∧ ((0 : Int) ≤ i_2 - (1 : Int)) ∧ (Option.map (fun b ↦ (↑b.toNat : Int)) s[(i_2 - (1 : Int)).toNat]? = some (byt s (i_2 - (1 : Int)).toNat)) ∧ _ ∧ (AV.b (isMrk (byt s (i_2 - (1 : Int)).toNat)) = AV.b (decide (¬isMrk (byt s i_2.toNat) = true ∨ i_2 = (0 : Int) ∨ i_2 = (↑s.size : Int) - (1 : Int) ∨ isMrk (byt s (i_2 - (1 : Int)).toNat) = true)))) cx [(1, { val := some (.b (isMrk (byt s i_2.toNat))) }), (2, { tell := some (.b (decide ¬isMrk (byt s i_2.toNat) = true)) }), (3, { tell := some (.b (false)) }), (5, { tell := some (.b (false)) }), (11, { tell := some (.i .i64 ((↑s.size : Int) - (1 : Int))) }), (12, { tell := some (.b (false)) }), (17, { tell := some (.i .i64 (i_2 - (1 : Int))) }), (18, { val := some (.i .u8 (byt s (i_2 - (1 : Int)).toNat)) }), (19, { val := some (.b (isMrk (byt s (i_2 - (1 : Int)).toNat))) }), (20, { tell := some (.b (decide (¬isMrk (byt s i_2.toNat) = true ∨ i_2 = (0 : Int) ∨ i_2 = (↑s.size : Int) - (1 : Int) ∨ isMrk (byt s (i_2 - (1 : Int)).toNat) = true))) })] [0, 12, 13, 4, 45] [] ⟨(con91 (byt s i_2.toNat)), (told_not), (told_false h_14), (told_false h_16), (told_i64 (by omega) (by omega)), (told_false h_18), (told_i64 (by omega) (by omega)), (by omega), (by (with_reducible refine get_byt ?_; omega)), (con91 (byt s (i_2 - (1 : Int)).toNat)), (by simp only [eq_false h_14, eq_false h_16, eq_false h_18, told_simp1, told_simp2, and_true, true_and, and_false, false_and, or_true, true_or, or_false, false_or, not_true_eq_false, not_false_eq_true, decide_true, decide_false, Bool.decide_eq_true])⟩ ?_
  exact ⟨rfl, by kernel_rfl⟩
  refine sn ?_
  refine st_dec (¬isMrk (byt s i_2.toNat) = true ∨ i_2 = (0 : Int) ∨ i_2 = (↑s.size : Int) - (1 : Int) ∨ isMrk (byt s (i_2 - (1 : Int)).toNat) = true) (by kernel_rfl) (by kernel_rfl) (fun h_21 => ?_) (fun h_21 => ?_)
  refine sq ?_
  refine rg (A := True) cx [] [2, 3] [] trivial ?_
  refine sn ?_
  refine st_ret (by kernel_rfl) ?_
  refine q_blk_ret ?_
  refine q_seq_ret ?_
  refine q_seq_ret ?_
  refine q_blk_ret ?_
  refine q_seq_ret ?_
  refine q_ret (r := .tup [.i .i64 (i_2), .i .i64 ((22 : Int))]) (obl := []) (by kernel_rfl) trivial (AVle.tup (ZLe.cons AVle.dead (ZLe.cons (AVle.eq (show AV.i IntKind.i64 (22 : Int) = AV.i IntKind.i64 (chkE s) from ?g4)) ZLe.nil))); rotate_left 1
  refine st_skip (by kernel_rfl) ?_
  refine q_blk_normal ?_
  refine sn ?_
  refine rg (A := (AV.i IntKind.i64 (IntKind.i64.wrap (i_2 + (1 : Int))) = AV.i IntKind.i64 (i_2 + (1 : Int)))) cx [(0, { tell := some (.i .i64 (i_2 + (1 : Int))) })] [0, 12, 13] [] (told_i64 (by omega) (by omega)) ?_
  refine sn ?_
  refine loop_next (i_2 + (1 : Int)) (by kernel_rfl) (show ((↑s.size : Int) - (i_2 + (1 : Int))).toNat < ((↑s.size : Int) - i_2).toNat from (by omega)) (show invG s (i_2 + (1 : Int)) from ?g5); rotate_left 1
  refine st_exit 0 (by kernel_rfl) ?_
  refine q_seq_exit ?_
  refine q_seq_exit ?_
  refine q_blk_hit ?_
  refine sn ?_
  refine sq ?_
  refine rg (A := True) cx [] [2, 3] [] trivial ?_
  refine sn ?_
  refine st_ret (by kernel_rfl) ?_
  refine q_ret (r := .tup [.i .i64 ((0 : Int)), .i .i64 ((0 : Int))]) (obl := []) (by kernel_rfl) trivial (AVle.tup (ZLe.cons AVle.dead (ZLe.cons (AVle.eq (show AV.i IntKind.i64 (0 : Int) = AV.i IntKind.i64 (chkE s) from ?g6)) ZLe.nil))); rotate_left 1
  revert h_0; rotate_left
  revert h_0 h_1; rotate_left
  revert h_0 h_1; rotate_left
  clear hl_9; revert h_0 h_1 i_2 h_4 h_5 h_6 h_7 h_12; rotate_left
  clear hl_9; revert h_0 h_1 i_2 h_4 h_5 h_6 h_7 h_12 h_21; rotate_left
  clear hl_9; revert h_0 h_1 i_2 h_4 h_5 h_6 h_7 h_12 h_21; rotate_left
  revert h_0 h_1 i_2 h_4 h_5 h_6 h_7; rotate_left
  case g2 => exact (fun h k => ⟨by omega, by omega, fun j hj => by omega⟩)
  case' g6 => refine (fun h k i h0 h1 h2 h3 => ?_)
  case' g5 => refine (fun h k i h0 h1 h2 h3 h4 h5 => ?_)
  case' g4 => refine (fun h k i h0 h1 h2 h3 h4 h5 => ?_)
  case' g3 => refine (fun h k i h0 h1 h2 h3 h4 => ?_)
  case' g1 => refine (fun h k => ?_)
  case' g0 => refine (fun h => ?_)
  · rw [chkE, if_pos ((size_zero s).2 h)]
  · rw [chkE, if_neg (fun e => h ((size_zero s).1 e)), if_pos (by omega)]
  · exact invG_step h0 h3 h2 ((stands_iff _ _).2 (h4.elim .inl fun h => .inr (.inl h)))
  · rw [chkE_bad (fun e => h ((size_zero s).1 e)) (by omega) (i := i.toNat) (by omega) (not_stands _)]
    have e : (i - 1).toNat = i.toNat - 1 := by omega
    rw [e] at h5
    rw [stands_iff]; rintro (a | a | a)
    · exact h4 (.inl a)
    · exact h4 (.inr a)
    · rcases h5 with h5 | h5 | h5 | h5
      · exact h5 a.1
      · omega
      · omega
      · exact a.2.2.2 h5
  · have e : (i - 1).toNat = i.toNat - 1 := by omega
    rw [e] at h5
    refine invG_step h0 h3 h2 ((stands_iff _ _).2 (.inr (.inr ⟨Classical.byContradiction fun a => h5 (.inl a), ?_, ?_, fun a => h5 (.inr (.inr (.inr a)))⟩)))
    · intro a; exact h5 (.inr (.inl (by omega)))
    · intro a; exact h5 (.inr (.inr (.inl (by omega))))
  · rw [chkE_ok (fun e => h ((size_zero s).1 e)) (by omega) fun j hj => h2 j (by omega)]
theorem con71 (s : ByteArray) : Con Try.prog 71 [.s s] (.tup [.dead, .i .i64 (chkE s)]) :=
  by
  refine st_con tab_ok (by kernel_rfl) [.tmp 2, .tmp 3] 22 Go.Proofs.Try.func71 (by kernel_rfl) (by kernel_rfl) ?_
  intro e0 cx
  refine sq ?_
  refine rg (A := True) cx [] [0] [] trivial ?_
  refine sn ?_
  refine sq ?_
  refine sq ?_
  refine rg (A := (AV.b ((↑s.size : Int) == (0 : Int)) = AV.b (decide ((↑s.size : Int) = (0 : Int))))) cx [(2, { tell := some (.b (decide ((↑s.size : Int) = (0 : Int)))) })] [0, 7] [] (by kernel_rfl) ?_
  refine sn ?_
  refine st_dec ((↑s.size : Int) = (0 : Int)) (by kernel_rfl) (by kernel_rfl) (fun h_0 => ?_) (fun h_0 => ?_)
  refine sq ?_
  refine rg (A := True) cx [] [2, 3] [] trivial ?_
  refine sn ?_
  refine st_ret (by kernel_rfl) ?_
  refine q_seq_ret ?_
  refine q_ret (r := .tup [.i .i64 ((0 : Int)), .i .i64 ((20 : Int))]) (obl := []) (by kernel_rfl) trivial (AVle.tup (ZLe.cons AVle.dead (ZLe.cons (AVle.eq (show AV.i IntKind.i64 (20 : Int) = AV.i IntKind.i64 (chkE s) from ?g0)) ZLe.nil))); rotate_left 1
  refine st_skip (by kernel_rfl) ?_
  refine sn ?_
  refine sq ?_
  refine sq ?_
  refine rg (A := (AV.b (decide ((↑s.size : Int) > (24 : Int))) = AV.b (decide ((24 : Int) < (↑s.size : Int))))) cx [(2, { tell := some (.b (decide ((24 : Int) < (↑s.size : Int)))) })] [0, 10] [] (by kernel_rfl) ?_
  refine sn ?_
  refine st_dec ((24 : Int) < (↑s.size : Int)) (by kernel_rfl) (by kernel_rfl) (fun h_1 => ?_) (fun h_1 => ?_)
  refine sq ?_
  refine rg (A := True) cx [] [2, 3] [] trivial ?_
  refine sn ?_
  refine st_ret (by kernel_rfl) ?_
  refine q_seq_ret ?_
  refine q_ret (r := .tup [.i .i64 ((0 : Int)), .i .i64 ((21 : Int))]) (obl := []) (by kernel_rfl) trivial (AVle.tup (ZLe.cons AVle.dead (ZLe.cons (AVle.eq (show AV.i IntKind.i64 (21 : Int) = AV.i IntKind.i64 (chkE s) from ?g1)) ZLe.nil))); rotate_left 1
  refine st_skip (by kernel_rfl) ?_
  refine sn ?_
  refine sq ?_
  refine sq ?_
  refine rg (A := True) cx [] [0, 4] [] trivial ?_
  refine sn ?_
  refine st_block 0 (by kernel_rfl) ?_
  refine st_loop (X := Int) (fun x => ⟨[(0, .s (s)), (4, .i .i64 (x))], []⟩) (fun x ↦ decG s x) (fun x ↦ invG s x) [0, 4] [] ((0 : Int)) (by kernel_rfl) (by kernel_rfl) (show invG s (0 : Int) from ?g2) ?_; rotate_left 1
  intro i_2 h_3
  obtain ⟨h_4, h_5, h_6⟩ : (0 : Int) ≤ i_2 ∧ i_2 ≤ (↑s.size : Int) ∧ ∀ (j : Nat), (↑j : Int) < i_2 → standsB s j = true := h_3
  refine sq ?_
  refine sq ?_
  refine rg (A := (AV.b (decide (i_2 < (↑s.size : Int))) = AV.b (decide (i_2 < (↑s.size : Int))))) cx [(3, { tell := some (.b (decide (i_2 < (↑s.size : Int)))) })] [0, 4, 14] [] (by kernel_rfl) ?_
  refine sn ?_
  refine st_dec (i_2 < (↑s.size : Int)) (by kernel_rfl) (by kernel_rfl) (fun h_7 => ?_) (fun h_7 => ?_)
  refine st_skip (by kernel_rfl) ?_
  refine sn ?_
  refine sq ?_
  refine st_block 1 (by kernel_rfl) ?_
  refine sq ?_
  refine rg (A := _ ∧ ((AV.b !standsB s i_2.toNat) = AV.b (decide ¬standsB s i_2.toNat = true))) cx [(2, { val := some (.b (standsB s i_2.toNat)) }), (3, { tell := some (.b (decide ¬standsB s i_2.toNat = true)) })] [0, 4, 20] [] ⟨(con92 (s) (i_2) (by (with_reducible assumption)) (by (with_reducible assumption)) (by omega)), (told_not)⟩ ?_
  refine sn ?_
  refine st_dec (¬standsB s i_2.toNat = true) (by kernel_rfl) (by kernel_rfl) (fun h_8 => ?_) (fun h_8 => ?_)
  refine sq ?_
  refine rg (A := True) cx [] [2, 3] [] trivial ?_
  refine sn ?_
  refine st_ret (by kernel_rfl) ?_
  refine q_blk_ret ?_
  refine q_seq_ret ?_
  refine q_seq_ret ?_
  refine q_blk_ret ?_
  refine q_seq_ret ?_
  refine q_ret (r := .tup [.i .i64 (i_2), .i .i64 ((22 : Int))]) (obl := []) (by kernel_rfl) trivial (AVle.tup (ZLe.cons AVle.dead (ZLe.cons (AVle.eq (show AV.i IntKind.i64 (22 : Int) = AV.i IntKind.i64 (chkE s) from ?g3)) ZLe.nil))); rotate_left 1
  refine st_skip (by kernel_rfl) ?_
  refine q_blk_normal ?_
  refine sn ?_
  refine rg (A := (AV.i IntKind.i64 (IntKind.i64.wrap (i_2 + (1 : Int))) = AV.i IntKind.i64 (i_2 + (1 : Int)))) cx [(1, { tell := some (.i .i64 (i_2 + (1 : Int))) })] [0, 4] [] (told_i64 (by omega) (by omega)) ?_
  refine sn ?_
  refine loop_next (i_2 + (1 : Int)) (by kernel_rfl) (show ((↑s.size : Int) - (i_2 + (1 : Int))).toNat < ((↑s.size : Int) - i_2).toNat from (by omega)) (show invG s (i_2 + (1 : Int)) from ?g4); rotate_left 1
  refine st_exit 0 (by kernel_rfl) ?_
  refine q_seq_exit ?_
  refine q_seq_exit ?_
  refine q_blk_hit ?_
  refine sn ?_
  refine sq ?_
  refine rg (A := True) cx [] [2, 3] [] trivial ?_
  refine sn ?_
  refine st_ret (by kernel_rfl) ?_
  refine q_ret (r := .tup [.i .i64 ((0 : Int)), .i .i64 ((0 : Int))]) (obl := []) (by kernel_rfl) trivial (AVle.tup (ZLe.cons AVle.dead (ZLe.cons (AVle.eq (show AV.i IntKind.i64 (0 : Int) = AV.i IntKind.i64 (chkE s) from ?g5)) ZLe.nil))); rotate_left 1
  revert h_0; rotate_left
  revert h_0 h_1; rotate_left
  revert h_0 h_1; rotate_left
  revert h_0 h_1 i_2 h_4 h_5 h_6 h_7 h_8; rotate_left
  revert h_0 h_1 i_2 h_4 h_5 h_6 h_7 h_8; rotate_left
  revert h_0 h_1 i_2 h_4 h_5 h_6 h_7; rotate_left
  case g2 => exact (fun h k => ⟨by omega, by omega, fun j hj => by omega⟩)
  case' g5 => refine (fun h k i h0 h1 h2 h3 => ?_)
  case' g4 => refine (fun h k i h0 h1 h2 h3 h4 => ?_)
  case' g3 => refine (fun h k i h0 h1 h2 h3 h4 => ?_)
  case' g1 => refine (fun h k => ?_)
  case' g0 => refine (fun h => ?_)
  · rw [chkE, if_pos (by omega)]
  · rw [chkE, if_neg (by omega), if_pos (by omega)]
  · rw [chkE_bad (by omega) (by omega) (i := i.toNat) (by omega) (not_stands h4)]
  · exact invG_step h0 h3 h2 (Classical.not_not.1 h4)
  · rw [chkE_ok (by omega) (by omega) fun j hj => h2 j (by omega)]
theorem con47 (s : ByteArray) : Con Try.prog 47 [.s s] (.b (good s)) :=
  by
  refine st_con tab_ok (by kernel_rfl) [.tmp 2] 12 Go.Proofs.Try.func47 (by kernel_rfl) (by kernel_rfl) ?_
  intro e0 cx
  refine sq ?_
  refine rg (A := True) cx [] [0] [] trivial ?_
  refine sn ?_
  refine sq ?_
  refine rg (A := _) cx [(1, { val := some (resC (con70 (s))) })] [4] [] (con70 (s)) ?_
  refine sn ?_
  refine sq ?_
  refine rg (A := (AV.b (chkE s == (0 : Int)) = AV.b (decide (chkE s = (0 : Int))))) cx [(1, { tell := some (.b (decide (chkE s = (0 : Int)))) })] [2] [] (by kernel_rfl) ?_
  refine sn ?_
  refine st_ret (by kernel_rfl) ?_
  refine q_ret (r := .b (decide (chkE s = (0 : Int)))) (obl := []) (by kernel_rfl) trivial (AVle.eq (show AV.b (decide (chkE s = (0 : Int))) = AV.b (good s) from ?g0)); rotate_left 1
  case g0 => exact rfl
theorem con50 (s : ByteArray) : Con Try.prog 50 [.s s] (.b (good s)) :=
  by
  refine st_con tab_ok (by kernel_rfl) [.tmp 2] 12 Go.Proofs.Try.func50 (by kernel_rfl) (by kernel_rfl) ?_
  intro e0 cx
  refine sq ?_
  refine rg (A := True) cx [] [0] [] trivial ?_
  refine sn ?_
  refine sq ?_
  refine rg (A := _) cx [(1, { val := some (resC (con71 (s))) })] [4] [] (con71 (s)) ?_
  refine sn ?_
  refine sq ?_
  refine rg (A := (AV.b (chkE s == (0 : Int)) = AV.b (decide (chkE s = (0 : Int))))) cx [(1, { tell := some (.b (decide (chkE s = (0 : Int)))) })] [2] [] (by kernel_rfl) ?_
  refine sn ?_
  refine st_ret (by kernel_rfl) ?_
  refine q_ret (r := .b (decide (chkE s = (0 : Int)))) (obl := []) (by kernel_rfl) trivial (AVle.eq (show AV.b (decide (chkE s = (0 : Int))) = AV.b (good s) from ?g0)); rotate_left 1
  case g0 => exact rfl
end Go.Proofs.Ytjngmlkaijpbgaa
namespace Go.E
open Go.Sort
variable {α : Type} [Inhabited α]
/-- Where what lies at k comes from, behind a swap of the runs of n at a and at b. -/
def swIx (a b n k : Nat) : Nat := if a ≤ k ∧ k < a + n then k - a + b else if b ≤ k ∧ k < b + n then k - b + a else k
/-- .. and behind a turn of [a, m) and [m, b). -/
def rotIx (a m b k : Nat) : Nat := if a ≤ k ∧ k < a + (b - m) then k - a + m else if a + (b - m) ≤ k ∧ k < b then k - (b - m) else k
theorem swIx_zero (a b k : Nat) : swIx a b 0 k = k := by unfold swIx; rw [if_neg (by omega), if_neg (by omega)]
theorem sw_step {d dk : Array α} {a b n : Nat} (hab : a + (n + 1) ≤ b) (hb : b + (n + 1) ≤ d.size) (hs : dk.size = d.size) (h : ∀ k, dk[k]! = d[swIx a b n k]!) :
    ∀ k, (swp dk (a + n) (b + n))[k]! = d[swIx a b (n + 1) k]! := by
  intro k
  rw [swp_get dk (by omega) (by omega), h, h, h]
  by_cases e1 : k = b + n
  · rw [if_pos e1]
    congr 1
    unfold swIx
    rw [if_neg (by omega), if_neg (by omega), if_neg (by omega), if_pos (by omega)]; omega
  · rw [if_neg e1]
    by_cases e2 : k = a + n
    · rw [if_pos e2]
      congr 1
      unfold swIx
      rw [if_neg (by omega), if_neg (by omega), if_pos (by omega)]; omega
    · rw [if_neg e2]
      congr 1
      unfold swIx
      by_cases h1 : a ≤ k ∧ k < a + n
      · rw [if_pos h1, if_pos (by omega)]
      · rw [if_neg h1, if_neg (show ¬ (a ≤ k ∧ k < a + (n + 1)) by omega)]
        by_cases h2 : b ≤ k ∧ k < b + n
        · rw [if_pos h2, if_pos (by omega)]
        · rw [if_neg h2, if_neg (by omega)]
/-- The left run is longer: its head and the right run change places. -/
theorem rot_left {m i j k : Nat} (hi : i ≤ m) (hj : 0 < j) (h : j < i) : swIx (m - i) m j (rotIx (m - (i - j)) m (m + j) k) = rotIx (m - i) m (m + j) k := by
  unfold rotIx
  by_cases c1 : m - i ≤ k ∧ k < m - i + j
  · rw [if_neg (by omega), if_neg (by omega), if_pos (by omega)]
    unfold swIx; rw [if_pos (by omega)]
  · by_cases c2 : m - (i - j) ≤ k ∧ k < m - (i - j) + j
    · rw [if_pos (by omega), if_neg (by omega), if_pos (by omega)]
      unfold swIx; rw [if_neg (by omega), if_pos (by omega)]; omega
    · by_cases c3 : m - (i - j) + j ≤ k ∧ k < m + j
      · rw [if_neg (by omega), if_pos (by omega), if_neg (by omega), if_pos (by omega)]
        unfold swIx; rw [if_neg (by omega), if_neg (by omega)]
      · rw [if_neg (by omega), if_neg (by omega), if_neg (by omega), if_neg (by omega)]
        unfold swIx; rw [if_neg (by omega), if_neg (by omega)]
/-- The right run is longer: the left run and its tail change places. -/
theorem rot_right {m i j k : Nat} (hi : i ≤ m) (h0 : 0 < i) (h : i < j) : swIx (m - i) (m + j - i) i (rotIx (m - i) m (m + (j - i)) k) = rotIx (m - i) m (m + j) k := by
  unfold rotIx
  by_cases c1 : m - i ≤ k ∧ k < m - i + (j - i)
  · rw [if_pos (by omega), if_pos (by omega)]
    unfold swIx; rw [if_neg (by omega)]
    by_cases c : m + j - i ≤ k - (m - i) + m
    · omega
    · rw [if_neg (by omega)]
  · by_cases c2 : m - i + (j - i) ≤ k ∧ k < m + (j - i)
    · rw [if_neg (by omega), if_pos (by omega), if_pos (by omega)]
      unfold swIx; rw [if_pos (by omega)]; omega
    · by_cases c3 : m + (j - i) ≤ k ∧ k < m + j
      · rw [if_neg (by omega), if_neg (by omega), if_neg (by omega), if_pos (by omega)]
        unfold swIx; rw [if_neg (by omega), if_pos (by omega)]; omega
      · rw [if_neg (by omega), if_neg (by omega), if_neg (by omega), if_neg (by omega)]
        unfold swIx; rw [if_neg (by omega), if_neg (by omega)]
/-- Runs of one length: the turn is the swap. -/
theorem rot_same {m i k : Nat} (hi : i ≤ m) : swIx (m - i) m i k = rotIx (m - i) m (m + i) k := by
  unfold swIx rotIx
  by_cases c1 : m - i ≤ k ∧ k < m - i + i
  · rw [if_pos c1, if_pos (show m - i ≤ k ∧ k < m - i + (m + i - m) by omega)]
  · rw [if_neg c1]
    by_cases c2 : m ≤ k ∧ k < m + i
    · rw [if_pos c2, if_neg (show ¬ (m - i ≤ k ∧ k < m - i + (m + i - m)) by omega), if_pos (show m - i + (m + i - m) ≤ k ∧ k < m + i by omega)]; omega
    · rw [if_neg c2, if_neg (show ¬ (m - i ≤ k ∧ k < m - i + (m + i - m)) by omega), if_neg (show ¬ (m - i + (m + i - m) ≤ k ∧ k < m + i) by omega)]
theorem rotIx_one (a k : Nat) : rotIx a (a + 1) (a + 1) k = k := by unfold rotIx; rw [if_neg (by omega)]; split <;> omega
/-- The element at a wanders up by one place. -/
theorem up_step {d dk : Array α} {a c : Nat} (hac : a ≤ c) (hb : c + 1 < d.size) (hs : dk.size = d.size) (h : ∀ k, dk[k]! = d[rotIx a (a + 1) (c + 1) k]!) :
    ∀ k, (swp dk c (c + 1))[k]! = d[rotIx a (a + 1) (c + 2) k]! := by
  intro k
  rw [swp_get dk (by omega) (by omega), h, h, h]
  unfold rotIx
  by_cases e1 : k = c + 1
  · rw [if_pos e1]; congr 1
    rw [if_neg (by omega), if_pos (by omega), if_neg (by omega), if_pos (by omega)]; omega
  · rw [if_neg e1]
    by_cases e2 : k = c
    · rw [if_pos e2]; congr 1
      rw [if_neg (by omega), if_neg (by omega), if_pos (by omega)]; omega
    · rw [if_neg e2]; congr 1
      by_cases h1 : a ≤ k ∧ k < a + (c + 1 - (a + 1))
      · rw [if_pos h1, if_pos (by omega)]
      · rw [if_neg h1, if_neg (show ¬ (a ≤ k ∧ k < a + (c + 2 - (a + 1))) by omega), if_neg (by omega), if_neg (by omega)]
/-- The element at m wanders down by one place: it lies at c + 1 and comes to c. -/
theorem down_step {d dk : Array α} {c m : Nat} (hcm : c + 1 ≤ m) (hb : m < d.size) (hs : dk.size = d.size) (h : ∀ k, dk[k]! = d[rotIx (c + 1) m (m + 1) k]!) :
    ∀ k, (swp dk (c + 1) c)[k]! = d[rotIx c m (m + 1) k]! := by
  intro k
  rw [swp_get dk (by omega) (by omega), h, h, h]
  unfold rotIx
  by_cases e1 : k = c
  · rw [if_pos e1]; congr 1
    rw [if_pos (by omega), if_pos (by omega)]; omega
  · rw [if_neg e1]
    by_cases e2 : k = c + 1
    · rw [if_pos e2]; congr 1
      rw [if_neg (by omega), if_neg (by omega), if_neg (by omega), if_pos (by omega)]; omega
    · rw [if_neg e2]; congr 1
      by_cases h1 : c + 1 + (m + 1 - m) ≤ k ∧ k < m + 1
      · rw [if_neg (by omega), if_pos h1, if_neg (by omega), if_pos (by omega)]
      · rw [if_neg (by omega), if_neg h1, if_neg (by omega), if_neg (by omega)]
theorem rotIx_end (m k : Nat) : rotIx m m (m + 1) k = k := by unfold rotIx; split <;> (try split) <;> omega
variable {lt : α → α → Bool}
/-- One element ahead of a sorted run, put where it belongs. -/
theorem merge_one_left (hO : SWO lt) {d d' : Array α} {a i b : Nat} (hs : SortedIn lt (a + 1) b d) (h1 : a + 1 ≤ i) (h2 : i ≤ b) (hl : ∀ h, a + 1 ≤ h → h < i → lt d[h]! d[a]! = true) (hr : ∀ h, i ≤ h → h < b → lt d[h]! d[a]! = false)
    (hd : ∀ k, d'[k]! = d[rotIx a (a + 1) i k]!) : SortedIn lt a b d' := by
  intro p q hp hpq hq
  rw [hd, hd]
  unfold rotIx
  by_cases cq : q < i - 1
  · rw [if_pos (by omega), if_pos (by omega)]
    exact hs _ _ (by omega) (by omega) (by omega)
  · by_cases cq2 : q = i - 1
    · rw [if_neg (by omega), if_pos (by omega), if_pos (by omega)]
      have e : q - (i - (a + 1)) = a := by omega
      rw [e]
      exact hO.asymmA (hl _ (by omega) (by omega))
    · rw [if_neg (by omega), if_neg (show ¬ (a + (i - (a + 1)) ≤ q ∧ q < i) by omega)]
      by_cases cp : p < i - 1
      · rw [if_pos (by omega)]
        exact hs _ _ (by omega) (by omega) (by omega)
      · by_cases cp2 : p = i - 1
        · rw [if_neg (by omega), if_pos (by omega)]
          have e : p - (i - (a + 1)) = a := by omega
          rw [e]
          exact hr _ (by omega) hq
        · rw [if_neg (by omega), if_neg (by omega)]
          exact hs _ _ (by omega) (by omega) (by omega)
/-- One element behind a sorted run. -/
theorem merge_one_right (hO : SWO lt) {d d' : Array α} {a i m : Nat} (hs : SortedIn lt a m d) (h1 : a ≤ i) (h2 : i ≤ m) (hl : ∀ h, a ≤ h → h < i → lt d[m]! d[h]! = false) (hr : ∀ h, i ≤ h → h < m → lt d[m]! d[h]! = true)
    (hd : ∀ k, d'[k]! = d[rotIx i m (m + 1) k]!) : SortedIn lt a (m + 1) d' := by
  intro p q hp hpq hq
  rw [hd, hd]
  unfold rotIx
  by_cases cp : p < i
  · rw [if_neg (show ¬ (i ≤ p ∧ p < i + (m + 1 - m)) by omega), if_neg (show ¬ (i + (m + 1 - m) ≤ p ∧ p < m + 1) by omega)]
    by_cases cq : q < i
    · rw [if_neg (by omega), if_neg (by omega)]; exact hs _ _ hp hpq (by omega)
    · by_cases cq2 : q = i
      · rw [if_pos (by omega)]
        have e : q - i + m = m := by omega
        rw [e]; exact hl _ hp cp
      · rw [if_neg (by omega), if_pos (by omega)]; exact hs _ _ hp (by omega) (by omega)
  · by_cases cp2 : p = i
    · rw [if_pos (show i ≤ p ∧ p < i + (m + 1 - m) by omega), if_neg (show ¬ (i ≤ q ∧ q < i + (m + 1 - m)) by omega), if_pos (show i + (m + 1 - m) ≤ q ∧ q < m + 1 by omega)]
      have e : p - i + m = m := by omega
      rw [e]; exact hO.asymmA (hr _ (by omega) (by omega))
    · rw [if_neg (show ¬ (i ≤ p ∧ p < i + (m + 1 - m)) by omega), if_pos (show i + (m + 1 - m) ≤ p ∧ p < m + 1 by omega), if_neg (show ¬ (i ≤ q ∧ q < i + (m + 1 - m)) by omega), if_pos (show i + (m + 1 - m) ≤ q ∧ q < m + 1 by omega)]
      exact hs _ _ (by omega) (by omega) (by omega)
/-- What symMerge's search finds: 'start': below it the left run stays, from it on it goes over to the right. n = mid + m, p = n - 1. -/
structure Cut (lt : α → α → Bool) (a m b start : Nat) (d : Array α) : Prop where
  lo : a ≤ start
  lo2 : (a + b) / 2 + m - start ≤ b
  hi : start ≤ m
  hi2 : start ≤ (a + b) / 2
  below : ∀ c, a ≤ c → (a + b) / 2 + m ≤ b + c → c < start → lt d[(a + b) / 2 + m - 1 - c]! d[c]! = false
  above : ∀ c, start ≤ c → c < m → c < (a + b) / 2 → lt d[(a + b) / 2 + m - 1 - c]! d[c]! = true
/-- Behind the turn each half is two sorted runs, and nothing in the right half is less than anything in the left. -/
theorem cut_parts (hO : SWO lt) {d d' : Array α} {a m b start : Nat} (h1 : SortedIn lt a m d) (h2 : SortedIn lt m b d) (ham : a < m) (hmb : m < b) (hc : Cut lt a m b start d)
    (hd : ∀ k, d'[k]! = d[rotIx start m ((a + b) / 2 + m - start) k]!) :
    SortedIn lt a start d' ∧ SortedIn lt start ((a + b) / 2) d' ∧ SortedIn lt ((a + b) / 2) ((a + b) / 2 + m - start) d' ∧ SortedIn lt ((a + b) / 2 + m - start) b d' ∧
      ∀ p q, a ≤ p → p < (a + b) / 2 → (a + b) / 2 ≤ q → q < b → lt d'[q]! d'[p]! = false := by
  obtain ⟨c1, c2, c3, c4, c5, c6⟩ := hc
  have hmid : a ≤ (a + b) / 2 ∧ (a + b) / 2 ≤ b ∧ a + b ≤ 2 * ((a + b) / 2) + 1 ∧ 2 * ((a + b) / 2) ≤ a + b := by omega
  generalize (a + b) / 2 = mid at *
  -- where the four pieces come from
  have g1 : ∀ k, k < start → d'[k]! = d[k]! := fun k hk => by rw [hd]; unfold rotIx; rw [if_neg (by omega), if_neg (by omega)]
  have g2 : ∀ k, start ≤ k → k < mid → d'[k]! = d[k - start + m]! := fun k hk hk2 => by rw [hd]; unfold rotIx; rw [if_pos (by omega)]
  have g3 : ∀ k, mid ≤ k → k < mid + m - start → d'[k]! = d[k - (mid - start)]! := fun k hk hk2 => by
    rw [hd]; unfold rotIx; rw [if_neg (by omega), if_pos (by omega)]; congr 1; omega
  have g4 : ∀ k, mid + m - start ≤ k → d'[k]! = d[k]! := fun k hk => by rw [hd]; unfold rotIx; rw [if_neg (by omega), if_neg (by omega)]
  refine ⟨fun p q hp hpq hq => ?_, fun p q hp hpq hq => ?_, fun p q hp hpq hq => ?_, fun p q hp hpq hq => ?_, fun p q hp hpm hqm hq => ?_⟩
  · rw [g1 q hq, g1 p (by omega)]; exact h1 _ _ hp hpq (by omega)
  · rw [g2 q (by omega) hq, g2 p hp (by omega)]; exact h2 _ _ (by omega) (by omega) (by omega)
  · rw [g3 q (by omega) hq, g3 p hp (by omega)]; exact h1 _ _ (by omega) (by omega) (by omega)
  · rw [g4 q (by omega), g4 p hp]; exact h2 _ _ (by omega) hpq hq
  · by_cases cp : p < start
    · rw [g1 p cp]
      by_cases cq : q < mid + m - start
      · rw [g3 q hqm cq]
        by_cases e : p < q - (mid - start)
        · exact h1 _ _ hp e (by omega)
        · omega
      · rw [g4 q (by omega)]
        -- p <= start - 1; d[n - start] not less than d[start - 1]; q from n - start on
        have k1 := c5 (start - 1) (by omega) (by omega) (by omega)
        have e : mid + m - 1 - (start - 1) = mid + m - start := by omega
        rw [e] at k1
        have k2 : lt d[q]! d[start - 1]! = false := by
          by_cases eq : q = mid + m - start
          · rw [eq]; exact k1
          · exact hO.ntrans _ _ _ (h2 _ _ (by omega) (by omega) hq) k1
        by_cases ep : p = start - 1
        · rw [ep]; exact k2
        · exact hO.ntrans _ _ _ k2 (h1 _ _ hp (by omega) (by omega))
    · rw [g2 p (by omega) hpm]
      by_cases cq : q < mid + m - start
      · rw [g3 q hqm cq]
        -- d[p'] <= d[n - start - 1] < d[start] <= d[q']
        have hsm : start < m := by omega
        have k1 := c6 start (Nat.le_refl _) hsm (by omega)
        have e : mid + m - 1 - start = mid - 1 - start + m := by omega
        rw [e] at k1
        have k2 : lt d[mid - 1 - start + m]! d[q - (mid - start)]! = true ∨ lt d[q - (mid - start)]! d[mid - 1 - start + m]! = false := by
          by_cases eq : q - (mid - start) = start
          · rw [eq]; exact .inl k1
          · right
            exact hO.ntrans _ _ _ (h1 start _ c1 (by omega) (by omega)) (hO.asymmA k1)
        have k3 : lt d[q - (mid - start)]! d[mid - 1 - start + m]! = false := k2.elim hO.asymmA id
        by_cases ep : p - start + m = mid - 1 - start + m
        · rw [ep]; exact k3
        · exact hO.ntrans _ _ _ k3 (h2 _ _ (by omega) (by omega) (by omega))
      · rw [g4 q (by omega)]
        exact h2 _ _ (by omega) (by omega) hq
/-- Two sorted halves, nothing in the right less than anything in the left. -/
theorem sorted_halves {d : Array α} {a mid b : Nat} (h1 : SortedIn lt a mid d) (h2 : SortedIn lt mid b d) (h3 : ∀ p q, a ≤ p → p < mid → mid ≤ q → q < b → lt d[q]! d[p]! = false) : SortedIn lt a b d := by
  intro p q hp hpq hq
  by_cases c1 : q < mid
  · exact h1 p q hp hpq c1
  · by_cases c2 : p < mid
    · exact h3 p q hp c2 (by omega) hq
    · exact h2 p q (by omega) hpq hq
theorem sorted_same {d d' : Array α} {a b : Nat} (h : SortedIn lt a b d) (he : ∀ i, a ≤ i → i < b → d'[i]! = d[i]!) : SortedIn lt a b d' := fun p q hp hpq hq => by
  rw [he p hp (by omega), he q (by omega) hq]; exact h p q hp hpq hq
/-- What is said of each of one half and each of the other stays so, where each half is put in another order. -/
theorem cross_perm {d d' : Array α} {a mid b : Nat} (ham : a ≤ mid) (hmb : mid ≤ b) (hb : b ≤ d.size) (h1 : PermIn a mid d d') (h3 : ∀ p q, a ≤ p → p < mid → mid ≤ q → q < b → lt d[q]! d[p]! = false) :
    ∀ p q, a ≤ p → p < mid → mid ≤ q → q < b → lt d'[q]! d'[p]! = false := fun p q hp hpm hmq hq => by
  rw [h1.2.1 q (by omega)]
  exact permIn_all d d' a mid (fun x => lt d[q]! x = false) (by omega) h1 (fun i hi him => h3 i q hi him hmq hq) p hp hpm
theorem cross_perm' {d d' : Array α} {a mid b : Nat} (ham : a ≤ mid) (hmb : mid ≤ b) (hb : b ≤ d.size) (h1 : PermIn mid b d d') (h3 : ∀ p q, a ≤ p → p < mid → mid ≤ q → q < b → lt d[q]! d[p]! = false) :
    ∀ p q, a ≤ p → p < mid → mid ≤ q → q < b → lt d'[q]! d'[p]! = false := fun p q hp hpm hmq hq => by
  rw [h1.2.1 p (by omega)]
  exact permIn_all d d' mid b (fun x => lt x d[p]! = false) hb h1 (fun i hi him => h3 p i hp hpm hi him) q hmq hq
theorem perm_mono {d d' : Array α} {a b a' b' : Nat} (h1 : a' ≤ a) (h2 : b ≤ b') (hb : b' ≤ d.size) (h : PermIn a b d d') : PermIn a' b' d d' := permIn_mono d d' a b a' b' h1 h2 hb h
end Go.E
namespace Go.E
open Go.Sort Go.RowKit
/-- A fact kept from the walk. -/
structure Box (p : Prop) : Prop where
  out : p
def wDr (w : World) (q : Nat) : World := { w with drawn := q }
section
variable {α : Type} [Inhabited α] {enc : α → List Value} {k : Nat} {w0 W W' : World} {blk off : Nat} {d d' : Array α}
/-- W is w0 with the row laid with d; new blocks behind; some draws on. -/
def Fam (enc : α → List Value) (k blk off : Nat) (w0 : World) (d : Array α) (W : World) : Prop := ∃ q os, W = wDr (grow (putRowK enc k w0 blk off d) os) q
theorem putRowK_wDr (w : World) (q : Nat) (d : Array α) : putRowK enc k (wDr w q) blk off d = wDr (putRowK enc k w blk off d) q := rfl
theorem grow_wDr (w : World) (q : Nat) (os : Array Obj) : grow (wDr w q) os = wDr (grow w os) q := rfl
theorem wDr_wDr (w : World) (q p : Nat) : wDr (wDr w q) p = wDr w p := rfl
theorem wDr_self (w : World) : wDr w w.drawn = w := rfl
theorem holdsK_wDr (w : World) (q : Nat) (d : Array α) (h : HoldsK enc k w blk off d) : HoldsK enc k (wDr w q) blk off d := h
theorem Fam.start (h : HoldsK enc k w0 blk off d) : Fam enc k blk off w0 d w0 := ⟨w0.drawn, #[], by rw [putRowK_self enc k w0 blk off d h, grow_empty, wDr_self]⟩
theorem Fam.size (h : Fam enc k blk off w0 d W) : w0.heap.size ≤ W.heap.size := by
  obtain ⟨q, os, rfl⟩ := h
  show w0.heap.size ≤ (grow (putRowK enc k w0 blk off d) os).heap.size
  rw [size_grow, size_putRowK]; omega
theorem Fam.grown (h : Fam enc k blk off w0 d W) (q : Nat) (os : Array Obj) : Fam enc k blk off w0 d (wDr (grow W os) q) := by
  obtain ⟨p, os', rfl⟩ := h
  exact ⟨q, os' ++ os, by rw [grow_wDr, wDr_wDr, grow_grow]⟩
theorem Fam.alloc (h : Fam enc k blk off w0 d W) (o : Obj) : Fam enc k blk off w0 d (W.alloc o) := by
  have := h.grown W.drawn #[o]
  rw [← alloc_eq_grow] at this
  exact this
theorem Fam.drewN (h : Fam enc k blk off w0 d W) (n : Nat) : Fam enc k blk off w0 d (W.drewN n) := by
  have := h.grown (W.drewN n).drawn #[]
  rw [grow_empty] at this
  have e : wDr W (W.drewN n).drawn = W.drewN n := by
    have : W.drewN n = Sort.ahead W n := by
      clear this h
      induction n with
      | zero => rfl
      | succ n ih =>
        show (W.drewN n).drew = _
        rw [ih, drew_eq_ahead, ahead_ahead]
    rw [this]; rfl
  rw [e] at this
  exact this
theorem Fam.trans (h : Fam enc k blk off w0 d W) (hb : blk < w0.heap.size) (h' : Fam enc k blk off W d' W') (hs : d'.size = d.size) : Fam enc k blk off w0 d' W' := by
  obtain ⟨q, os, rfl⟩ := h
  obtain ⟨q', os', rfl⟩ := h'
  refine ⟨q', os ++ os', ?_⟩
  have := grow_step_growK (enc := enc) (k := k) w0 os os' 0 0 blk off d d' hb hs
  simp only [ahead_zero, Nat.add_zero] at this
  rw [putRowK_wDr, grow_wDr, wDr_wDr, this]
theorem Fam.cell (h : Fam enc k blk off w0 d W) {a : Addr} (ha : a.block < w0.heap.size) (hne : a.block ≠ blk) : W.cell? a = w0.cell? a := by
  obtain ⟨q, os, rfl⟩ := h
  show (grow (putRowK enc k w0 blk off d) os).cell? a = _
  rw [cell?_grow _ _ _ (by rw [size_putRowK]; exact ha), cell?_putRowK_other _ _ _ _ _ _ _ hne]
theorem Fam.holds {d0 : Array α} (h : Fam enc k blk off w0 d W) (hb : blk < w0.heap.size) (h0 : HoldsK enc k w0 blk off d0) (hs : d.size = d0.size) : HoldsK enc k W blk off d := by
  obtain ⟨q, os, rfl⟩ := h
  exact holdsK_wDr _ q d (holdsK_grow enc k _ os blk off d (by rw [size_putRowK]; exact hb) (holdsK_putRowK enc k w0 blk off d0 d h0 hs))
theorem Fam.swap (h : Fam enc k blk off w0 d W) (hk : ∀ x, (enc x).length = k) (hb : blk < w0.heap.size) (i j : Nat) (hi : i < d.size) (hj : j < d.size) :
    Fam enc k blk off w0 (swp d i j) ((W.setCells blk (off + i * k) (enc d[j]!)).setCells blk (off + j * k) (enc d[i]!)) := by
  obtain ⟨q, os, rfl⟩ := h
  refine ⟨q, os, ?_⟩
  have e : ∀ (w : World) (o : Nat) (vs : List Value), (wDr w q).setCells blk o vs = wDr (w.setCells blk o vs) q := by
    intro w o vs
    induction vs generalizing w o with
    | nil => rfl
    | cons v vs ih => show ((wDr w q).setCell ⟨blk, o, none⟩ v).setCells blk (o + 1) vs = _
                      rw [show (wDr w q).setCell ⟨blk, o, none⟩ v = wDr (w.setCell ⟨blk, o, none⟩ v) q from rfl, ih]; rfl
  rw [e, e, ← putRowK_grow enc k w0 os blk off d hb, putRowK_swp enc k hk _ blk off d i j hi hj, putRowK_grow enc k w0 os blk off _ hb]
/-- Behind a call by whose contract nothing that was there has turned. -/
theorem Fam.below (h : Fam enc k blk off w0 d W) (hb : Below W.heap.size W W') : Fam enc k blk off w0 d W' := by
  have e : W' = wDr (grow W (W'.heap.extract W.heap.size W'.heap.size)) W'.drawn := by
    have hh : W'.heap = W.heap ++ W'.heap.extract W.heap.size W'.heap.size := by
      apply Array.ext'
      rw [Array.toList_append, Array.toList_extract]
      apply List.ext_getElem?
      intro i
      by_cases hi : i < W.heap.size
      · rw [List.getElem?_append_left (by simpa using hi)]
        have := hb.block i hi
        simpa using this
      · rw [List.getElem?_append_right (by simpa using hi)]
        simp only [List.extract, Array.length_toList, List.getElem?_take, List.getElem?_drop]
        have hs := hb.size
        have e2 : W.heap.size + (i - W.heap.size) = i := by omega
        rw [e2]
        split
        · rfl
        · rw [List.getElem?_eq_none (by simp; omega)]
    have h1 := hb.os
    have h2 := hb.tape
    have h3 := hb.output
    cases W' with
    | mk heap tape drawn os output =>
      simp only [wDr, grow] at *
      subst h1 h2 h3
      rw [← hh]
  rw [e]
  exact h.grown _ _
end
end Go.E
namespace Go.E
open Go.Sort Go.RowKit
section
variable {α : Type} [Inhabited α] {enc : α → List Value} {k : Nat} {w0 W W' : World} {blk off : Nat} {d d' : Array α}
theorem flatK_list (hk : ∀ x, (enc x).length = k) (d : Array α) : (flatK enc k d).toList = (d.toList.map enc).flatten := by
  have hsz : ∀ r ∈ d.toList.map enc, r.length = k := by
    intro r hr
    obtain ⟨x, _, rfl⟩ := List.mem_map.1 hr
    exact hk x
  apply List.ext_getElem?
  intro t
  by_cases ht : t < d.size * k
  · have k0 : 0 < k := by
      rcases Nat.eq_zero_or_pos k with h | h
      · subst h; simp at ht
      · exact h
    have hq : t % k < k := Nat.mod_lt _ k0
    have hj : t / k < d.size := (Nat.div_lt_iff_lt_mul k0).2 ht
    have hr : (d.toList.map enc)[t / k]? = some (enc d[t / k]) := by simp [hj]
    have := flatten_get hsz hr hq
    rw [show t / k * k + t % k = t by rw [Nat.mul_comm]; exact Nat.div_add_mod t k] at this
    rw [this, Array.getElem?_toList, getElem?_pos _ t (by simpa using ht)]
    have e := get_flatK enc k d t ht
    rw [getElem!_pos _ t (by simpa using ht)] at e
    rw [e, getElem!_pos d _ hj, getElem?_pos _ (t % k) (by rw [hk]; exact hq), getElem!_pos _ (t % k) (by rw [hk]; exact hq)]
  · rw [List.getElem?_eq_none (by simp; omega), List.getElem?_eq_none (by rw [flatten_len hsz]; simp; omega)]
theorem Fam.facts (h : Fam enc k blk off w0 d W) : W.os = w0.os ∧ W.tape = w0.tape ∧ W.output = w0.output ∧ ∀ j, j < w0.heap.size → j ≠ blk → W.heap[j]? = w0.heap[j]? := by
  obtain ⟨q, os, rfl⟩ := h
  refine ⟨rfl, rfl, rfl, fun j hj hne => ?_⟩
  show ((w0.heap.modify blk _) ++ os)[j]? = _
  rw [Array.getElem?_append_left (by simpa using hj), Array.getElem?_modify, if_neg (Ne.symm hne)]
theorem Fam.block (h : Fam enc k blk off w0 d W) {cur : Array Value} {e : TypeId} {fz : Nat × Nat} (hc : w0.heap[blk]? = some (.cells cur e fz)) : ∃ cur', cur'.size = cur.size ∧ W.heap[blk]? = some (.cells cur' e fz) := by
  obtain ⟨q, os, rfl⟩ := h
  have hb : blk < w0.heap.size := (Array.getElem?_eq_some_iff.1 hc).1
  refine ⟨putCells id off (flatK enc k d) cur, by simp [putCells], ?_⟩
  show ((w0.heap.modify blk _) ++ os)[blk]? = _
  rw [Array.getElem?_append_left (by simpa using hb), Array.getElem?_modify, if_pos rfl, hc]
  rfl
theorem holds_of_owns (hk : ∀ x, (enc x).length = k) {base ty n cap : Nat} {xs : List Value} (ho : w0.ownsRow base ty k (.slice (some ⟨blk, 0, none⟩) n cap) n xs) (hn : n = d.size) (hx : xs = (d.toList.map enc).flatten) : HoldsK enc k w0 blk 0 d := by
  obtain ⟨_, h⟩ := ho
  rcases h with ⟨h, _⟩ | ⟨g, cap', cur, e1, hb, hh, h1, h2, h3, h4⟩
  · cases h
  · simp only [Value.slice.injEq, Option.some.injEq, Addr.mk.injEq] at e1
    obtain ⟨⟨rfl, _, _⟩, _, rfl⟩ := e1
    intro j hj
    rw [← flatK_list hk] at hx
    rw [hx] at h4
    have hj' : j < n * k := by rw [hn]; simpa using hj
    have e : cur[j]? = some (flatK enc k d)[j]! := by
      have := congrArg (fun l => l[j]?) h4
      simp only [List.getElem?_take, hj', if_true, Array.getElem?_toList] at this
      rw [this, getElem?_pos _ j hj, getElem!_pos _ j hj]
    refine ⟨?_, ?_⟩
    · simp [World.cell?, hh, e]
    · simp [World.frozen?, hh]
theorem owns_of_holds (hk : ∀ x, (enc x).length = k) {base ty n cap : Nat} {cur : Array Value} (hH : HoldsK enc k W blk 0 d) (hn : n = d.size) (hb : base ≤ blk) (hh : W.heap[blk]? = some (.cells cur ty (0, 0))) (h1 : n ≤ cap) (h2 : cap ≤ maxLen) (h3 : cur.size = cap * k) :
    W.ownsRow base ty k (.slice (some ⟨blk, 0, none⟩) n cap) n (d.toList.map enc).flatten := by
  rw [← flatK_list hk]
  refine ⟨by simp [hn], .inr ⟨blk, cap, cur, rfl, hb, hh, h1, h2, h3, ?_⟩⟩
  have hle : n * k ≤ cur.size := by rw [h3]; exact Nat.mul_le_mul_right _ h1
  apply List.ext_getElem?
  intro j
  by_cases hj : j < n * k
  · have := (hH j (by simpa [hn] using hj)).1
    simp only [World.cell?, Nat.zero_add, hh, Option.isSome_none, Bool.false_eq_true, if_false, id] at this
    rw [List.getElem?_take, if_pos hj, Array.getElem?_toList, this, Array.getElem?_toList, getElem?_pos _ j (by simpa [hn] using hj), getElem!_pos _ j (by simpa [hn] using hj)]
  · rw [List.getElem?_eq_none (by simp; omega), List.getElem?_eq_none (by simp [← hn]; omega)]
theorem Fam.owns (hk : ∀ x, (enc x).length = k) (h : Fam enc k blk 0 w0 d' W) (hs : d'.size = d.size) {base ty n cap : Nat} {xs : List Value} (hx : xs = (d.toList.map enc).flatten) (hn : n = d.size) (ho : w0.ownsRow base ty k (.slice (some ⟨blk, 0, none⟩) n cap) n xs) :
    W.ownsRow base ty k (.slice (some ⟨blk, 0, none⟩) n cap) n (d'.toList.map enc).flatten := by
  have hH := holds_of_owns hk ho hn hx
  obtain ⟨_, h0⟩ := ho
  rcases h0 with ⟨h0, _⟩ | ⟨g, cap', cur, e1, hb, hh, h1, h2, h3, h4⟩
  · cases h0
  · simp only [Value.slice.injEq, Option.some.injEq, Addr.mk.injEq] at e1
    obtain ⟨⟨rfl, _, _⟩, _, rfl⟩ := e1
    have hlt : blk < w0.heap.size := (Array.getElem?_eq_some_iff.1 hh).1
    obtain ⟨cur', c1, c2⟩ := h.block hh
    exact owns_of_holds hk (h.holds hlt hH hs) (by rw [hn, hs]) hb c2 h1 h2 (by rw [c1, h3])
end
end Go.E
namespace Go.Proofs.Ytjngmlkaijpbgaa
open Go.E
set_option maxRecDepth 100000
set_option maxHeartbeats 4000000
open Go Go.Sort Go.RowKit Go.Lib Go.Shelf Go.Proofs
def renGg : Go.Shelf.Ren := ⟨fun | 6 => 60 | 10 => 72 | 11 => 73 | 12 => 75 | 13 => 78 | 14 => 79 | 24 => 104 | 25 => 105 | 26 => 102 | 27 => 106 | 28 => 107 | 29 => 108 | 30 => 109 | 31 => 110 | 32 => 111 | 33 => 112 | 34 => 123 | 35 => 124 | 36 => 125 | 37 => 126 | 38 => 127 | 39 => 132 | n => n,
  fun | 0 => 0 | 3 => 3 | 4 => 4 | 5 => 5 | 9 => 9 | 12 => 12 | 17 => 17 | 20 => 20 | 26 => 73 | 32 => 87 | 33 => 88 | 35 => 90 | 37 => 92 | 41 => 101 | 44 => 96 | 49 => 122 | 51 => 124 | 53 => 125 | 54 => 126 | 58 => 130 | 60 => 142 | 64 => 146 | 66 => 151 | 67 => 85 | 75 => 180 | 76 => 181 | 77 => 182 | 78 => 183 | 79 => 184 | 80 => 185 | 82 => 187 | n => n, fun n => n⟩
theorem laysGg : Go.Proofs.LaysGg.n6 Try.prog renGg := {
  mixed := (by kernel_rfl),
  f6 := Try.func60.trans (congrArg some (by kernel_rfl)),
  f10 := Try.func72.trans (congrArg some (by kernel_rfl)),
  f11 := Try.func73.trans (congrArg some (by kernel_rfl)),
  f12 := Try.func75.trans (congrArg some (by kernel_rfl)),
  f13 := Try.func78.trans (congrArg some (by kernel_rfl)),
  f14 := Try.func79.trans (congrArg some (by kernel_rfl)),
  f24 := Try.func104.trans (congrArg some (by kernel_rfl)),
  f25 := Try.func105.trans (congrArg some (by kernel_rfl)),
  f26 := Try.func102.trans (congrArg some (by kernel_rfl)),
  f27 := Try.func106.trans (congrArg some (by kernel_rfl)),
  f28 := Try.func107.trans (congrArg some (by kernel_rfl)),
  f29 := Try.func108.trans (congrArg some (by kernel_rfl)),
  f30 := Try.func109.trans (congrArg some (by kernel_rfl)),
  f31 := Try.func110.trans (congrArg some (by kernel_rfl)),
  f32 := Try.func111.trans (congrArg some (by kernel_rfl)),
  f33 := Try.func112.trans (congrArg some (by kernel_rfl)),
  f34 := Try.func123.trans (congrArg some (by kernel_rfl)),
  f35 := Try.func124.trans (congrArg some (by kernel_rfl)),
  f36 := Try.func125.trans (congrArg some (by kernel_rfl)),
  f37 := Try.func126.trans (congrArg some (by kernel_rfl)),
  f38 := Try.func127.trans (congrArg some (by kernel_rfl)),
  f39 := Try.func132.trans (congrArg some (by kernel_rfl)),
  t0 := Try.underlying0, a0 := Try.isAgg0, z0 := Try.sizeOf0, v0 := Try.zeroValue0, i0 := (by kernel_rfl),
  t3 := Try.underlying3, a3 := Try.isAgg3, z3 := Try.sizeOf3, v3 := Try.zeroValue3, i3 := (by kernel_rfl),
  t4 := Try.underlying4, a4 := Try.isAgg4, z4 := Try.sizeOf4, v4 := Try.zeroValue4, i4 := (by kernel_rfl),
  t5 := Try.underlying5, a5 := Try.isAgg5, z5 := Try.sizeOf5, v5 := Try.zeroValue5, i5 := (by kernel_rfl),
  t9 := Try.underlying9, a9 := Try.isAgg9, z9 := Try.sizeOf9, v9 := Try.zeroValue9, i9 := (by kernel_rfl),
  t12 := Try.underlying12, a12 := Try.isAgg12, z12 := Try.sizeOf12, v12 := Try.zeroValue12, i12 := (by kernel_rfl),
  t17 := Try.underlying17, a17 := Try.isAgg17, z17 := Try.sizeOf17, v17 := Try.zeroValue17, i17 := (by kernel_rfl),
  t20 := Try.underlying20, a20 := Try.isAgg20, z20 := Try.sizeOf20, v20 := Try.zeroValue20, i20 := (by kernel_rfl),
  t26 := Try.underlying73, a26 := Try.isAgg73, z26 := Try.sizeOf73, v26 := Try.zeroValue73, i26 := (by kernel_rfl),
  t32 := Try.underlying87, a32 := Try.isAgg87, z32 := Try.sizeOf87, v32 := Try.zeroValue87, i32 := (by kernel_rfl),
  t33 := Try.underlying88, a33 := Try.isAgg88, z33 := Try.sizeOf88, v33 := Try.zeroValue88, i33 := (by kernel_rfl),
  t35 := Try.underlying90, a35 := Try.isAgg90, z35 := Try.sizeOf90, v35 := Try.zeroValue90, i35 := (by kernel_rfl),
  t37 := Try.underlying92, a37 := Try.isAgg92, z37 := Try.sizeOf92, v37 := Try.zeroValue92, i37 := (by kernel_rfl),
  t41 := Try.underlying101, a41 := Try.isAgg101, z41 := Try.sizeOf101, v41 := Try.zeroValue101, i41 := (by kernel_rfl),
  t44 := Try.underlying96, a44 := Try.isAgg96, z44 := Try.sizeOf96, v44 := Try.zeroValue96, i44 := (by kernel_rfl),
  t49 := Try.underlying122, a49 := Try.isAgg122, z49 := Try.sizeOf122, v49 := Try.zeroValue122, i49 := (by kernel_rfl),
  t51 := Try.underlying124, a51 := Try.isAgg124, z51 := Try.sizeOf124, v51 := Try.zeroValue124, i51 := (by kernel_rfl),
  t53 := Try.underlying125, a53 := Try.isAgg125, z53 := Try.sizeOf125, v53 := Try.zeroValue125, i53 := (by kernel_rfl),
  t54 := Try.underlying126, a54 := Try.isAgg126, z54 := Try.sizeOf126, v54 := Try.zeroValue126, i54 := (by kernel_rfl),
  t58 := Try.underlying130, a58 := Try.isAgg130, z58 := Try.sizeOf130, v58 := Try.zeroValue130, i58 := (by kernel_rfl),
  t60 := Try.underlying142, a60 := Try.isAgg142, z60 := Try.sizeOf142, v60 := Try.zeroValue142, i60 := (by kernel_rfl),
  t64 := Try.underlying146, a64 := Try.isAgg146, z64 := Try.sizeOf146, v64 := Try.zeroValue146, i64 := (by kernel_rfl),
  t66 := Try.underlying151, a66 := Try.isAgg151, z66 := Try.sizeOf151, v66 := Try.zeroValue151, i66 := (by kernel_rfl),
  t67 := Try.underlying85, a67 := Try.isAgg85, z67 := Try.sizeOf85, v67 := Try.zeroValue85, i67 := (by kernel_rfl),
  t75 := Try.underlying180, a75 := Try.isAgg180, z75 := Try.sizeOf180, v75 := Try.zeroValue180, i75 := (by kernel_rfl),
  t76 := Try.underlying181, a76 := Try.isAgg181, z76 := Try.sizeOf181, v76 := Try.zeroValue181, i76 := (by kernel_rfl),
  t77 := Try.underlying182, a77 := Try.isAgg182, z77 := Try.sizeOf182, v77 := Try.zeroValue182, i77 := (by kernel_rfl),
  t78 := Try.underlying183, a78 := Try.isAgg183, z78 := Try.sizeOf183, v78 := Try.zeroValue183, i78 := (by kernel_rfl),
  t79 := Try.underlying184, a79 := Try.isAgg184, z79 := Try.sizeOf184, v79 := Try.zeroValue184, i79 := (by kernel_rfl),
  t80 := Try.underlying185, a80 := Try.isAgg185, z80 := Try.sizeOf185, v80 := Try.zeroValue185, i80 := (by kernel_rfl),
  t82 := Try.underlying187, a82 := Try.isAgg187, z82 := Try.sizeOf187, v82 := Try.zeroValue187, i82 := (by kernel_rfl) }
noncomputable def tiRowL : TypeInfo := (Try.prog.info? 51).get!
noncomputable def tiL : TypeInfo := (Try.prog.info? 55).get!
def swL (n : Nat) : Nat := if n = 0 then 93 else if n = 1 then 94 else 101
theorem swKL (n : Nat) (h2 : 2 ≤ n) : swapperK n tiL 25 = 9 := by
  have b : tiL.bytes = 32 := by kernel_rfl
  have c : (n == 0) = false := by simp; omega
  have d : (n == 1) = false := by simp; omega
  simp [swapperK, b, c, d]
theorem swL_find (n : Nat) : Try.prog.funcs.findIdx? (fun g => g.name == "internal/reflectlite" ++ ".Swapper$" ++ toString (swapperK n tiL 25)) = some (swL n) := by
  match n with
  | 0 => show _ = some 93; kernel_rfl
  | 1 => show _ = some 94; kernel_rfl
  | n + 2 =>
    rw [swKL _ (by omega)]
    simp only [swL]
    rw [if_neg (by omega), if_neg (by omega)]
    show _ = some 101
    kernel_rfl
def ltL (a b : Line) : Bool := sLt a.sku b.sku
theorem swo_ltL : SWO ltL := by
  refine ⟨fun x => ?_, fun x y z h1 h2 => ?_, fun x y z h1 h2 => ?_⟩
  · exact Bool.eq_false_iff.2 (sLt_irr _)
  · exact sLt_trans h1 h2
  · unfold ltL at *
    rw [Bool.eq_false_iff] at *
    intro h
    by_cases k : sLt z.sku y.sku = true
    · exact h1 (sLt_trans h k)
    · exact h1 (by rw [sLt_total h2 k]; exact h)
def encV3 (x : Line) : List Value := (c55 x).map valA
theorem encV3_flat (d : List Line) : (d.map encV3).flatten = ((d.map c55).flatten).map valA := by
  induction d with
  | nil => rfl
  | cons x d ih => simp only [List.map_cons, List.flatten_cons, List.map_append, ih, encV3]
theorem lessL (W : World) (gv blk n cap : Nat) (i j : Nat) (x y : ByteArray) (hi : i < n) (hj : j < n)
    (hc : W.cell? ⟨gv, 0, none⟩ = some (.slice (some ⟨blk, 0, none⟩) n cap)) (hx : W.cell? ⟨blk, i * 3, none⟩ = some (.string x)) (hy : W.cell? ⟨blk, j * 3, none⟩ = some (.string y)) :
    Calls Try.prog 61 #[.int .i64 i, .int .i64 j, .pointer (some ⟨gv, 0, none⟩)] W fun e w' => e = .returned (.bool (Go.Op.bytesLess x.toList y.toList)) ∧ ∃ q, w' = W.drewN q := by
  go_enter Try.func61, Try.ntmps61
  go_wp2
  go_region
  go_wp2
  go_ret
  exact ⟨rfl, 1, rfl⟩
def pdqL (l : List Line) : List Line := (pdq ltL l.toArray 0 l.toArray.size (Lib.bitLen l.toArray.size) true true).toList
theorem pdqL_perm (l : List Line) : (pdqL l).Perm l := by
  have h := (pdq_sorts ltL swo_ltL l.toArray 0 l.toArray.size (Lib.bitLen l.toArray.size) true true (Nat.zero_le _) (Nat.le_refl _) (Or.inl rfl)).1
  obtain ⟨hsz, _, hp⟩ := h
  unfold pdqL
  generalize pdq ltL l.toArray 0 l.toArray.size (Lib.bitLen l.toArray.size) true true = d at hsz hp ⊢
  have e1 : d.extract 0 l.toArray.size = d := by rw [← hsz]; exact Array.extract_size
  rw [e1, Array.extract_size] at hp
  exact hp
theorem pdqL_rises (l : List Line) : (pdqL l).Pairwise fun x y => ltL y x = false := by
  have h := pdq_sorts ltL swo_ltL l.toArray 0 l.toArray.size (Lib.bitLen l.toArray.size) true true (Nat.zero_le _) (Nat.le_refl _) (Or.inl rfl)
  have hs := h.1.1
  have h2 := h.2
  unfold pdqL
  rw [List.pairwise_iff_getElem]
  intro i j hi hj hij
  rw [Array.length_toList] at hi hj
  have := h2 i j (Nat.zero_le _) hij (by omega)
  rw [getElem!_pos _ j hj, getElem!_pos _ i hi] at this
  rw [Array.getElem_toList, Array.getElem_toList]
  exact this
theorem rng_pdqL (l : List Line) : (pdqL l).length = l.length := (pdqL_perm l).length_eq
theorem encV3_len (x : Line) : (encV3 x).length = 3 := rfl
theorem line_plain (x : Line) : ∀ a ∈ c55 x, plainA a = true := by
  intro a ha
  simp only [c55, List.mem_cons, List.not_mem_nil, or_false] at ha
  rcases ha with rfl | rfl | rfl <;> rfl
/-- sort.Slice at a row of lines of one's own. -/
theorem io60 (l : List Line) (hlen : l.length < 4611686018427387904) :
    IOConG Try.prog 60 61 (some 51) true 55 3 (l.map c55) ((pdqL l).map c55) := by
  have hpm := pdqL_perm l
  have hone : ∀ x, ∀ v ∈ encV3 x, v.oneCell' = true := by
    intro x v hv
    obtain ⟨a, ha, rfl⟩ := List.mem_map.1 hv
    exact plain_one (line_plain x a ha)
  have hpl : ∀ m : List Line, ∀ a ∈ (m.map c55).flatten, plainA a = true := by
    intro m a ha
    obtain ⟨r, hr, har⟩ := List.mem_flatten.1 ha
    obtain ⟨x, _, rfl⟩ := List.mem_map.1 hr
    exact line_plain x a har
  have hsz : ∀ r ∈ l.map c55, r.length = 3 := fun r hr => by obtain ⟨x, _, rfl⟩ := List.mem_map.1 hr; rfl
  refine ⟨⟨_, Try.func60, by kernel_rfl, by kernel_rfl⟩, by rw [List.length_map, List.length_map, hpm.length_eq], fun r hr => by obtain ⟨x, _, rfl⟩ := List.mem_map.1 hr; rfl, fun w base v cv S xs hS hb ho hx1 hxr hcap => ?_⟩
  obtain ⟨gv, rfl, q1, q2, q3⟩ := hcap rfl
  have hxs : xs = (l.map c55).flatten.map valA := by
    apply List.ext_getElem?
    intro j
    by_cases hj : j < xs.length
    · have hj' : j < (l.map c55).flatten.length := by rw [flatten_len hsz, ← ho.1]; exact hj
      rw [List.getElem?_eq_getElem hj, List.getElem?_map, List.getElem?_eq_getElem hj', Option.map_some]
      have := hxr j _ _ (List.getElem?_eq_getElem hj') (List.getElem?_eq_getElem hj)
      rw [plain_val (hpl _ _ (List.getElem_mem hj')) this]
    · rw [List.getElem?_eq_none (by omega), List.getElem?_eq_none (by rw [List.length_map, flatten_len hsz, ← ho.1]; omega)]
  rw [hxs, List.length_map] at ho
  rw [List.length_map]
  simp only [if_true, ioVal]
  have hout : ∀ (w' : World), ∀ (j : Nat) (a : AV) (u : Value), ((pdqL l).map c55).flatten[j]? = some a → (((pdqL l).map c55).flatten.map valA)[j]? = some u → RelV0 S w' a u := by
    intro w' j a u ha hu
    rw [List.getElem?_map, ha, Option.map_some, Option.some.injEq] at hu
    rw [← hu]
    exact plain_rel (hpl _ a (List.mem_of_getElem? ha))
  have hout1 : ∀ u ∈ ((pdqL l).map c55).flatten.map valA, u.oneCell' = true := by
    intro u hu
    obtain ⟨x, hx, rfl⟩ := List.mem_map.1 hu
    exact plain_one (hpl _ x hx)
  have hfam : ∀ (b cap : Nat) (w' : World) (hbl : b < w.heap.size) (ho' : w.ownsRow base 55 3 (.slice (some ⟨b, 0, none⟩) l.length cap) l.length ((l.map encV3).flatten)), Fam encV3 3 b 0 w (pdqL l).toArray w' →
      Ending.returned (.tuple #[]) = .returned (.tuple #[]) ∧ ∃ xs', w'.ownsRow base 55 3 (.slice (some ⟨b, 0, none⟩) l.length cap) l.length xs' ∧ (∀ u ∈ xs', u.oneCell' = true) ∧ (∀ (j : Nat) (a : AV) (u : Value), ((pdqL l).map c55).flatten[j]? = some a → xs'[j]? = some u → RelV0 S w' a u) ∧
      (∀ k, k < w.heap.size → blkOf (.slice (some ⟨b, 0, none⟩) l.length cap) ≠ some k → w'.heap[k]? = w.heap[k]?) ∧ w'.os = w.os ∧ w'.tape = w.tape ∧ w'.output = w.output ∧ w.heap.size ≤ w'.heap.size := by
    intro b cap w' hbl ho' hF
    have f := hF.facts
    have ow := hF.owns (d := l.toArray) encV3_len (by simpa using hpm.length_eq) (by simp) (by simp) ho'
    refine ⟨rfl, ((pdqL l).map c55).flatten.map valA, ?_, hout1, hout w', fun j hj hjb => f.2.2.2 j hj (fun e => hjb (by rw [e]; rfl)), f.1, f.2.1, f.2.2.1, hF.size⟩
    rw [← encV3_flat]
    simpa using ow
  rcases ho.2 with ⟨rfl, h0⟩ | ⟨b, cap, cur, rfl, hb', hh, h1, h2, h3, h4⟩
  · have : l = [] := List.eq_nil_of_length_eq_zero h0
    subst this
    refine (Any.sort_Slice_tiny (P := Try.prog) (ρ := renGg) laysGg 51 55 tiRowL tiL (by kernel_rfl) (by kernel_rfl) (by kernel_rfl) (by kernel_rfl) 25 (fun _ => by kernel_rfl) none 0 0 (by omega) (swL 0) (swL_find 0) _ _ _ w).mono ?_
    rintro e' w' ⟨rfl, os, rfl⟩
    have e0 : pdqL [] = [] := List.eq_nil_of_length_eq_zero (by rw [hpm.length_eq]; rfl)
    refine ⟨rfl, [], ⟨by simp, .inl ⟨rfl, rfl⟩⟩, fun u hu => by simp at hu, fun j a u ha hu => by simp at hu, fun j hj _ => ?_, rfl, rfl, rfl, ?_⟩
    · exact Go.Sort.heap_grow_old w os hj
    · rw [Go.Sort.size_grow]; omega
  · have hbl : b < w.heap.size := (Array.getElem?_eq_some_iff.1 hh).1
    have hne : gv ≠ b := fun e => q3 (by rw [e]; rfl)
    have hflat : (l.map c55).flatten.map valA = (l.map encV3).flatten := by rw [← encV3_flat]
    rw [hflat] at ho
    have hHd : HoldsK encV3 3 w b 0 l.toArray := holds_of_owns encV3_len ho (by simp) (by simp)
    by_cases hl2 : l.length ≤ 1
    · refine (Any.sort_Slice_tiny (P := Try.prog) (ρ := renGg) laysGg 51 55 tiRowL tiL (by kernel_rfl) (by kernel_rfl) (by kernel_rfl) (by kernel_rfl) 25 (fun _ => by kernel_rfl) (some ⟨b, 0, none⟩) l.length cap hl2 (swL l.length) (swL_find l.length) _ _ _ w).mono ?_
      rintro e' w' ⟨rfl, os, rfl⟩
      refine hfam b cap _ hbl ho ?_
      have e1 : pdqL l = l := by
        match l, hl2 with
        | [], _ => exact List.eq_nil_of_length_eq_zero (by rw [hpm.length_eq]; rfl)
        | [x], _ => exact List.perm_singleton.1 hpm
      rw [e1]
      exact (Fam.start hHd).grown w.drawn os
    · have hw := Any.sort_Slice_cells_eq (P := Try.prog) (ρ := renGg) laysGg 51 55 tiRowL tiL (by kernel_rfl) (by kernel_rfl) (by kernel_rfl) (by kernel_rfl) 25 (fun _ => by kernel_rfl)
        encV3 3 encV3_len (by kernel_rfl) (fun _ => by kernel_rfl) hone ltL swo_ltL 61 #[.pointer (some ⟨gv, 0, none⟩)] (enters_of Try.func61 (by kernel_rfl) rfl) b 0 cap l.toArray (by simp; omega) (by simpa using hlen)
        101 (by have := swL_find l.toArray.size; rw [this]; congr 1; unfold swL; rw [if_neg (by rw [List.size_toArray]; omega), if_neg (by rw [List.size_toArray]; omega)]) false
        (fun args W => run_callFunc_extern Try.func101 (by kernel_rfl) (by kernel_rfl) (by kernel_rfl) (e := Extern.ReflectliteSwapper.swap false) (by kernel_rfl) args W) w
        (fun m os dk hs i j hi hj => by
          have hF : Fam encV3 3 b 0 w dk (sortWorldK encV3 3 w b 0 m dk os) := ⟨w.drawn + m, os, rfl⟩
          have hc := (hF.cell (a := ⟨gv, 0, none⟩) q1 hne).trans q2
          have hK := hF.holds hbl hHd hs
          have hx := (hK.cell (i := i) (c := 0) (by omega) (by omega)).1
          have hy := (hK.cell (i := j) (c := 0) (by omega) (by omega)).1
          rw [Nat.zero_add, Nat.add_zero] at hx hy
          have hsz' : l.toArray.size = l.length := by simp
          exact lessL _ gv b l.length cap i j dk[i]!.sku dk[j]!.sku (hsz' ▸ hi) (hsz' ▸ hj) hc hx hy) hHd hbl
      have hsize : l.toArray.size = l.length := by simp
      rw [hsize] at hw
      refine hw.mono ?_
      rintro e' w' ⟨rfl, n, os, hw'⟩
      exact hfam b cap w' hbl ho ⟨w.drawn + n, os, by rw [hw']; unfold pdqL; rw [hsize]; rfl⟩
end Go.Proofs.Ytjngmlkaijpbgaa
namespace Go.Proofs.Ytjngmlkaijpbgaa
open Go.E
set_option maxRecDepth 100000
set_option maxHeartbeats 4000000
def dLt (a b : Dot) : Bool := decide (a.rep < b.rep ∨ a.rep = b.rep ∧ a.num < b.num)
def entE (e : Entry) : Int := if e.dot.rep < 0 ∨ 16 ≤ e.dot.rep then 3 else if e.dot.num < 1 ∨ 1000000000 < e.dot.num then 2 else if good e.sku = false then 5 else if e.qty < 1 ∨ 1000000 < e.qty then 6 else 0
def okAt (es : List Entry) (i : Nat) : Bool := decide (entE es[i]! = 0) && (decide (i = 0) || dLt es[i - 1]!.dot es[i]!.dot)
def okL (es : List Entry) : Bool := allUp (okAt es) es.length
def lstE (es : List Entry) : Int := if okL es = true then 0 else 1
def invL (es : List Entry) (i : Int) : Prop := 0 ≤ i ∧ i ≤ es.length ∧ ∀ j : Nat, (j : Int) < i → okAt es j = true
def decL (es : List Entry) (i : Int) : Nat := (es.length - i).toNat
theorem lstE_bad {es : List Entry} {i : Nat} (hi : i < es.length) (h : okAt es i = false) : lstE es = 1 := by
  unfold lstE okL
  rw [if_neg]
  intro k
  have := (allUp_iff _ _).1 k i hi
  rw [h] at this; cases this
theorem lstE_ok {es : List Entry} (h : ∀ j : Nat, j < es.length → okAt es j = true) : lstE es = 0 := by
  unfold lstE okL
  rw [if_pos ((allUp_iff _ _).2 h)]
def inv30i {α : Type} (es : List α) (i : Int) : Prop := 0 ≤ i ∧ i ≤ es.length
def dec30i {α : Type} (es : List α) (i : Int) : Nat := (es.length - i).toNat
theorem okAt_iff (es : List Entry) (i : Nat) : okAt es i = true ↔ entE es[i]! = 0 ∧ (i = 0 ∨ dLt es[i - 1]!.dot es[i]!.dot = true) := by
  unfold okAt
  rw [Bool.and_eq_true, Bool.or_eq_true, decide_eq_true_iff, decide_eq_true_iff]
theorem invL_step {es : List Entry} {i : Int} (h0 : 0 ≤ i) (h1 : i < es.length) (h2 : ∀ j : Nat, (j : Int) < i → okAt es j = true) (h : okAt es i.toNat = true) : invL es (i + 1) :=
  ⟨by omega, by omega, fun j hj => by
    by_cases e : j = i.toNat
    · rw [e]; exact h
    · exact h2 j (by omega)⟩
theorem not_okAt {es : List Entry} {i : Nat} (h : ¬ okAt es i = true) : okAt es i = false := by simpa using h
theorem con15 (rep num : Int) (sku : ByteArray) (qty : Int) : Con Try.prog 15 [.i .i64 rep, .i .i64 num, .s sku, .i .i64 qty] (.agg (c28 ⟨⟨rep, num⟩, sku, qty⟩)) :=
  by
  refine st_con tab_ok (by kernel_rfl) [.cell 8 28] 15 Go.Proofs.Try.func15 (by kernel_rfl) (by kernel_rfl) ?_
  intro e0 cx
  refine sq ?_
  refine rg (A := True) cx [] [0, 1, 2, 3, 8] [8] trivial ?_
  refine sn ?_
  refine sq ?_
  refine rg (A := True) cx [] [8] [8] trivial ?_
  refine sn ?_
  refine st_ret (by kernel_rfl) ?_
  refine q_ret (r := .agg [.i .i64 (rep), .i .i64 (num), .s (sku), .i .i64 (qty)]) (obl := []) (by kernel_rfl) trivial (AVle.eq (show AV.agg [AV.i IntKind.i64 rep, AV.i IntKind.i64 num, AV.s sku, AV.i IntKind.i64 qty] = AV.agg (c28 { dot := { rep := rep, num := num : Dot }, sku := sku, qty := qty : Entry }) from ?g0)); rotate_left 1
  case g0 => exact rfl
theorem con14 (e : Entry) : Con Try.prog 14 [.agg (c28 e)] (.i .i64 (entE e)) :=
  by
  refine st_con tab_ok (by kernel_rfl) [.tmp 2] 39 Go.Proofs.Try.func14 (by kernel_rfl) (by kernel_rfl) ?_
  intro e0 cx
  refine sq ?_
  refine rg (A := True) cx [] [1] [1] trivial ?_
  refine sn ?_
  refine sq ?_
  refine st_block 0 (by kernel_rfl) ?_
  refine sq ?_
  refine st_join (σ' := ⟨[(1, .ptr (1) (0) (0) (0)), (3, .b (decide (e.dot.rep < (0 : Int) ∨ (16 : Int) ≤ e.dot.rep)))], [(1, ⟨0, 28, .var [.i .i64 (e.dot.rep), .i .i64 (e.dot.num), .s (e.sku), .i .i64 (e.qty)]⟩)]⟩) ?_ ?_
  refine st_split (e.dot.rep < (0 : Int)) (fun h_1 => ?_) (fun h_1 => ?_)
  refine rg (A := _ ∧ (AV.b true = AV.b (decide (e.dot.rep < (0 : Int) ∨ (16 : Int) ≤ e.dot.rep)))) cx [(3, { tell := some (.b (true)) }), (10, { tell := some (.b (decide (e.dot.rep < (0 : Int) ∨ (16 : Int) ≤ e.dot.rep))) })] [1, 3] [1] ⟨(told_true h_1), (by simp only [eq_true h_1, told_simp1, told_simp2, and_true, true_and, and_false, false_and, or_true, true_or, or_false, false_or, not_true_eq_false, not_false_eq_true, decide_true, decide_false, Bool.decide_eq_true])⟩ ?_
  exact ⟨rfl, by kernel_rfl⟩
  refine rg (A := _ ∧ (AV.b (decide (e.dot.rep ≥ (16 : Int))) = AV.b (decide ((16 : Int) ≤ e.dot.rep))) ∧ (AV.b (decide ((16 : Int) ≤ e.dot.rep)) = AV.b (decide (e.dot.rep < (0 : Int) ∨ (16 : Int) ≤ e.dot.rep)))) cx [(3, { tell := some (.b (false)) }), (8, { tell := some (.b (decide ((16 : Int) ≤ e.dot.rep))) }), (10, { tell := some (.b (decide (e.dot.rep < (0 : Int) ∨ (16 : Int) ≤ e.dot.rep))) })] [1, 3] [1] ⟨(told_false h_1), (by kernel_rfl), (by simp only [eq_false h_1, told_simp1, told_simp2, and_true, true_and, and_false, false_and, or_true, true_or, or_false, false_or, not_true_eq_false, not_false_eq_true, decide_true, decide_false, Bool.decide_eq_true])⟩ ?_
  exact ⟨rfl, by kernel_rfl⟩
  refine sn ?_
  refine st_dec (e.dot.rep < (0 : Int) ∨ (16 : Int) ≤ e.dot.rep) (by kernel_rfl) (by kernel_rfl) (fun h_2 => ?_) (fun h_2 => ?_)
  refine sq ?_
  refine rg (A := True) cx [] [2] [] trivial ?_
  refine sn ?_
  refine st_ret (by kernel_rfl) ?_
  refine q_blk_ret ?_
  refine q_seq_ret ?_
  refine q_ret (r := .i .i64 ((3 : Int))) (obl := []) (by kernel_rfl) trivial (AVle.eq (show AV.i IntKind.i64 (3 : Int) = AV.i IntKind.i64 (entE e) from ?g0)); rotate_left 1
  refine sq ?_
  refine st_join (σ' := ⟨[(1, .ptr (1) (0) (0) (0)), (14, .b (decide (e.dot.num < (1 : Int) ∨ (1000000000 : Int) < e.dot.num)))], [(1, ⟨0, 28, .var [.i .i64 (e.dot.rep), .i .i64 (e.dot.num), .s (e.sku), .i .i64 (e.qty)]⟩)]⟩) ?_ ?_
  refine st_split (e.dot.num < (1 : Int)) (fun h_4 => ?_) (fun h_4 => ?_)
  refine rg (A := _ ∧ (AV.b true = AV.b (decide (e.dot.num < (1 : Int) ∨ (1000000000 : Int) < e.dot.num)))) cx [(3, { tell := some (.b (true)) }), (10, { tell := some (.b (decide (e.dot.num < (1 : Int) ∨ (1000000000 : Int) < e.dot.num))) })] [1, 14] [1] ⟨(told_true h_4), (by simp only [eq_true h_4, told_simp1, told_simp2, and_true, true_and, and_false, false_and, or_true, true_or, or_false, false_or, not_true_eq_false, not_false_eq_true, decide_true, decide_false, Bool.decide_eq_true])⟩ ?_
  exact ⟨rfl, by kernel_rfl⟩
  refine rg (A := _ ∧ (AV.b (decide (e.dot.num > (1000000000 : Int))) = AV.b (decide ((1000000000 : Int) < e.dot.num))) ∧ (AV.b (decide ((1000000000 : Int) < e.dot.num)) = AV.b (decide (e.dot.num < (1 : Int) ∨ (1000000000 : Int) < e.dot.num)))) cx [(3, { tell := some (.b (false)) }), (8, { tell := some (.b (decide ((1000000000 : Int) < e.dot.num))) }), (10, { tell := some (.b (decide (e.dot.num < (1 : Int) ∨ (1000000000 : Int) < e.dot.num))) })] [1, 14] [1] ⟨(told_false h_4), (by kernel_rfl), (by simp only [eq_false h_4, told_simp1, told_simp2, and_true, true_and, and_false, false_and, or_true, true_or, or_false, false_or, not_true_eq_false, not_false_eq_true, decide_true, decide_false, Bool.decide_eq_true])⟩ ?_
  exact ⟨rfl, by kernel_rfl⟩
  refine sn ?_
  refine st_dec (e.dot.num < (1 : Int) ∨ (1000000000 : Int) < e.dot.num) (by kernel_rfl) (by kernel_rfl) (fun h_5 => ?_) (fun h_5 => ?_)
  refine sq ?_
  refine rg (A := True) cx [] [2] [] trivial ?_
  refine sn ?_
  refine st_ret (by kernel_rfl) ?_
  refine q_blk_ret ?_
  refine q_seq_ret ?_
  refine q_ret (r := .i .i64 ((2 : Int))) (obl := []) (by kernel_rfl) trivial (AVle.eq (show AV.i IntKind.i64 (2 : Int) = AV.i IntKind.i64 (entE e) from ?g1)); rotate_left 1
  refine sq ?_
  refine rg (A := _ ∧ ((AV.b !good e.sku) = AV.b (decide ¬good e.sku = true))) cx [(2, { val := some (.b (good e.sku)) }), (3, { tell := some (.b (decide ¬good e.sku = true)) })] [1, 25] [1] ⟨(con47 (e.sku)), (told_not)⟩ ?_
  refine sn ?_
  refine st_dec (¬good e.sku = true) (by kernel_rfl) (by kernel_rfl) (fun h_6 => ?_) (fun h_6 => ?_)
  refine sq ?_
  refine rg (A := True) cx [] [2] [] trivial ?_
  refine sn ?_
  refine st_ret (by kernel_rfl) ?_
  refine q_blk_ret ?_
  refine q_seq_ret ?_
  refine q_ret (r := .i .i64 ((5 : Int))) (obl := []) (by kernel_rfl) trivial (AVle.eq (show AV.i IntKind.i64 (5 : Int) = AV.i IntKind.i64 (entE e) from ?g2)); rotate_left 1
  refine sq ?_
  refine st_join (σ' := ⟨[(30, .b (decide (e.qty < (1 : Int) ∨ (1000000 : Int) < e.qty)))], []⟩) ?_ ?_
  refine st_split (e.qty < (1 : Int)) (fun h_8 => ?_) (fun h_8 => ?_)
  refine rg (A := _ ∧ (AV.b true = AV.b (decide (e.qty < (1 : Int) ∨ (1000000 : Int) < e.qty)))) cx [(2, { tell := some (.b (true)) }), (8, { tell := some (.b (decide (e.qty < (1 : Int) ∨ (1000000 : Int) < e.qty))) })] [30] [] ⟨(told_true h_8), (by simp only [eq_true h_8, told_simp1, told_simp2, and_true, true_and, and_false, false_and, or_true, true_or, or_false, false_or, not_true_eq_false, not_false_eq_true, decide_true, decide_false, Bool.decide_eq_true])⟩ ?_
  exact ⟨rfl, by kernel_rfl⟩
  refine rg (A := _ ∧ (AV.b (decide (e.qty > (1000000 : Int))) = AV.b (decide ((1000000 : Int) < e.qty))) ∧ (AV.b (decide ((1000000 : Int) < e.qty)) = AV.b (decide (e.qty < (1 : Int) ∨ (1000000 : Int) < e.qty)))) cx [(2, { tell := some (.b (false)) }), (6, { tell := some (.b (decide ((1000000 : Int) < e.qty))) }), (8, { tell := some (.b (decide (e.qty < (1 : Int) ∨ (1000000 : Int) < e.qty))) })] [30] [] ⟨(told_false h_8), (by kernel_rfl), (by simp only [eq_false h_8, told_simp1, told_simp2, and_true, true_and, and_false, false_and, or_true, true_or, or_false, false_or, not_true_eq_false, not_false_eq_true, decide_true, decide_false, Bool.decide_eq_true])⟩ ?_
  exact ⟨rfl, by kernel_rfl⟩
  refine sn ?_
  refine st_dec (e.qty < (1 : Int) ∨ (1000000 : Int) < e.qty) (by kernel_rfl) (by kernel_rfl) (fun h_9 => ?_) (fun h_9 => ?_)
  refine sq ?_
  refine rg (A := True) cx [] [2] [] trivial ?_
  refine sn ?_
  refine st_ret (by kernel_rfl) ?_
  refine q_blk_ret ?_
  refine q_seq_ret ?_
  refine q_ret (r := .i .i64 ((6 : Int))) (obl := []) (by kernel_rfl) trivial (AVle.eq (show AV.i IntKind.i64 (6 : Int) = AV.i IntKind.i64 (entE e) from ?g3)); rotate_left 1
  refine st_skip (by kernel_rfl) ?_
  refine q_blk_normal ?_
  refine sn ?_
  refine sq ?_
  refine rg (A := True) cx [] [2] [] trivial ?_
  refine sn ?_
  refine st_ret (by kernel_rfl) ?_
  refine q_ret (r := .i .i64 ((0 : Int))) (obl := []) (by kernel_rfl) trivial (AVle.eq (show AV.i IntKind.i64 (0 : Int) = AV.i IntKind.i64 (entE e) from ?g4)); rotate_left 1
  revert h_2; rotate_left
  revert h_2 h_5; rotate_left
  revert h_2 h_5 h_6; rotate_left
  revert h_2 h_5 h_6 h_9; rotate_left
  revert h_2 h_5 h_6 h_9; rotate_left
  case' g4 => refine (fun h k l m => ?_)
  case' g3 => refine (fun h k l m => ?_)
  case' g2 => refine (fun h k l => ?_)
  case' g1 => refine (fun h k => ?_)
  case' g0 => refine (fun h => ?_)
  all_goals (unfold entE)
  · rw [if_pos h]
  · rw [if_neg h, if_pos k]
  · rw [if_neg h, if_neg k, if_pos (by simpa using l)]
  · rw [if_neg h, if_neg k, if_neg (by simpa using l), if_pos m]
  · rw [if_neg h, if_neg k, if_neg (by simpa using l), if_neg m]
theorem con19 (e : Entry) : Con Try.prog 19 [.agg (c28 e)] (.i .i64 (entE e)) :=
  by
  refine st_con tab_ok (by kernel_rfl) [.tmp 2] 39 Go.Proofs.Try.func19 (by kernel_rfl) (by kernel_rfl) ?_
  intro e0 cx
  refine sq ?_
  refine rg (A := True) cx [] [1] [1] trivial ?_
  refine sn ?_
  refine sq ?_
  refine st_block 0 (by kernel_rfl) ?_
  refine sq ?_
  refine st_join (σ' := ⟨[(1, .ptr (1) (0) (0) (0)), (3, .b (decide (e.dot.rep < (0 : Int) ∨ (16 : Int) ≤ e.dot.rep)))], [(1, ⟨0, 28, .var [.i .i64 (e.dot.rep), .i .i64 (e.dot.num), .s (e.sku), .i .i64 (e.qty)]⟩)]⟩) ?_ ?_
  refine st_split (e.dot.rep < (0 : Int)) (fun h_1 => ?_) (fun h_1 => ?_)
  refine rg (A := _ ∧ (AV.b true = AV.b (decide (e.dot.rep < (0 : Int) ∨ (16 : Int) ≤ e.dot.rep)))) cx [(3, { tell := some (.b (true)) }), (10, { tell := some (.b (decide (e.dot.rep < (0 : Int) ∨ (16 : Int) ≤ e.dot.rep))) })] [1, 3] [1] ⟨(told_true h_1), (by simp only [eq_true h_1, told_simp1, told_simp2, and_true, true_and, and_false, false_and, or_true, true_or, or_false, false_or, not_true_eq_false, not_false_eq_true, decide_true, decide_false, Bool.decide_eq_true])⟩ ?_
  exact ⟨rfl, by kernel_rfl⟩
  refine rg (A := _ ∧ (AV.b (decide (e.dot.rep ≥ (16 : Int))) = AV.b (decide ((16 : Int) ≤ e.dot.rep))) ∧ (AV.b (decide ((16 : Int) ≤ e.dot.rep)) = AV.b (decide (e.dot.rep < (0 : Int) ∨ (16 : Int) ≤ e.dot.rep)))) cx [(3, { tell := some (.b (false)) }), (8, { tell := some (.b (decide ((16 : Int) ≤ e.dot.rep))) }), (10, { tell := some (.b (decide (e.dot.rep < (0 : Int) ∨ (16 : Int) ≤ e.dot.rep))) })] [1, 3] [1] ⟨(told_false h_1), (by kernel_rfl), (by simp only [eq_false h_1, told_simp1, told_simp2, and_true, true_and, and_false, false_and, or_true, true_or, or_false, false_or, not_true_eq_false, not_false_eq_true, decide_true, decide_false, Bool.decide_eq_true])⟩ ?_
  exact ⟨rfl, by kernel_rfl⟩
  refine sn ?_
  refine st_dec (e.dot.rep < (0 : Int) ∨ (16 : Int) ≤ e.dot.rep) (by kernel_rfl) (by kernel_rfl) (fun h_2 => ?_) (fun h_2 => ?_)
  refine sq ?_
  refine rg (A := True) cx [] [2] [] trivial ?_
  refine sn ?_
  refine st_ret (by kernel_rfl) ?_
  refine q_blk_ret ?_
  refine q_seq_ret ?_
  refine q_ret (r := .i .i64 ((3 : Int))) (obl := []) (by kernel_rfl) trivial (AVle.eq (show AV.i IntKind.i64 (3 : Int) = AV.i IntKind.i64 (entE e) from ?g0)); rotate_left 1
  refine sq ?_
  refine st_join (σ' := ⟨[(1, .ptr (1) (0) (0) (0)), (14, .b (decide (e.dot.num < (1 : Int) ∨ (1000000000 : Int) < e.dot.num)))], [(1, ⟨0, 28, .var [.i .i64 (e.dot.rep), .i .i64 (e.dot.num), .s (e.sku), .i .i64 (e.qty)]⟩)]⟩) ?_ ?_
  refine st_split (e.dot.num < (1 : Int)) (fun h_4 => ?_) (fun h_4 => ?_)
  refine rg (A := _ ∧ (AV.b true = AV.b (decide (e.dot.num < (1 : Int) ∨ (1000000000 : Int) < e.dot.num)))) cx [(3, { tell := some (.b (true)) }), (10, { tell := some (.b (decide (e.dot.num < (1 : Int) ∨ (1000000000 : Int) < e.dot.num))) })] [1, 14] [1] ⟨(told_true h_4), (by simp only [eq_true h_4, told_simp1, told_simp2, and_true, true_and, and_false, false_and, or_true, true_or, or_false, false_or, not_true_eq_false, not_false_eq_true, decide_true, decide_false, Bool.decide_eq_true])⟩ ?_
  exact ⟨rfl, by kernel_rfl⟩
  refine rg (A := _ ∧ (AV.b (decide (e.dot.num > (1000000000 : Int))) = AV.b (decide ((1000000000 : Int) < e.dot.num))) ∧ (AV.b (decide ((1000000000 : Int) < e.dot.num)) = AV.b (decide (e.dot.num < (1 : Int) ∨ (1000000000 : Int) < e.dot.num)))) cx [(3, { tell := some (.b (false)) }), (8, { tell := some (.b (decide ((1000000000 : Int) < e.dot.num))) }), (10, { tell := some (.b (decide (e.dot.num < (1 : Int) ∨ (1000000000 : Int) < e.dot.num))) })] [1, 14] [1] ⟨(told_false h_4), (by kernel_rfl), (by simp only [eq_false h_4, told_simp1, told_simp2, and_true, true_and, and_false, false_and, or_true, true_or, or_false, false_or, not_true_eq_false, not_false_eq_true, decide_true, decide_false, Bool.decide_eq_true])⟩ ?_
  exact ⟨rfl, by kernel_rfl⟩
  refine sn ?_
  refine st_dec (e.dot.num < (1 : Int) ∨ (1000000000 : Int) < e.dot.num) (by kernel_rfl) (by kernel_rfl) (fun h_5 => ?_) (fun h_5 => ?_)
  refine sq ?_
  refine rg (A := True) cx [] [2] [] trivial ?_
  refine sn ?_
  refine st_ret (by kernel_rfl) ?_
  refine q_blk_ret ?_
  refine q_seq_ret ?_
  refine q_ret (r := .i .i64 ((2 : Int))) (obl := []) (by kernel_rfl) trivial (AVle.eq (show AV.i IntKind.i64 (2 : Int) = AV.i IntKind.i64 (entE e) from ?g1)); rotate_left 1
  refine sq ?_
  refine rg (A := _ ∧ ((AV.b !good e.sku) = AV.b (decide ¬good e.sku = true))) cx [(2, { val := some (.b (good e.sku)) }), (3, { tell := some (.b (decide ¬good e.sku = true)) })] [1, 25] [1] ⟨(con50 (e.sku)), (told_not)⟩ ?_
  refine sn ?_
  refine st_dec (¬good e.sku = true) (by kernel_rfl) (by kernel_rfl) (fun h_6 => ?_) (fun h_6 => ?_)
  refine sq ?_
  refine rg (A := True) cx [] [2] [] trivial ?_
  refine sn ?_
  refine st_ret (by kernel_rfl) ?_
  refine q_blk_ret ?_
  refine q_seq_ret ?_
  refine q_ret (r := .i .i64 ((5 : Int))) (obl := []) (by kernel_rfl) trivial (AVle.eq (show AV.i IntKind.i64 (5 : Int) = AV.i IntKind.i64 (entE e) from ?g2)); rotate_left 1
  refine sq ?_
  refine st_join (σ' := ⟨[(30, .b (decide (e.qty < (1 : Int) ∨ (1000000 : Int) < e.qty)))], []⟩) ?_ ?_
  refine st_split (e.qty < (1 : Int)) (fun h_8 => ?_) (fun h_8 => ?_)
  refine rg (A := _ ∧ (AV.b true = AV.b (decide (e.qty < (1 : Int) ∨ (1000000 : Int) < e.qty)))) cx [(2, { tell := some (.b (true)) }), (8, { tell := some (.b (decide (e.qty < (1 : Int) ∨ (1000000 : Int) < e.qty))) })] [30] [] ⟨(told_true h_8), (by simp only [eq_true h_8, told_simp1, told_simp2, and_true, true_and, and_false, false_and, or_true, true_or, or_false, false_or, not_true_eq_false, not_false_eq_true, decide_true, decide_false, Bool.decide_eq_true])⟩ ?_
  exact ⟨rfl, by kernel_rfl⟩
  refine rg (A := _ ∧ (AV.b (decide (e.qty > (1000000 : Int))) = AV.b (decide ((1000000 : Int) < e.qty))) ∧ (AV.b (decide ((1000000 : Int) < e.qty)) = AV.b (decide (e.qty < (1 : Int) ∨ (1000000 : Int) < e.qty)))) cx [(2, { tell := some (.b (false)) }), (6, { tell := some (.b (decide ((1000000 : Int) < e.qty))) }), (8, { tell := some (.b (decide (e.qty < (1 : Int) ∨ (1000000 : Int) < e.qty))) })] [30] [] ⟨(told_false h_8), (by kernel_rfl), (by simp only [eq_false h_8, told_simp1, told_simp2, and_true, true_and, and_false, false_and, or_true, true_or, or_false, false_or, not_true_eq_false, not_false_eq_true, decide_true, decide_false, Bool.decide_eq_true])⟩ ?_
  exact ⟨rfl, by kernel_rfl⟩
  refine sn ?_
  refine st_dec (e.qty < (1 : Int) ∨ (1000000 : Int) < e.qty) (by kernel_rfl) (by kernel_rfl) (fun h_9 => ?_) (fun h_9 => ?_)
  refine sq ?_
  refine rg (A := True) cx [] [2] [] trivial ?_
  refine sn ?_
  refine st_ret (by kernel_rfl) ?_
  refine q_blk_ret ?_
  refine q_seq_ret ?_
  refine q_ret (r := .i .i64 ((6 : Int))) (obl := []) (by kernel_rfl) trivial (AVle.eq (show AV.i IntKind.i64 (6 : Int) = AV.i IntKind.i64 (entE e) from ?g3)); rotate_left 1
  refine st_skip (by kernel_rfl) ?_
  refine q_blk_normal ?_
  refine sn ?_
  refine sq ?_
  refine rg (A := True) cx [] [2] [] trivial ?_
  refine sn ?_
  refine st_ret (by kernel_rfl) ?_
  refine q_ret (r := .i .i64 ((0 : Int))) (obl := []) (by kernel_rfl) trivial (AVle.eq (show AV.i IntKind.i64 (0 : Int) = AV.i IntKind.i64 (entE e) from ?g4)); rotate_left 1
  revert h_2; rotate_left
  revert h_2 h_5; rotate_left
  revert h_2 h_5 h_6; rotate_left
  revert h_2 h_5 h_6 h_9; rotate_left
  revert h_2 h_5 h_6 h_9; rotate_left
  case' g4 => refine (fun h k l m => ?_)
  case' g3 => refine (fun h k l m => ?_)
  case' g2 => refine (fun h k l => ?_)
  case' g1 => refine (fun h k => ?_)
  case' g0 => refine (fun h => ?_)
  all_goals (unfold entE)
  · rw [if_pos h]
  · rw [if_neg h, if_pos k]
  · rw [if_neg h, if_neg k, if_pos (by simpa using l)]
  · rw [if_neg h, if_neg k, if_neg (by simpa using l), if_pos m]
  · rw [if_neg h, if_neg k, if_neg (by simpa using l), if_neg m]
theorem con48 (a b : Dot) : Con Try.prog 48 [.agg (c26 a), .agg (c26 b)] (.b (dLt a b)) :=
  by
  refine st_con tab_ok (by kernel_rfl) [.tmp 4] 24 Go.Proofs.Try.func48 (by kernel_rfl) (by kernel_rfl) ?_
  intro e0 cx
  refine sq ?_
  refine rg (A := True) cx [] [2, 3] [2, 3] trivial ?_
  refine sn ?_
  refine sq ?_
  refine st_join (σ' := ⟨[(4, .b (decide (a.rep < b.rep ∨ a.rep = b.rep ∧ a.num < b.num)))], []⟩) ?_ ?_
  refine st_split (a.rep < b.rep) (fun h_1 => ?_) (fun h_1 => ?_)
  refine rg (A := _ ∧ (AV.b true = AV.b (decide (a.rep < b.rep ∨ a.rep = b.rep ∧ a.num < b.num)))) cx [(4, { tell := some (.b (true)) }), (19, { tell := some (.b (decide (a.rep < b.rep ∨ a.rep = b.rep ∧ a.num < b.num))) })] [4] [] ⟨(told_true h_1), (by simp only [eq_true h_1, told_simp1, told_simp2, and_true, true_and, and_false, false_and, or_true, true_or, or_false, false_or, not_true_eq_false, not_false_eq_true, decide_true, decide_false, Bool.decide_eq_true])⟩ ?_
  exact ⟨rfl, by kernel_rfl⟩
  refine st_split (a.rep = b.rep) (fun h_2 => ?_) (fun h_2 => ?_)
  refine rg (A := _ ∧ _ ∧ (AV.b (decide (a.num < b.num)) = AV.b (decide (a.num < b.num))) ∧ (AV.b (decide (a.num < b.num)) = AV.b (decide (a.rep < b.rep ∨ a.rep = b.rep ∧ a.num < b.num)))) cx [(4, { tell := some (.b (false)) }), (10, { tell := some (.b (true)) }), (16, { tell := some (.b (decide (a.num < b.num))) }), (19, { tell := some (.b (decide (a.rep < b.rep ∨ a.rep = b.rep ∧ a.num < b.num))) })] [4] [] ⟨(told_false h_1), (told_true h_2), (by kernel_rfl), (by simp only [eq_false h_1, eq_true h_2, told_simp1, told_simp2, and_true, true_and, and_false, false_and, or_true, true_or, or_false, false_or, not_true_eq_false, not_false_eq_true, decide_true, decide_false, Bool.decide_eq_true])⟩ ?_
  exact ⟨rfl, by kernel_rfl⟩
  refine rg (A := _ ∧ _ ∧ (AV.b false = AV.b (decide (a.rep < b.rep ∨ a.rep = b.rep ∧ a.num < b.num)))) cx [(4, { tell := some (.b (false)) }), (10, { tell := some (.b (false)) }), (19, { tell := some (.b (decide (a.rep < b.rep ∨ a.rep = b.rep ∧ a.num < b.num))) })] [4] [] ⟨(told_false h_1), (told_false h_2), (by simp only [eq_false h_1, eq_false h_2, told_simp1, told_simp2, and_true, true_and, and_false, false_and, or_true, true_or, or_false, false_or, not_true_eq_false, not_false_eq_true, decide_true, decide_false, Bool.decide_eq_true])⟩ ?_
  exact ⟨rfl, by kernel_rfl⟩
  refine sn ?_
  refine st_ret (by kernel_rfl) ?_
  refine q_ret (r := .b (decide (a.rep < b.rep ∨ a.rep = b.rep ∧ a.num < b.num))) (obl := []) (by kernel_rfl) trivial (AVle.eq (show AV.b (decide (a.rep < b.rep ∨ a.rep = b.rep ∧ a.num < b.num)) = AV.b (dLt a b) from ?g0)); rotate_left 1
  case g0 => exact rfl
theorem con49 (a b : Dot) : Con Try.prog 49 [.agg (c26 a), .agg (c26 b)] (.b (dLt a b)) :=
  by
  refine st_con tab_ok (by kernel_rfl) [.tmp 4] 24 Go.Proofs.Try.func49 (by kernel_rfl) (by kernel_rfl) ?_
  intro e0 cx
  refine sq ?_
  refine rg (A := True) cx [] [2, 3] [2, 3] trivial ?_
  refine sn ?_
  refine sq ?_
  refine st_join (σ' := ⟨[(4, .b (decide (a.rep < b.rep ∨ a.rep = b.rep ∧ a.num < b.num)))], []⟩) ?_ ?_
  refine st_split (a.rep < b.rep) (fun h_1 => ?_) (fun h_1 => ?_)
  refine rg (A := _ ∧ (AV.b true = AV.b (decide (a.rep < b.rep ∨ a.rep = b.rep ∧ a.num < b.num)))) cx [(4, { tell := some (.b (true)) }), (19, { tell := some (.b (decide (a.rep < b.rep ∨ a.rep = b.rep ∧ a.num < b.num))) })] [4] [] ⟨(told_true h_1), (by simp only [eq_true h_1, told_simp1, told_simp2, and_true, true_and, and_false, false_and, or_true, true_or, or_false, false_or, not_true_eq_false, not_false_eq_true, decide_true, decide_false, Bool.decide_eq_true])⟩ ?_
  exact ⟨rfl, by kernel_rfl⟩
  refine st_split (a.rep = b.rep) (fun h_2 => ?_) (fun h_2 => ?_)
  refine rg (A := _ ∧ _ ∧ (AV.b (decide (a.num < b.num)) = AV.b (decide (a.num < b.num))) ∧ (AV.b (decide (a.num < b.num)) = AV.b (decide (a.rep < b.rep ∨ a.rep = b.rep ∧ a.num < b.num)))) cx [(4, { tell := some (.b (false)) }), (10, { tell := some (.b (true)) }), (16, { tell := some (.b (decide (a.num < b.num))) }), (19, { tell := some (.b (decide (a.rep < b.rep ∨ a.rep = b.rep ∧ a.num < b.num))) })] [4] [] ⟨(told_false h_1), (told_true h_2), (by kernel_rfl), (by simp only [eq_false h_1, eq_true h_2, told_simp1, told_simp2, and_true, true_and, and_false, false_and, or_true, true_or, or_false, false_or, not_true_eq_false, not_false_eq_true, decide_true, decide_false, Bool.decide_eq_true])⟩ ?_
  exact ⟨rfl, by kernel_rfl⟩
  refine rg (A := _ ∧ _ ∧ (AV.b false = AV.b (decide (a.rep < b.rep ∨ a.rep = b.rep ∧ a.num < b.num)))) cx [(4, { tell := some (.b (false)) }), (10, { tell := some (.b (false)) }), (19, { tell := some (.b (decide (a.rep < b.rep ∨ a.rep = b.rep ∧ a.num < b.num))) })] [4] [] ⟨(told_false h_1), (told_false h_2), (by simp only [eq_false h_1, eq_false h_2, told_simp1, told_simp2, and_true, true_and, and_false, false_and, or_true, true_or, or_false, false_or, not_true_eq_false, not_false_eq_true, decide_true, decide_false, Bool.decide_eq_true])⟩ ?_
  exact ⟨rfl, by kernel_rfl⟩
  refine sn ?_
  refine st_ret (by kernel_rfl) ?_
  refine q_ret (r := .b (decide (a.rep < b.rep ∨ a.rep = b.rep ∧ a.num < b.num))) (obl := []) (by kernel_rfl) trivial (AVle.eq (show AV.b (decide (a.rep < b.rep ∨ a.rep = b.rep ∧ a.num < b.num)) = AV.b (dLt a b) from ?g0)); rotate_left 1
  case g0 => exact rfl
theorem con16 (es : List Entry) : Con Try.prog 16 [.sl (es.map c28)] (.i .i64 (lstE es)) :=
  by
  have e : ∀ {i : Int}, 0 ≤ i → (i - 1).toNat = i.toNat - 1 := fun {i} h => by omega
  refine con_lens 0 (c28) (es) (by kernel_rfl) Go.Proofs.Try.func16 (by kernel_rfl) fun hl_0 => ?_
  refine st_con tab_ok (by kernel_rfl) [.tmp 2] 32 Go.Proofs.Try.func16 (by kernel_rfl) (by kernel_rfl) ?_
  intro e0 cx
  refine sq ?_
  refine rg (A := True) cx [] [0] [] trivial ?_
  refine sn ?_
  refine sq ?_
  refine sq ?_
  refine rg (A := _) cx [(1, { tell := some (.i .i64 ((↑es.length : Int))) })] [0, 5, 6, 7] [] (told_len c28 es) ?_
  refine sn ?_
  refine st_block 0 (by kernel_rfl) ?_
  refine st_loop (X := Int) (fun x => ⟨[(0, .sl (List.map c28 es)), (5, .sl (List.map c28 es)), (6, .i .i64 ((↑es.length : Int))), (7, .i .i64 (x))], []⟩) (fun x ↦ decL es x) (fun x ↦ invL es x) [0, 5, 6, 7] [] ((0 : Int)) (by kernel_rfl) (by kernel_rfl) (show invL es (0 : Int) from ?g0) ?_; rotate_left 1
  intro i_0 h_1
  obtain ⟨h_2, h_3, h_4⟩ : (0 : Int) ≤ i_0 ∧ i_0 ≤ (↑es.length : Int) ∧ ∀ (j : Nat), (↑j : Int) < i_0 → okAt es j = true := h_1
  refine sq ?_
  refine rg (A := (AV.b (decide (i_0 < (↑es.length : Int))) = AV.b (decide (i_0 < (↑es.length : Int))))) cx [(0, { tell := some (.b (decide (i_0 < (↑es.length : Int)))) })] [0, 5, 6, 7, 8] [] (by kernel_rfl) ?_
  refine sn ?_
  refine sq ?_
  refine st_dec (i_0 < (↑es.length : Int)) (by kernel_rfl) (by kernel_rfl) (fun h_5 => ?_) (fun h_5 => ?_)
  refine st_skip (by kernel_rfl) ?_
  refine sn ?_
  refine sq ?_
  refine st_block 1 (by kernel_rfl) ?_
  refine sq ?_
  refine rg (A := ((0 : Int) ≤ i_0) ∧ ((List.map c28 es)[i_0.toNat]? = some (c28 es[i_0.toNat]!)) ∧ ((c28 es[i_0.toNat]!).length = (4 : Nat)) ∧ ((4 : Nat) ≤ [AV.i IntKind.i64 es[i_0.toNat]!.dot.rep, AV.i IntKind.i64 es[i_0.toNat]!.dot.num, AV.s es[i_0.toNat]!.sku, AV.i IntKind.i64 es[i_0.toNat]!.qty].length)) cx [(1, { row := (c28 es[i_0.toNat]!) })] [0, 5, 6, 7, 4, 3] [4] ⟨(by (with_reducible assumption)), (by (with_reducible refine get_map ?_; omega)), (by kernel_rfl), (by (simp only [List.length_append, List.length_cons, List.length_nil]; omega))⟩ ?_
  refine sn ?_
  refine sq ?_
  refine st_join (σ' := ⟨[(0, .sl (List.map c28 es)), (5, .sl (List.map c28 es)), (6, .i .i64 ((↑es.length : Int))), (7, .i .i64 (i_0)), (30, .b (decide (¬entE es[i_0.toNat]! = (0 : Int) ∨ (0 : Int) < i_0 ∧ ¬dLt es[(i_0 - (1 : Int)).toNat]!.dot es[i_0.toNat]!.dot = true)))], []⟩) ?_ ?_
  refine st_split (¬entE es[i_0.toNat]! = (0 : Int)) (fun h_7 => ?_) (fun h_7 => ?_)
  refine ra (A := _ ∧ (AV.b (entE es[i_0.toNat]! != (0 : Int)) = AV.b true) ∧ (AV.b true = AV.b (decide (¬entE es[i_0.toNat]! = (0 : Int) ∨ (0 : Int) < i_0 ∧ ¬dLt es[(i_0 - (1 : Int)).toNat]!.dot es[i_0.toNat]!.dot = true)))) cx [(1, { val := some (.i .i64 (entE es[i_0.toNat]!)) }), (2, { tell := some (.b (true)) }), (18, { tell := some (.b (decide (¬entE es[i_0.toNat]! = (0 : Int) ∨ (0 : Int) < i_0 ∧ ¬dLt es[(i_0 - (1 : Int)).toNat]!.dot es[i_0.toNat]!.dot = true))) })] [0, 5, 6, 7, 30] [] ⟨(con14 (es[i_0.toNat]!)), (told_neqt h_7), (by simp only [eq_false h_7, told_simp1, told_simp2, and_true, true_and, and_false, false_and, or_true, true_or, or_false, false_or, not_true_eq_false, not_false_eq_true, decide_true, decide_false, Bool.decide_eq_true])⟩ ?_
  exact ⟨rfl, by kernel_rfl⟩
  refine st_split ((0 : Int) < i_0) (fun h_8 => ?_) (fun h_8 => ?_)
  refine ra (A := _ ∧ (AV.b (entE es[i_0.toNat]! != (0 : Int)) = AV.b (decide ¬entE es[i_0.toNat]! = (0 : Int))) ∧ _ ∧ _ ∧ (AV.i IntKind.i64 (IntKind.i64.wrap (i_0 - (1 : Int))) = AV.i IntKind.i64 (i_0 - (1 : Int))) ∧ ((0 : Int) ≤ i_0 - (1 : Int)) ∧ ((List.map c28 es)[(i_0 - (1 : Int)).toNat]? = some (c28 es[(i_0 - (1 : Int)).toNat]!)) ∧ ((c28 es[(i_0 - (1 : Int)).toNat]!).length = (4 : Nat)) ∧ ((2 : Nat) ≤ [AV.i IntKind.i64 es[(i_0 - (1 : Int)).toNat]!.dot.rep, AV.i IntKind.i64 es[(i_0 - (1 : Int)).toNat]!.dot.num, AV.s es[(i_0 - (1 : Int)).toNat]!.sku, AV.i IntKind.i64 es[(i_0 - (1 : Int)).toNat]!.qty].length) ∧ _ ∧ ((AV.b !dLt es[(i_0 - (1 : Int)).toNat]!.dot es[i_0.toNat]!.dot) = AV.b (decide ¬dLt es[(i_0 - (1 : Int)).toNat]!.dot es[i_0.toNat]!.dot = true)) ∧ (AV.b (decide ¬dLt es[(i_0 - (1 : Int)).toNat]!.dot es[i_0.toNat]!.dot = true) = AV.b (decide (¬entE es[i_0.toNat]! = (0 : Int) ∨ (0 : Int) < i_0 ∧ ¬dLt es[(i_0 - (1 : Int)).toNat]!.dot es[i_0.toNat]!.dot = true)))) cx [(1, { val := some (.i .i64 (entE es[i_0.toNat]!)) }), (2, { tell := some (.b (decide ¬entE es[i_0.toNat]! = (0 : Int))) }), (3, { tell := some (.b (false)) }), (5, { tell := some (.b (true)) }), (9, { tell := some (.i .i64 (i_0 - (1 : Int))) }), (10, { row := (c28 es[(i_0 - (1 : Int)).toNat]!) }), (15, { val := some (.b (dLt es[(i_0 - (1 : Int)).toNat]!.dot es[i_0.toNat]!.dot)) }), (16, { tell := some (.b (decide ¬dLt es[(i_0 - (1 : Int)).toNat]!.dot es[i_0.toNat]!.dot = true)) }), (18, { tell := some (.b (decide (¬entE es[i_0.toNat]! = (0 : Int) ∨ (0 : Int) < i_0 ∧ ¬dLt es[(i_0 - (1 : Int)).toNat]!.dot es[i_0.toNat]!.dot = true))) })] [0, 5, 6, 7, 30] [] ⟨(con14 (es[i_0.toNat]!)), (told_neq), (told_false h_7), (told_true h_8), (told_i64 (by omega) (by omega)), (by omega), (by (with_reducible refine get_map ?_; omega)), (by kernel_rfl), (by (simp only [List.length_append, List.length_cons, List.length_nil]; omega)), (con48 (es[(i_0 - (1 : Int)).toNat]!.dot) (es[i_0.toNat]!.dot)), (told_not), (by simp only [eq_false h_7, eq_true h_8, told_simp1, told_simp2, and_true, true_and, and_false, false_and, or_true, true_or, or_false, false_or, not_true_eq_false, not_false_eq_true, decide_true, decide_false, Bool.decide_eq_true])⟩ ?_
  exact ⟨rfl, by kernel_rfl⟩
  refine ra (A := _ ∧ (AV.b (entE es[i_0.toNat]! != (0 : Int)) = AV.b (decide ¬entE es[i_0.toNat]! = (0 : Int))) ∧ _ ∧ _ ∧ (AV.b false = AV.b (decide (¬entE es[i_0.toNat]! = (0 : Int) ∨ (0 : Int) < i_0 ∧ ¬dLt es[(i_0 - (1 : Int)).toNat]!.dot es[i_0.toNat]!.dot = true)))) cx [(1, { val := some (.i .i64 (entE es[i_0.toNat]!)) }), (2, { tell := some (.b (decide ¬entE es[i_0.toNat]! = (0 : Int))) }), (3, { tell := some (.b (false)) }), (5, { tell := some (.b (false)) }), (18, { tell := some (.b (decide (¬entE es[i_0.toNat]! = (0 : Int) ∨ (0 : Int) < i_0 ∧ ¬dLt es[(i_0 - (1 : Int)).toNat]!.dot es[i_0.toNat]!.dot = true))) })] [0, 5, 6, 7, 30] [] ⟨(con14 (es[i_0.toNat]!)), (told_neq), (told_false h_7), (told_false h_8), (by simp only [eq_false h_7, eq_false h_8, told_simp1, told_simp2, and_true, true_and, and_false, false_and, or_true, true_or, or_false, false_or, not_true_eq_false, not_false_eq_true, decide_true, decide_false, Bool.decide_eq_true])⟩ ?_
  exact ⟨rfl, by kernel_rfl⟩
  refine sn ?_
  refine st_dec (¬entE es[i_0.toNat]! = (0 : Int) ∨ (0 : Int) < i_0 ∧ ¬dLt es[(i_0 - (1 : Int)).toNat]!.dot es[i_0.toNat]!.dot = true) (by kernel_rfl) (by kernel_rfl) (fun h_9 => ?_) (fun h_9 => ?_)
  refine sq ?_
  refine rg (A := True) cx [] [2] [] trivial ?_
  refine sn ?_
  refine st_ret (by kernel_rfl) ?_
  refine q_blk_ret ?_
  refine q_seq_ret ?_
  refine q_seq_ret ?_
  refine q_blk_ret ?_
  refine q_seq_ret ?_
  refine q_ret (r := .i .i64 ((1 : Int))) (obl := []) (by kernel_rfl) trivial (AVle.eq (show AV.i IntKind.i64 (1 : Int) = AV.i IntKind.i64 (lstE es) from ?g1)); rotate_left 1
  refine st_skip (by kernel_rfl) ?_
  refine q_blk_normal ?_
  refine sn ?_
  refine rg (A := (AV.i IntKind.i64 (IntKind.i64.wrap (i_0 + (1 : Int))) = AV.i IntKind.i64 (i_0 + (1 : Int)))) cx [(0, { tell := some (.i .i64 (i_0 + (1 : Int))) })] [0, 5, 6, 7] [] (told_i64 (by omega) (by omega)) ?_
  refine sn ?_
  refine loop_next (i_0 + (1 : Int)) (by kernel_rfl) (show ((↑es.length : Int) - (i_0 + (1 : Int))).toNat < ((↑es.length : Int) - i_0).toNat from (by omega)) (show invL es (i_0 + (1 : Int)) from ?g2); rotate_left 1
  refine st_exit 0 (by kernel_rfl) ?_
  refine q_seq_exit ?_
  refine q_seq_exit ?_
  refine q_blk_hit ?_
  refine sn ?_
  refine sq ?_
  refine rg (A := True) cx [] [2] [] trivial ?_
  refine sn ?_
  refine st_ret (by kernel_rfl) ?_
  refine q_ret (r := .i .i64 ((0 : Int))) (obl := []) (by kernel_rfl) trivial (AVle.eq (show AV.i IntKind.i64 (0 : Int) = AV.i IntKind.i64 (lstE es) from ?g3)); rotate_left 1
  rotate_left
  revert i_0 h_2 h_3 h_4 h_5 h_9; rotate_left
  revert i_0 h_2 h_3 h_4 h_5 h_9; rotate_left
  revert i_0 h_2 h_3 h_4 h_5; rotate_left
  case g0 => exact ⟨by omega, by omega, fun j hj => by omega⟩
  case' g3 => refine (fun i h0 h1 h2 h3 => ?_)
  case' g2 => refine (fun i h0 h1 h2 h3 h4 => ?_)
  case' g1 => refine (fun i h0 h1 h2 h3 h4 => ?_)
  · rw [lstE_bad (i := i.toNat) (by omega) (not_okAt _)]
    rw [e h0] at h4
    rw [okAt_iff]; rintro ⟨a, b⟩
    rcases h4 with h4 | ⟨h4, h5⟩
    · exact h4 a
    · rcases b with b | b
      · omega
      · exact h5 b
  · rw [e h0] at h4
    refine invL_step h0 h3 h2 ((okAt_iff _ _).2 ⟨Classical.byContradiction fun a => h4 (.inl a), ?_⟩)
    by_cases c : i.toNat = 0
    · exact .inl c
    · exact .inr (Classical.byContradiction fun a => h4 (.inr ⟨by omega, a⟩))
  · rw [lstE_ok fun j hj => h2 j (by omega)]
theorem con18 (es : List Entry) : Con Try.prog 18 [.sl (es.map c28)] (.i .i64 (lstE es)) :=
  by
  have e : ∀ {i : Int}, 0 ≤ i → (i - 1).toNat = i.toNat - 1 := fun {i} h => by omega
  refine con_lens 0 (c28) (es) (by kernel_rfl) Go.Proofs.Try.func18 (by kernel_rfl) fun hl_0 => ?_
  refine st_con tab_ok (by kernel_rfl) [.tmp 2] 33 Go.Proofs.Try.func18 (by kernel_rfl) (by kernel_rfl) ?_
  intro e0 cx
  refine sq ?_
  refine rg (A := True) cx [] [0] [] trivial ?_
  refine sn ?_
  refine sq ?_
  refine sq ?_
  refine rg (A := True) cx [] [0, 3] [] trivial ?_
  refine sn ?_
  refine st_block 0 (by kernel_rfl) ?_
  refine st_loop (X := Int) (fun x => ⟨[(0, .sl (List.map c28 es)), (3, .i .i64 (x))], []⟩) (fun x ↦ decL es x) (fun x ↦ invL es x) [0, 3] [] ((0 : Int)) (by kernel_rfl) (by kernel_rfl) (show invL es (0 : Int) from ?g0) ?_; rotate_left 1
  intro i_0 h_1
  obtain ⟨h_2, h_3, h_4⟩ : (0 : Int) ≤ i_0 ∧ i_0 ≤ (↑es.length : Int) ∧ ∀ (j : Nat), (↑j : Int) < i_0 → okAt es j = true := h_1
  refine sq ?_
  refine sq ?_
  refine rg (A := _ ∧ (AV.b (decide (i_0 < (↑es.length : Int))) = AV.b (decide (i_0 < (↑es.length : Int))))) cx [(2, { tell := some (.i .i64 ((↑es.length : Int))) }), (3, { tell := some (.b (decide (i_0 < (↑es.length : Int)))) })] [0, 3, 7] [] ⟨(told_len c28 es), (by kernel_rfl)⟩ ?_
  refine sn ?_
  refine st_dec (i_0 < (↑es.length : Int)) (by kernel_rfl) (by kernel_rfl) (fun h_5 => ?_) (fun h_5 => ?_)
  refine st_skip (by kernel_rfl) ?_
  refine sn ?_
  refine sq ?_
  refine st_block 1 (by kernel_rfl) ?_
  refine sq ?_
  refine sq ?_
  refine rg (A := ((0 : Int) ≤ i_0) ∧ ((List.map c28 es)[i_0.toNat]? = some (c28 es[i_0.toNat]!)) ∧ ((c28 es[i_0.toNat]!).length = (4 : Nat)) ∧ ((4 : Nat) ≤ [AV.i IntKind.i64 es[i_0.toNat]!.dot.rep, AV.i IntKind.i64 es[i_0.toNat]!.dot.num, AV.s es[i_0.toNat]!.sku, AV.i IntKind.i64 es[i_0.toNat]!.qty].length) ∧ _ ∧ (AV.b (entE es[i_0.toNat]! != (0 : Int)) = AV.b (decide ¬entE es[i_0.toNat]! = (0 : Int)))) cx [(2, { row := (c28 es[i_0.toNat]!) }), (4, { val := some (.i .i64 (entE es[i_0.toNat]!)) }), (5, { tell := some (.b (decide ¬entE es[i_0.toNat]! = (0 : Int))) })] [0, 3, 15] [] ⟨(by (with_reducible assumption)), (by (with_reducible refine get_map ?_; omega)), (by kernel_rfl), (by (simp only [List.length_append, List.length_cons, List.length_nil]; omega)), (con19 (es[i_0.toNat]!)), (told_neq)⟩ ?_
  refine sn ?_
  refine st_dec (¬entE es[i_0.toNat]! = (0 : Int)) (by kernel_rfl) (by kernel_rfl) (fun h_6 => ?_) (fun h_6 => ?_)
  refine sq ?_
  refine rg (A := True) cx [] [2] [] trivial ?_
  refine sn ?_
  refine st_ret (by kernel_rfl) ?_
  refine q_seq_ret ?_
  refine q_blk_ret ?_
  refine q_seq_ret ?_
  refine q_seq_ret ?_
  refine q_blk_ret ?_
  refine q_seq_ret ?_
  refine q_ret (r := .i .i64 ((1 : Int))) (obl := []) (by kernel_rfl) trivial (AVle.eq (show AV.i IntKind.i64 (1 : Int) = AV.i IntKind.i64 (lstE es) from ?g1)); rotate_left 1
  refine st_skip (by kernel_rfl) ?_
  refine sn ?_
  refine sq ?_
  refine st_join (σ' := ⟨[(0, .sl (List.map c28 es)), (3, .i .i64 (i_0)), (32, .b (decide ((0 : Int) < i_0 ∧ ¬dLt es[(i_0 - (1 : Int)).toNat]!.dot es[i_0.toNat]!.dot = true)))], []⟩) ?_ ?_
  refine st_split ((0 : Int) < i_0) (fun h_8 => ?_) (fun h_8 => ?_)
  refine ra (A := _ ∧ (AV.i IntKind.i64 (IntKind.i64.wrap (i_0 - (1 : Int))) = AV.i IntKind.i64 (i_0 - (1 : Int))) ∧ ((0 : Int) ≤ i_0 - (1 : Int)) ∧ ((List.map c28 es)[(i_0 - (1 : Int)).toNat]? = some (c28 es[(i_0 - (1 : Int)).toNat]!)) ∧ ((c28 es[(i_0 - (1 : Int)).toNat]!).length = (4 : Nat)) ∧ ((2 : Nat) ≤ [AV.i IntKind.i64 es[(i_0 - (1 : Int)).toNat]!.dot.rep, AV.i IntKind.i64 es[(i_0 - (1 : Int)).toNat]!.dot.num, AV.s es[(i_0 - (1 : Int)).toNat]!.sku, AV.i IntKind.i64 es[(i_0 - (1 : Int)).toNat]!.qty].length) ∧ ((0 : Int) ≤ i_0) ∧ ((List.map c28 es)[i_0.toNat]? = some (c28 es[i_0.toNat]!)) ∧ ((c28 es[i_0.toNat]!).length = (4 : Nat)) ∧ ((2 : Nat) ≤ [AV.i IntKind.i64 es[i_0.toNat]!.dot.rep, AV.i IntKind.i64 es[i_0.toNat]!.dot.num, AV.s es[i_0.toNat]!.sku, AV.i IntKind.i64 es[i_0.toNat]!.qty].length) ∧ _ ∧ ((AV.b !dLt es[(i_0 - (1 : Int)).toNat]!.dot es[i_0.toNat]!.dot) = AV.b (decide ¬dLt es[(i_0 - (1 : Int)).toNat]!.dot es[i_0.toNat]!.dot = true)) ∧ (AV.b (decide ¬dLt es[(i_0 - (1 : Int)).toNat]!.dot es[i_0.toNat]!.dot = true) = AV.b (decide ((0 : Int) < i_0 ∧ ¬dLt es[(i_0 - (1 : Int)).toNat]!.dot es[i_0.toNat]!.dot = true)))) cx [(1, { tell := some (.b (true)) }), (5, { tell := some (.i .i64 (i_0 - (1 : Int))) }), (6, { row := (c28 es[(i_0 - (1 : Int)).toNat]!) }), (11, { row := (c28 es[i_0.toNat]!) }), (14, { val := some (.b (dLt es[(i_0 - (1 : Int)).toNat]!.dot es[i_0.toNat]!.dot)) }), (15, { tell := some (.b (decide ¬dLt es[(i_0 - (1 : Int)).toNat]!.dot es[i_0.toNat]!.dot = true)) }), (16, { tell := some (.b (decide ((0 : Int) < i_0 ∧ ¬dLt es[(i_0 - (1 : Int)).toNat]!.dot es[i_0.toNat]!.dot = true))) })] [0, 3, 32] [] ⟨(told_true h_8), (told_i64 (by omega) (by omega)), (by omega), (by (with_reducible refine get_map ?_; omega)), (by kernel_rfl), (by (simp only [List.length_append, List.length_cons, List.length_nil]; omega)), (by (with_reducible assumption)), (by (with_reducible refine get_map ?_; omega)), (by kernel_rfl), (by (simp only [List.length_append, List.length_cons, List.length_nil]; omega)), (con49 (es[(i_0 - (1 : Int)).toNat]!.dot) (es[i_0.toNat]!.dot)), (told_not), (by simp only [eq_true h_8, told_simp1, told_simp2, and_true, true_and, and_false, false_and, or_true, true_or, or_false, false_or, not_true_eq_false, not_false_eq_true, decide_true, decide_false, Bool.decide_eq_true])⟩ ?_
  exact ⟨rfl, by kernel_rfl⟩
  refine ra (A := _ ∧ (AV.b false = AV.b (decide ((0 : Int) < i_0 ∧ ¬dLt es[(i_0 - (1 : Int)).toNat]!.dot es[i_0.toNat]!.dot = true)))) cx [(1, { tell := some (.b (false)) }), (16, { tell := some (.b (decide ((0 : Int) < i_0 ∧ ¬dLt es[(i_0 - (1 : Int)).toNat]!.dot es[i_0.toNat]!.dot = true))) })] [0, 3, 32] [] ⟨(told_false h_8), (by simp only [eq_false h_8, told_simp1, told_simp2, and_true, true_and, and_false, false_and, or_true, true_or, or_false, false_or, not_true_eq_false, not_false_eq_true, decide_true, decide_false, Bool.decide_eq_true])⟩ ?_
  exact ⟨rfl, by kernel_rfl⟩
  refine sn ?_
  refine st_dec ((0 : Int) < i_0 ∧ ¬dLt es[(i_0 - (1 : Int)).toNat]!.dot es[i_0.toNat]!.dot = true) (by kernel_rfl) (by kernel_rfl) (fun h_9 => ?_) (fun h_9 => ?_)
  refine sq ?_
  refine rg (A := True) cx [] [2] [] trivial ?_
  refine sn ?_
  refine st_ret (by kernel_rfl) ?_
  refine q_blk_ret ?_
  refine q_seq_ret ?_
  refine q_seq_ret ?_
  refine q_blk_ret ?_
  refine q_seq_ret ?_
  refine q_ret (r := .i .i64 ((1 : Int))) (obl := []) (by kernel_rfl) trivial (AVle.eq (show AV.i IntKind.i64 (1 : Int) = AV.i IntKind.i64 (lstE es) from ?g2)); rotate_left 1
  refine st_skip (by kernel_rfl) ?_
  refine q_blk_normal ?_
  refine sn ?_
  refine rg (A := (AV.i IntKind.i64 (IntKind.i64.wrap (i_0 + (1 : Int))) = AV.i IntKind.i64 (i_0 + (1 : Int)))) cx [(1, { tell := some (.i .i64 (i_0 + (1 : Int))) })] [0, 3] [] (told_i64 (by omega) (by omega)) ?_
  refine sn ?_
  refine loop_next (i_0 + (1 : Int)) (by kernel_rfl) (show ((↑es.length : Int) - (i_0 + (1 : Int))).toNat < ((↑es.length : Int) - i_0).toNat from (by omega)) (show invL es (i_0 + (1 : Int)) from ?g3); rotate_left 1
  refine st_exit 0 (by kernel_rfl) ?_
  refine q_seq_exit ?_
  refine q_seq_exit ?_
  refine q_blk_hit ?_
  refine sn ?_
  refine sq ?_
  refine rg (A := True) cx [] [2] [] trivial ?_
  refine sn ?_
  refine st_ret (by kernel_rfl) ?_
  refine q_ret (r := .i .i64 ((0 : Int))) (obl := []) (by kernel_rfl) trivial (AVle.eq (show AV.i IntKind.i64 (0 : Int) = AV.i IntKind.i64 (lstE es) from ?g4)); rotate_left 1
  rotate_left
  revert i_0 h_2 h_3 h_4 h_5 h_6; rotate_left
  revert i_0 h_2 h_3 h_4 h_5 h_6 h_9; rotate_left
  revert i_0 h_2 h_3 h_4 h_5 h_6 h_9; rotate_left
  revert i_0 h_2 h_3 h_4 h_5; rotate_left
  case g0 => exact ⟨by omega, by omega, fun j hj => by omega⟩
  case' g4 => refine (fun i h0 h1 h2 h3 => ?_)
  case' g3 => refine (fun i h0 h1 h2 h3 h4 h5 => ?_)
  case' g2 => refine (fun i h0 h1 h2 h3 h4 h5 => ?_)
  case' g1 => refine (fun i h0 h1 h2 h3 h4 => ?_)
  · rw [lstE_bad (i := i.toNat) (by omega) (not_okAt _)]
    rw [okAt_iff]; rintro ⟨a, b⟩; exact h4 a
  · rw [lstE_bad (i := i.toNat) (by omega) (not_okAt _)]
    rw [e h0] at h5
    rw [okAt_iff]; rintro ⟨a, b⟩
    rcases b with b | b
    · omega
    · exact h5.2 b
  · rw [e h0] at h5
    refine invL_step h0 h3 h2 ((okAt_iff _ _).2 ⟨Classical.not_not.1 h4, ?_⟩)
    by_cases c : i.toNat = 0
    · exact .inl c
    · exact .inr (Classical.byContradiction fun a => h5 ⟨by omega, a⟩)
  · rw [lstE_ok fun j hj => h2 j (by omega)]
end Go.Proofs.Ytjngmlkaijpbgaa
namespace Go.Proofs.Ytjngmlkaijpbgaa
open Go.E
set_option maxRecDepth 100000
set_option maxHeartbeats 4000000
def someL : List Entry := [⟨⟨0, 3⟩, ⟨#[65]⟩, 5⟩, ⟨⟨1, 1⟩, ⟨#[66]⟩, 2⟩, ⟨⟨1, 4⟩, ⟨#[65]⟩, 1⟩]
theorem con17  : Con Try.prog 17 [] (.sl (someL.map c28)) :=
  by
  refine st_con tab_ok (by kernel_rfl) [.tmp 0] 5 Go.Proofs.Try.func17 (by kernel_rfl) (by kernel_rfl) ?_
  intro e0 cx
  refine sq ?_
  refine rg (A := True) cx [] [] [] trivial ?_
  refine sn ?_
  refine sq ?_
  refine rg (A := _ ∧ _ ∧ _) cx [(0, { val := some (resC (con15 ((0 : Int)) ((3 : Int)) ({ data := #[(65 : UInt8)] : ByteArray }) ((5 : Int)))) }), (1, { val := some (resC (con15 ((1 : Int)) ((1 : Int)) ({ data := #[(66 : UInt8)] : ByteArray }) ((2 : Int)))) }), (2, { val := some (resC (con15 ((1 : Int)) ((4 : Int)) ({ data := #[(65 : UInt8)] : ByteArray }) ((1 : Int)))) })] [0] [4] ⟨(con15 ((0 : Int)) ((3 : Int)) ({ data := #[(65 : UInt8)] : ByteArray }) ((5 : Int))), (con15 ((1 : Int)) ((1 : Int)) ({ data := #[(66 : UInt8)] : ByteArray }) ((2 : Int))), (con15 ((1 : Int)) ((4 : Int)) ({ data := #[(65 : UInt8)] : ByteArray }) ((1 : Int)))⟩ ?_
  refine sn ?_
  refine st_ret (by kernel_rfl) ?_
  refine q_ret (r := .sl (List.map c28 [{ dot := { rep := (0 : Int), num := (3 : Int) : Dot }, sku := { dot := { rep := (0 : Int), num := (3 : Int) : Dot }, sku := { data := #[(65 : UInt8)] : ByteArray }, qty := (5 : Int) : Entry }.sku, qty := (5 : Int) : Entry }, { dot := { rep := (1 : Int), num := (1 : Int) : Dot }, sku := { dot := { rep := (1 : Int), num := (1 : Int) : Dot }, sku := { data := #[(66 : UInt8)] : ByteArray }, qty := (2 : Int) : Entry }.sku, qty := (2 : Int) : Entry }, { dot := { rep := (1 : Int), num := (4 : Int) : Dot }, sku := { dot := { rep := (1 : Int), num := (4 : Int) : Dot }, sku := { data := #[(65 : UInt8)] : ByteArray }, qty := (1 : Int) : Entry }.sku, qty := (1 : Int) : Entry }])) (obl := []) (by kernel_rfl) trivial (AVle.eq (show AV.sl (List.map c28 [{ dot := { rep := (0 : Int), num := (3 : Int) : Dot }, sku := { dot := { rep := (0 : Int), num := (3 : Int) : Dot }, sku := { data := #[(65 : UInt8)] : ByteArray }, qty := (5 : Int) : Entry }.sku, qty := (5 : Int) : Entry }, { dot := { rep := (1 : Int), num := (1 : Int) : Dot }, sku := { dot := { rep := (1 : Int), num := (1 : Int) : Dot }, sku := { data := #[(66 : UInt8)] : ByteArray }, qty := (2 : Int) : Entry }.sku, qty := (2 : Int) : Entry }, { dot := { rep := (1 : Int), num := (4 : Int) : Dot }, sku := { dot := { rep := (1 : Int), num := (4 : Int) : Dot }, sku := { data := #[(65 : UInt8)] : ByteArray }, qty := (1 : Int) : Entry }.sku, qty := (1 : Int) : Entry }]) = AV.sl (List.map c28 someL) from ?g0)); rotate_left 1
  case g0 => exact rfl
theorem con3 (es : List Entry) : Con Try.prog 3 [.sl (es.map c28)] (.b true) :=
  by
  refine con_lens 0 (c28) (es) (by kernel_rfl) Go.Proofs.Try.func3 (by kernel_rfl) fun hl_0 => ?_
  refine st_con tab_ok (by kernel_rfl) [.tmp 2] 42 Go.Proofs.Try.func3 (by kernel_rfl) (by kernel_rfl) ?_
  intro e0 cx
  refine sq ?_
  refine rg (A := True) cx [] [0] [] trivial ?_
  refine sn ?_
  refine sq ?_
  refine sq ?_
  refine rg (A := _ ∧ _ ∧ _ ∧ _ ∧ _ ∧ _) cx [(0, { val := some (resC (con15 ((0 : Int)) ((1 : Int)) ({ data := #[(65 : UInt8)] : ByteArray }) ((1 : Int)))) }), (1, { val := some (.i .i64 ((0 : Int))) }), (4, { val := some (resC (con15 ((16 : Int)) ((0 : Int)) ({ data := #[(97 : UInt8)] : ByteArray }) ((0 : Int)))) }), (5, { val := some (.i .i64 ((3 : Int))) }), (9, { val := some (resC (con17 )) }), (10, { val := some (.i .i64 ((0 : Int))) })] [0, 18] [] ⟨(con15 ((0 : Int)) ((1 : Int)) ({ data := #[(65 : UInt8)] : ByteArray }) ((1 : Int))), (con14 ({ dot := { rep := (0 : Int), num := (1 : Int) : Dot }, sku := { dot := { rep := (0 : Int), num := (1 : Int) : Dot }, sku := { data := #[(65 : UInt8)] : ByteArray }, qty := (1 : Int) : Entry }.sku, qty := (1 : Int) : Entry })), (con15 ((16 : Int)) ((0 : Int)) ({ data := #[(97 : UInt8)] : ByteArray }) ((0 : Int))), (con14 ({ dot := { rep := (16 : Int), num := (0 : Int) : Dot }, sku := { dot := { rep := (16 : Int), num := (0 : Int) : Dot }, sku := { data := #[(97 : UInt8)] : ByteArray }, qty := (0 : Int) : Entry }.sku, qty := (0 : Int) : Entry })), (con17 ), (con16 (someL))⟩ ?_
  refine sn ?_
  refine st_false (by kernel_rfl) (by kernel_rfl) ?_
  refine st_skip (by kernel_rfl) ?_
  refine sn ?_
  refine sq ?_
  refine sq ?_
  refine rg (A := _ ∧ _ ∧ (Flat (AV.i IntKind.i64 (1 : Int))) ∧ _) cx [(0, { val := some (resC (con15 ((0 : Int)) ((3 : Int)) ({ data := #[(65 : UInt8)] : ByteArray }) ((5 : Int)))) }), (1, { val := some (resC (con15 ((0 : Int)) ((3 : Int)) ({ data := #[(65 : UInt8)] : ByteArray }) ((1 : Int)))) }), (3, { val := some (.i .i64 ((1 : Int))), flat := true })] [0, 23] [] ⟨(con15 ((0 : Int)) ((3 : Int)) ({ data := #[(65 : UInt8)] : ByteArray }) ((5 : Int))), (con15 ((0 : Int)) ((3 : Int)) ({ data := #[(65 : UInt8)] : ByteArray }) ((1 : Int))), (by exact Flat.i _ _), (con16 ([{ dot := { rep := (0 : Int), num := (3 : Int) : Dot }, sku := { dot := { rep := (0 : Int), num := (3 : Int) : Dot }, sku := { data := #[(65 : UInt8)] : ByteArray }, qty := (5 : Int) : Entry }.sku, qty := (5 : Int) : Entry }, { dot := { rep := (0 : Int), num := (3 : Int) : Dot }, sku := { dot := { rep := (0 : Int), num := (3 : Int) : Dot }, sku := { data := #[(65 : UInt8)] : ByteArray }, qty := (1 : Int) : Entry }.sku, qty := (1 : Int) : Entry }]))⟩ ?_
  refine sn ?_
  refine st_false (by kernel_rfl) (by kernel_rfl) ?_
  refine st_skip (by kernel_rfl) ?_
  refine sn ?_
  refine sq ?_
  refine rg (A := _) cx [(1, { val := some (.i .i64 (lstE es)) })] [0, 3] [] (con18 (es)) ?_
  refine sn ?_
  refine sq ?_
  refine sq ?_
  refine rg (A := _) cx [(1, { tell := some (.i .i64 ((↑es.length : Int))) })] [0, 3, 26, 27, 28] [] (told_len c28 es) ?_
  refine sn ?_
  refine st_block 0 (by kernel_rfl) ?_
  refine st_loop (X := Int) (fun x => ⟨[(0, .sl (List.map c28 es)), (3, .i .i64 (lstE es)), (26, .sl (List.map c28 es)), (27, .i .i64 ((↑es.length : Int))), (28, .i .i64 (x))], []⟩) (fun x ↦ dec30i es x) (fun x ↦ inv30i es x) [0, 3, 26, 27, 28] [] ((0 : Int)) (by kernel_rfl) (by kernel_rfl) (show inv30i es (0 : Int) from ?g0) ?_; rotate_left 1
  intro i_0 h_1
  obtain ⟨h_2, h_3⟩ : (0 : Int) ≤ i_0 ∧ i_0 ≤ (↑es.length : Int) := h_1
  refine sq ?_
  refine rg (A := (AV.b (decide (i_0 < (↑es.length : Int))) = AV.b (decide (i_0 < (↑es.length : Int))))) cx [(0, { tell := some (.b (decide (i_0 < (↑es.length : Int)))) })] [0, 3, 26, 27, 28, 29] [] (by kernel_rfl) ?_
  refine sn ?_
  refine sq ?_
  refine st_dec (i_0 < (↑es.length : Int)) (by kernel_rfl) (by kernel_rfl) (fun h_4 => ?_) (fun h_4 => ?_)
  refine st_skip (by kernel_rfl) ?_
  refine sn ?_
  refine sq ?_
  refine st_block 1 (by kernel_rfl) ?_
  refine sq ?_
  refine rg (A := ((0 : Int) ≤ i_0) ∧ ((List.map c28 es)[i_0.toNat]? = some (c28 es[i_0.toNat]!)) ∧ ((c28 es[i_0.toNat]!).length = (4 : Nat)) ∧ ((4 : Nat) ≤ [AV.i IntKind.i64 es[i_0.toNat]!.dot.rep, AV.i IntKind.i64 es[i_0.toNat]!.dot.num, AV.s es[i_0.toNat]!.sku, AV.i IntKind.i64 es[i_0.toNat]!.qty].length)) cx [(0, { row := (c28 es[i_0.toNat]!) })] [0, 3, 26, 27, 28, 5] [5] ⟨(by (with_reducible assumption)), (by (with_reducible refine get_map ?_; omega)), (by kernel_rfl), (by (simp only [List.length_append, List.length_cons, List.length_nil]; omega))⟩ ?_
  refine sn ?_
  refine sq ?_
  refine ra (A := _ ∧ _ ∧ (AV.b (entE es[i_0.toNat]! != entE es[i_0.toNat]!) = AV.b false)) cx [(1, { val := some (.i .i64 (entE es[i_0.toNat]!)) }), (3, { val := some (.i .i64 (entE es[i_0.toNat]!)) }), (4, { tell := some (.b (false)) })] [0, 3, 26, 27, 28, 36] [] ⟨(con14 (es[i_0.toNat]!)), (con19 (es[i_0.toNat]!)), (told_ins)⟩ ?_
  refine sn ?_
  refine st_false (by kernel_rfl) (by kernel_rfl) ?_
  refine st_skip (by kernel_rfl) ?_
  refine q_blk_normal ?_
  refine sn ?_
  refine rg (A := (AV.i IntKind.i64 (IntKind.i64.wrap (i_0 + (1 : Int))) = AV.i IntKind.i64 (i_0 + (1 : Int)))) cx [(0, { tell := some (.i .i64 (i_0 + (1 : Int))) })] [0, 3, 26, 27, 28] [] (told_i64 (by omega) (by omega)) ?_
  refine sn ?_
  refine loop_next (i_0 + (1 : Int)) (by kernel_rfl) (show ((↑es.length : Int) - (i_0 + (1 : Int))).toNat < ((↑es.length : Int) - i_0).toNat from (by omega)) (show inv30i es (i_0 + (1 : Int)) from ?g1); rotate_left 1
  refine st_exit 0 (by kernel_rfl) ?_
  refine q_seq_exit ?_
  refine q_seq_exit ?_
  refine q_blk_hit ?_
  refine sn ?_
  refine sq ?_
  refine rg (A := _ ∧ (AV.b (lstE es == lstE es) = AV.b true)) cx [(1, { val := some (.i .i64 (lstE es)) }), (3, { tell := some (.b (true)) })] [2] [] ⟨(con16 (es)), (told_ies)⟩ ?_
  refine sn ?_
  refine st_ret (by kernel_rfl) ?_
  exact q_ret (r := .b (true)) (obl := []) (by kernel_rfl) trivial (AVle.refl _)
  rotate_left
  revert i_0 h_2 h_3 h_4; rotate_left
  case g0 => exact ⟨by omega, by omega⟩
  case g1 => exact (fun i h0 h1 h2 => ⟨by omega, by omega⟩)
end Go.Proofs.Ytjngmlkaijpbgaa
namespace Go.Proofs.Ytjngmlkaijpbgaa
open Go.E
set_option maxRecDepth 100000
set_option maxHeartbeats 4000000
def ofSku (es : List Entry) (s : ByteArray) : List Entry := es.filter (fun e => decide (e.sku = s))
def sumE : List Entry → Int
  | [] => 0
  | e :: l => e.qty + sumE l
def lineOf (es : List Entry) (s : ByteArray) : Line := ⟨s, sumE (ofSku es s), (ofSku es s).length⟩
theorem sumE_app (a b : List Entry) : sumE (a ++ b) = sumE a + sumE b := by
  induction a with
  | nil => simp [sumE]
  | cons e a ih => simp only [List.cons_append, sumE, ih]; omega
theorem sumE_perm {a b : List Entry} (h : a.Perm b) : sumE a = sumE b := by
  induction h with
  | nil => rfl
  | cons x _ ih => simp only [sumE, ih]
  | swap x y l => simp only [sumE]; omega
  | trans _ _ h1 h2 => rw [h1, h2]
theorem lineOf_perm {a b : List Entry} (h : a.Perm b) (s : ByteArray) : lineOf a s = lineOf b s := by
  have h2 : (ofSku a s).Perm (ofSku b s) := h.filter _
  unfold lineOf
  rw [sumE_perm h2, h2.length_eq]
theorem ofSku_app (a : List Entry) (e : Entry) (s : ByteArray) : ofSku (a ++ [e]) s = if e.sku = s then ofSku a s ++ [e] else ofSku a s := by
  unfold ofSku
  rw [List.filter_append]
  by_cases h : e.sku = s
  · rw [if_pos h, List.filter_cons_of_pos (by simpa using h), List.filter_nil]
  · rw [if_neg h, List.filter_cons_of_neg (by simpa using h), List.filter_nil, List.append_nil]
theorem lineOf_same (a : List Entry) (e : Entry) : lineOf (a ++ [e]) e.sku = ⟨e.sku, (lineOf a e.sku).qty + e.qty, (lineOf a e.sku).parts + 1⟩ := by
  unfold lineOf
  rw [ofSku_app, if_pos rfl, sumE_app, List.length_append]
  simp only [sumE, List.length_cons, List.length_nil]
  congr 1
  omega
theorem lineOf_other {a : List Entry} {e : Entry} {s : ByteArray} (h : ¬ e.sku = s) : lineOf (a ++ [e]) s = lineOf a s := by
  unfold lineOf
  rw [ofSku_app, if_neg h]
theorem ofSku_nil {es : List Entry} {s : ByteArray} (h : ∀ e ∈ es, ¬ e.sku = s) : ofSku es s = [] := by
  unfold ofSku
  rw [List.filter_eq_nil_iff]
  intro e he
  simpa using h e he
/-! the map -/
def addV (e : Entry) (l : Line) : Line := ⟨e.sku, l.qty + e.qty, l.parts + 1⟩
def fillL (es : List Entry) : List (ByteArray × Line) := es.foldl (fun m e => mset e.sku (addV e (lkp e.sku m)) m) []
theorem fillL_app (a : List Entry) (e : Entry) : fillL (a ++ [e]) = mset e.sku (addV e (lkp e.sku (fillL a))) (fillL a) := by
  unfold fillL
  rw [List.foldl_append]
  rfl
theorem mset_keys {β : Type} (k : ByteArray) (v : β) : ∀ m : List (ByteArray × β), (k ∈ m.map (·.1) ∧ (mset k v m).map (·.1) = m.map (·.1)) ∨ (¬ k ∈ m.map (·.1) ∧ (mset k v m).map (·.1) = m.map (·.1) ++ [k])
  | [] => .inr ⟨by simp, by simp [mset]⟩
  | p :: m => by
    have ih := mset_keys k v m
    rw [mset]
    by_cases h : p.1 = k
    · rw [if_pos h]
      exact .inl ⟨by simp [h], by simp⟩
    · rw [if_neg h, List.map_cons, List.map_cons]
      rcases ih with ⟨h1, h2⟩ | ⟨h1, h2⟩
      · exact .inl ⟨List.mem_cons_of_mem _ h1, by rw [h2]⟩
      · refine .inr ⟨fun hk => ?_, by rw [h2]; rfl⟩
        rcases List.mem_cons.1 hk with a | a
        · exact h a.symm
        · exact h1 a
theorem mset_nodup {β : Type} {k : ByteArray} {v : β} {m : List (ByteArray × β)} (h : (m.map (·.1)).Nodup) : ((mset k v m).map (·.1)).Nodup := by
  rcases mset_keys k v m with ⟨_, h2⟩ | ⟨hk, h2⟩
  · rw [h2]; exact h
  · rw [h2, List.nodup_append]
    refine ⟨h, by simp, fun a ha b hb e => ?_⟩
    have : b = k := by simpa using hb
    rw [← this, ← e] at hk
    exact hk ha
theorem mset_mem {β : Type} {k : ByteArray} {v : β} : ∀ {m : List (ByteArray × β)}, (m.map (·.1)).Nodup → ∀ p, p ∈ mset k v m ↔ p = (k, v) ∨ (p ∈ m ∧ ¬ p.1 = k)
  | [], _, p => by simp [mset]
  | q :: m, h, p => by
    rw [List.map_cons, List.nodup_cons] at h
    rw [mset]
    by_cases hq : q.1 = k
    · rw [if_pos hq, List.mem_cons, hq]
      constructor
      · rintro (a | a)
        · exact .inl a
        · refine .inr ⟨List.mem_cons_of_mem _ a, fun e => h.1 ?_⟩
          rw [hq, ← e]
          exact List.mem_map.2 ⟨p, a, rfl⟩
      · rintro (a | ⟨a, b⟩)
        · exact .inl a
        · rcases List.mem_cons.1 a with c | c
          · rw [c] at b; exact absurd hq b
          · exact .inr c
    · rw [if_neg hq, List.mem_cons, mset_mem h.2]
      constructor
      · rintro (a | a | ⟨a, b⟩)
        · rw [a]; exact .inr ⟨List.mem_cons_self, hq⟩
        · exact .inl a
        · exact .inr ⟨List.mem_cons_of_mem _ a, b⟩
      · rintro (a | ⟨a, b⟩)
        · exact .inr (.inl a)
        · rcases List.mem_cons.1 a with c | c
          · exact .inl c
          · exact .inr (.inr ⟨c, b⟩)
theorem mset_len {β : Type} (k : ByteArray) (v : β) (m : List (ByteArray × β)) : (mset k v m).length ≤ m.length + 1 := by
  rcases mset_keys k v m with ⟨_, h2⟩ | ⟨_, h2⟩
  · have := congrArg List.length h2
    rw [List.length_map, List.length_map] at this
    omega
  · have := congrArg List.length h2
    rw [List.length_append, List.length_map, List.length_map] at this
    simp at this
    omega
theorem fillL_len (es : List Entry) : (fillL es).length ≤ es.length := by
  have h : ∀ n, n ≤ es.length → (fillL (es.take n)).length ≤ n := by
    intro n
    induction n with
    | zero => intro _; simp [fillL]
    | succ n ih =>
      intro hn
      rw [List.take_succ_eq_append_getElem (by omega), fillL_app]
      have := ih (by omega)
      have := mset_len es[n].sku (addV es[n] (lkp es[n].sku (fillL (es.take n)))) (fillL (es.take n))
      omega
  have := h es.length (Nat.le_refl _)
  rwa [List.take_length] at this
structure IsFill (l : List Entry) (m : List (ByteArray × Line)) : Prop where
  keys : (m.map (·.1)).Nodup
  val : ∀ p ∈ m, p.2 = lineOf l p.1 ∧ ∃ e ∈ l, e.sku = p.1
  all : ∀ e ∈ l, ∃ p ∈ m, p.1 = e.sku
theorem IsFill.lkp {l : List Entry} {m : List (ByteArray × Line)} (h : IsFill l m) (s : ByteArray) : (lkp s m).qty = (lineOf l s).qty ∧ (lkp s m).parts = (lineOf l s).parts := by
  unfold E.lkp
  cases hf : m.find? (fun p => decide (p.1 = s)) with
  | some p =>
    have h1 := List.find?_some hf
    have h2 := List.mem_of_find?_eq_some hf
    have h3 := (h.val p h2).1
    have h4 : p.1 = s := by simpa using h1
    simp only
    rw [h3, h4]
    exact ⟨rfl, rfl⟩
  | none =>
    rw [List.find?_eq_none] at hf
    have : ofSku l s = [] := ofSku_nil fun e he hs => by
      obtain ⟨p, hp, hpe⟩ := h.all e he
      have := hf p hp
      rw [hpe, hs] at this
      simp at this
    unfold lineOf
    rw [this]
    exact ⟨rfl, rfl⟩
theorem IsFill.step {l : List Entry} {m : List (ByteArray × Line)} (h : IsFill l m) (e : Entry) : IsFill (l ++ [e]) (mset e.sku (addV e (E.lkp e.sku m)) m) := by
  have hv : addV e (E.lkp e.sku m) = lineOf (l ++ [e]) e.sku := by
    rw [lineOf_same]
    unfold addV
    rw [(h.lkp e.sku).1, (h.lkp e.sku).2]
  refine ⟨mset_nodup h.keys, fun p hp => ?_, fun x hx => ?_⟩
  · rw [mset_mem h.keys] at hp
    rcases hp with rfl | ⟨hp, hne⟩
    · exact ⟨hv, e, by simp, rfl⟩
    · obtain ⟨h1, x, hx, hxe⟩ := h.val p hp
      exact ⟨by rw [lineOf_other (fun k => hne k.symm), h1], x, by simp [hx], hxe⟩
  · rcases List.mem_append.1 hx with hx | hx
    · obtain ⟨p, hp, hpe⟩ := h.all x hx
      by_cases hk : p.1 = e.sku
      · exact ⟨(e.sku, addV e (E.lkp e.sku m)), (mset_mem h.keys _).2 (.inl rfl), by rw [← hk, hpe]⟩
      · exact ⟨p, (mset_mem h.keys _).2 (.inr ⟨hp, hk⟩), hpe⟩
    · have : x = e := by simpa using hx
      subst this
      exact ⟨_, (mset_mem h.keys _).2 (.inl rfl), rfl⟩
theorem fill_is (es : List Entry) : IsFill es (fillL es) := by
  have h : ∀ n, n ≤ es.length → IsFill (es.take n) (fillL (es.take n)) := by
    intro n
    induction n with
    | zero => intro _; exact ⟨by simp [fillL], fun p hp => by simp [fillL] at hp, fun e he => by simp at he⟩
    | succ n ih =>
      intro hn
      rw [List.take_succ_eq_append_getElem (by omega), fillL_app]
      exact (ih (by omega)).step _
  have := h es.length (Nat.le_refl _)
  rwa [List.take_length] at this
/-! the lines -/
def upL (l : List Line) : Prop := l.Pairwise (fun a b => sLt a.sku b.sku = true)
structure IsLines (es : List Entry) (l : List Line) : Prop where
  up : upL l
  mem : ∀ x, x ∈ l ↔ (∃ e ∈ es, e.sku = x.sku) ∧ x = lineOf es x.sku
theorem upL_unique : ∀ {a b : List Line}, upL a → upL b → (∀ e, e ∈ a ↔ e ∈ b) → a = b
  | [], [], _, _, _ => rfl
  | [], y :: b, _, _, h => by have := (h y).2 (by simp); cases this
  | x :: a, [], _, _, h => by have := (h x).1 (by simp); cases this
  | x :: a, y :: b, ha, hb, h => by
    have pa := List.pairwise_cons.1 ha
    have pb := List.pairwise_cons.1 hb
    have e : x = y := by
      apply Classical.byContradiction
      intro hne
      have h1 : x ∈ b := by
        rcases List.mem_cons.1 ((h x).1 (by simp)) with k | k
        · exact absurd k hne
        · exact k
      have h2 : y ∈ a := by
        rcases List.mem_cons.1 ((h y).2 (by simp)) with k | k
        · exact absurd k.symm hne
        · exact k
      exact sLt_irr _ (sLt_trans (pa.1 y h2) (pb.1 x h1))
    subst e
    rw [upL_unique pa.2 pb.2 fun e => ?_]
    constructor
    · intro he
      rcases List.mem_cons.1 ((h e).1 (by simp [he])) with k | k
      · subst k; exact absurd (pa.1 e he) (sLt_irr _)
      · exact k
    · intro he
      rcases List.mem_cons.1 ((h e).2 (by simp [he])) with k | k
      · subst k; exact absurd (pb.1 e he) (sLt_irr _)
      · exact k
theorem IsLines.unique {es : List Entry} {a b : List Line} (ha : IsLines es a) (hb : IsLines es b) : a = b := upL_unique ha.up hb.up fun x => (ha.mem x).trans (hb.mem x).symm
theorem IsLines.perm {es fs : List Entry} {a : List Line} (ha : IsLines es a) (h : es.Perm fs) : IsLines fs a := ⟨ha.up, fun x => by
  rw [ha.mem, lineOf_perm h]
  constructor
  · rintro ⟨⟨e, he, k⟩, k2⟩; exact ⟨⟨e, h.mem_iff.1 he, k⟩, k2⟩
  · rintro ⟨⟨e, he, k⟩, k2⟩; exact ⟨⟨e, h.mem_iff.2 he, k⟩, k2⟩⟩
theorem lines_pdq {es : List Entry} {l : List Line} (h : l.Perm ((fillL es).map (·.2))) : IsLines es (pdqL l) := by
  have hf := fill_is es
  have hp : (pdqL l).Perm ((fillL es).map (·.2)) := (pdqL_perm l).trans h
  have hm : ∀ x, x ∈ pdqL l ↔ (∃ e ∈ es, e.sku = x.sku) ∧ x = lineOf es x.sku := fun x => by
    rw [hp.mem_iff, List.mem_map]
    constructor
    · rintro ⟨p, hp, rfl⟩
      obtain ⟨h1, e, he, h2⟩ := hf.val p hp
      have h3 : p.2.sku = p.1 := by rw [h1]; rfl
      rw [h3]
      exact ⟨⟨e, he, h2⟩, h1⟩
    · rintro ⟨⟨e, he, h1⟩, h2⟩
      obtain ⟨p, hp, hpe⟩ := hf.all e he
      refine ⟨p, hp, ?_⟩
      rw [(hf.val p hp).1, hpe, h1, ← h2]
  refine ⟨?_, hm⟩
  have hs : ((pdqL l).map (·.sku)).Nodup := by
    have e1 : ((fillL es).map (·.2)).map (·.sku) = (fillL es).map (·.1) := by
      rw [List.map_map]
      refine List.map_congr_left fun p hp => ?_
      show p.2.sku = p.1
      rw [(hf.val p hp).1]
      rfl
    have := (hp.map (·.sku)).nodup_iff.2
    rw [e1] at this
    exact this hf.keys
  have hr := pdqL_rises l
  unfold upL
  rw [List.pairwise_iff_getElem] at hr ⊢
  intro i j hi hj hij
  have h1 := hr i j hi hj hij
  apply Classical.byContradiction
  intro h2
  have h3 : ¬ sLt (pdqL l)[j].sku (pdqL l)[i].sku = true := by
    unfold ltL at h1
    rw [h1]
    simp
  have h4 := sLt_total h2 h3
  have := (List.pairwise_iff_getElem.1 hs) i j (by simpa using hi) (by simpa using hj) hij
  simp only [List.getElem_map] at this
  exact this h4
def linesU (es : List Entry) : List Line := pdqL ((fillL es).map (·.2))
theorem linesU_is (es : List Entry) : IsLines es (linesU es) := lines_pdq (List.Perm.refl _)
theorem linesU_perm {es : List Entry} {l : List Line} (h : l.Perm ((fillL es).map (·.2))) : pdqL l = linesU es := (lines_pdq h).unique (linesU_is es)
theorem linesU_len (es : List Entry) : (linesU es).length ≤ es.length := by
  unfold linesU
  rw [(pdqL_perm _).length_eq, List.length_map]
  exact fillL_len es
/-- What Lines answers. -/
def linesV (es : List Entry) : List Line × Int := if lstE es = 0 then (linesU es, 0) else ([], 1)
theorem linesV_ok {es : List Entry} (h : lstE es = 0) : linesV es = (linesU es, 0) := by unfold linesV; rw [if_pos h]
theorem linesV_no {es : List Entry} (h : ¬ lstE es = 0) : linesV es = ([], 1) := by unfold linesV; rw [if_neg h]
/-! the entries gone through -/
theorem seen_len : ∀ (n : Nat) (seen : List Nat), seen.Nodup → (∀ j ∈ seen, j < n) → seen.length ≤ n
  | 0, seen, _, hb => by
    cases seen with
    | nil => simp
    | cons j l => exact absurd (hb j (by simp)) (by omega)
  | n + 1, seen, hn, hb => by
    by_cases h : n ∈ seen
    · have h1 := seen_len n (seen.erase n) (hn.erase n) fun j hj => by
        have := (hn.mem_erase_iff).1 hj
        have := hb j this.2
        omega
      rw [List.length_erase_of_mem h] at h1
      omega
    · have := seen_len n seen hn fun j hj => by
        have := hb j hj
        have : j ≠ n := fun e => h (e ▸ hj)
        omega
      omega
theorem seen_perm {n : Nat} {seen : List Nat} (hn : seen.Nodup) (hb : ∀ j ∈ seen, j < n) (ha : ∀ j, j < n → j ∈ seen) : seen.Perm (List.range n) :=
  (List.perm_ext_iff_of_nodup hn List.nodup_range).2 fun j => ⟨fun h => List.mem_range.2 (hb j h), fun h => ha j (List.mem_range.1 h)⟩
theorem range_map {β : Type} [Inhabited β] (m : List β) : (List.range m.length).map (fun j => m[j]!) = m := by
  apply List.ext_getElem
  · simp
  · intro i h1 h2
    rw [List.getElem_map, List.getElem_range, getElem!_pos m i h2]
end Go.Proofs.Ytjngmlkaijpbgaa
namespace Go.Proofs.Ytjngmlkaijpbgaa
open Go.E
set_option maxRecDepth 100000
set_option maxHeartbeats 4000000
def ofV (es : List Entry) (sku : ByteArray) : List Entry × Int :=
  if okL es = true then (if good sku = true then (es.filter (fun e => decide (e.sku = sku)), 0) else ([], 5)) else ([], 1)
def ownV (es : List Entry) (rep : Int) (sku : ByteArray) : List Entry × Int :=
  if okL es = true then (if 0 ≤ rep ∧ rep < 16 then (if good sku = true then (es.filter (fun e => decide (e.sku = sku ∧ e.dot.rep = rep)), 0) else ([], 5)) else ([], 3)) else ([], 1)
def invP (p : Entry → Bool) (es : List Entry) (i : Int) (l : List Entry) : Prop := 0 ≤ i ∧ i ≤ es.length ∧ l = (es.take i.toNat).filter p ∧ (l.length : Int) ≤ i
def decP (es : List Entry) (i : Int) (l : List Entry) : Nat := (es.length - i).toNat
theorem filter_step {p : Entry → Bool} {es : List Entry} {i : Int} (h0 : 0 ≤ i) (h : i < es.length) : (es.take (i + 1).toNat).filter p = if p es[i.toNat]! = true then (es.take i.toNat).filter p ++ [es[i.toNat]!] else (es.take i.toNat).filter p := by
  rw [← take_step h0 h, List.filter_append]
  by_cases hp : p es[i.toNat]! = true
  · rw [if_pos hp, List.filter_cons_of_pos hp, List.filter_nil]
  · rw [if_neg hp, List.filter_cons_of_neg hp, List.filter_nil, List.append_nil]
theorem rng_ofV (es : List Entry) (sku : ByteArray) : (ofV es sku).1.length ≤ es.length := by
  unfold ofV
  split
  · split
    · exact List.length_filter_le _ _
    · simp
  · simp
theorem lstE_cases (es : List Entry) : (okL es = true ∧ lstE es = 0) ∨ (¬ okL es = true ∧ lstE es = 1) := by
  unfold lstE
  by_cases h : okL es = true
  · rw [if_pos h]; exact .inl ⟨h, rfl⟩
  · rw [if_neg h]; exact .inr ⟨h, rfl⟩
theorem ofV_form {es : List Entry} {sku : ByteArray} (h : ¬ lstE es = 0) : ofV es sku = ([], 1) := by
  unfold ofV; rw [if_neg]; intro k; exact h (by unfold lstE; rw [if_pos k])
theorem okL_of {es : List Entry} (h : lstE es = 0) : okL es = true := by
  rcases lstE_cases es with ⟨a, b⟩ | ⟨a, b⟩
  · exact a
  · omega
theorem ofV_sku {es : List Entry} {sku : ByteArray} (h : lstE es = 0) (g : ¬ good sku = true) : ofV es sku = ([], 5) := by
  unfold ofV; rw [if_pos (okL_of h), if_neg g]
theorem ofV_ok {es : List Entry} {sku : ByteArray} (h : lstE es = 0) (g : good sku = true) : ofV es sku = (es.filter (fun e => decide (e.sku = sku)), 0) := by
  unfold ofV; rw [if_pos (okL_of h), if_pos g]
theorem ownV_form {es : List Entry} {rep : Int} {sku : ByteArray} (h : ¬ lstE es = 0) : ownV es rep sku = ([], 1) := by
  unfold ownV; rw [if_neg]; intro k; exact h (by unfold lstE; rw [if_pos k])
theorem ownV_rep {es : List Entry} {rep : Int} {sku : ByteArray} (h : lstE es = 0) (r : rep < 0 ∨ 16 ≤ rep) : ownV es rep sku = ([], 3) := by
  unfold ownV; rw [if_pos (okL_of h), if_neg (by omega)]
theorem ownV_sku {es : List Entry} {rep : Int} {sku : ByteArray} (h : lstE es = 0) (r : ¬ (rep < 0 ∨ 16 ≤ rep)) (g : ¬ good sku = true) : ownV es rep sku = ([], 5) := by
  unfold ownV; rw [if_pos (okL_of h), if_pos (by omega), if_neg g]
theorem ownV_ok {es : List Entry} {rep : Int} {sku : ByteArray} (h : lstE es = 0) (r : ¬ (rep < 0 ∨ 16 ≤ rep)) (g : good sku = true) : ownV es rep sku = (es.filter (fun e => decide (e.sku = sku ∧ e.dot.rep = rep)), 0) := by
  unfold ownV; rw [if_pos (okL_of h), if_pos (by omega), if_pos g]
theorem own_of {es : List Entry} {rep : Int} {sku : ByteArray} (h : lstE es = 0) (r : ¬ (rep < 0 ∨ 16 ≤ rep)) : ownV es rep sku = ((ofV es sku).1.filter (fun e => decide (e.dot.rep = rep)), (ofV es sku).2) := by
  by_cases g : good sku = true
  · rw [ofV_ok h g, ownV_ok h r g, List.filter_filter]
    congr 1
    refine List.filter_congr fun e _ => ?_
    by_cases a : e.sku = sku <;> by_cases b : e.dot.rep = rep <;> simp [a, b]
  · rw [ofV_sku h g, ownV_sku h r g]; rfl
theorem invP_init (p : Entry → Bool) (es : List Entry) : invP p es 0 [] := ⟨by omega, by omega, by simp, by simp⟩
theorem invP_add {p : Entry → Bool} {es l : List Entry} {i : Int} (h0 : 0 ≤ i) (h2 : l = (es.take i.toNat).filter p) (h3 : (l.length : Int) ≤ i) (h4 : i < es.length) (h : p es[i.toNat]! = true) : invP p es (i + 1) (l ++ [es[i.toNat]!]) :=
  ⟨by omega, by omega, by rw [filter_step h0 h4, if_pos h, h2], by rw [List.length_append, List.length_cons, List.length_nil]; omega⟩
theorem invP_skip {p : Entry → Bool} {es l : List Entry} {i : Int} (h0 : 0 ≤ i) (h2 : l = (es.take i.toNat).filter p) (h3 : (l.length : Int) ≤ i) (h4 : i < es.length) (h : ¬ p es[i.toNat]! = true) : invP p es (i + 1) l :=
  ⟨by omega, by omega, by rw [filter_step h0 h4, if_neg h, h2], by omega⟩
theorem invP_done {p : Entry → Bool} {es l : List Entry} {i : Int} (h2 : l = (es.take i.toNat).filter p) (h4 : ¬ i < es.length) : l = es.filter p := by
  rw [h2, List.take_of_length_le (by omega)]
theorem con53 (e : Entry) (sku : ByteArray) : Con Try.prog 53 [.agg (c28 e), .eptr [.s sku]] (.b (decide (e.sku = sku))) :=
  by
  refine st_con tab_ok (by kernel_rfl) [.tmp 3] 8 Go.Proofs.Try.func53 (by kernel_rfl) (by kernel_rfl) ?_
  intro e0 cx
  refine sq ?_
  refine rg (A := True) cx [] [1, 2] [2] trivial ?_
  refine sn ?_
  refine sq ?_
  refine rg (A := (AV.b (e.sku.toList == sku.toList) = AV.b (decide (e.sku = sku)))) cx [(3, { tell := some (.b (decide (e.sku = sku))) })] [3] [] (told_seq) ?_
  refine sn ?_
  refine st_ret (by kernel_rfl) ?_
  exact q_ret (r := .b (decide (e.sku = sku))) (obl := []) (by kernel_rfl) trivial (AVle.refl _)
theorem con52 (e : Entry) (sku : ByteArray) (rep : Int) : Con Try.prog 52 [.agg (c28 e), .eptr [.s sku], .eptr [.i .i64 rep]] (.b (decide (e.sku = sku ∧ e.dot.rep = rep))) :=
  by
  refine st_con tab_ok (by kernel_rfl) [.tmp 4] 16 Go.Proofs.Try.func52 (by kernel_rfl) (by kernel_rfl) ?_
  intro e0 cx
  refine sq ?_
  refine rg (A := True) cx [] [1, 2, 3] [3] trivial ?_
  refine sn ?_
  refine sq ?_
  refine st_join (σ' := ⟨[(4, .b (decide (e.sku = sku ∧ e.dot.rep = rep)))], []⟩) ?_ ?_
  refine st_split (e.sku = sku) (fun h_1 => ?_) (fun h_1 => ?_)
  refine rg (A := (AV.b (e.sku.toList == sku.toList) = AV.b true) ∧ (AV.b (e.dot.rep == rep) = AV.b (decide (e.dot.rep = rep))) ∧ (AV.b (decide (e.dot.rep = rep)) = AV.b (decide (e.sku = sku ∧ e.dot.rep = rep)))) cx [(3, { tell := some (.b (true)) }), (9, { tell := some (.b (decide (e.dot.rep = rep))) }), (11, { tell := some (.b (decide (e.sku = sku ∧ e.dot.rep = rep))) })] [4] [] ⟨(told_seqt h_1), (by kernel_rfl), (by simp only [eq_true h_1, told_simp1, told_simp2, and_true, true_and, and_false, false_and, or_true, true_or, or_false, false_or, not_true_eq_false, not_false_eq_true, decide_true, decide_false, Bool.decide_eq_true])⟩ ?_
  exact ⟨rfl, by kernel_rfl⟩
  refine rg (A := (AV.b (e.sku.toList == sku.toList) = AV.b false) ∧ (AV.b false = AV.b (decide (e.sku = sku ∧ e.dot.rep = rep)))) cx [(3, { tell := some (.b (false)) }), (11, { tell := some (.b (decide (e.sku = sku ∧ e.dot.rep = rep))) })] [4] [] ⟨(told_seqf h_1), (by simp only [eq_false h_1, told_simp1, told_simp2, and_true, true_and, and_false, false_and, or_true, true_or, or_false, false_or, not_true_eq_false, not_false_eq_true, decide_true, decide_false, Bool.decide_eq_true])⟩ ?_
  exact ⟨rfl, by kernel_rfl⟩
  refine sn ?_
  refine st_ret (by kernel_rfl) ?_
  exact q_ret (r := .b (decide (e.sku = sku ∧ e.dot.rep = rep))) (obl := []) (by kernel_rfl) trivial (AVle.refl _)
theorem con51_1 (es : List Entry) (sku : ByteArray) (hs : es.length * 40 ≤ 140737488351232) : Con Try.prog 51 [.sl (es.map c28), .fn (.func 53) [] [.eptr [.s sku]]] (.sl ((es.filter (fun e => decide (e.sku = sku))).map c28)) :=
  by
  refine con_lens 0 (c28) (es) (by kernel_rfl) Go.Proofs.Try.func51 (by kernel_rfl) fun hl_0 => ?_
  refine st_con tab_ok (by kernel_rfl) [.tmp 4] 23 Go.Proofs.Try.func51 (by kernel_rfl) (by kernel_rfl) ?_
  intro e0 cx
  refine sq ?_
  refine rg (A := True) cx [] [0, 1] [] trivial ?_
  refine sn ?_
  refine sq ?_
  refine rg (A := True) cx [] [0, 1, 5] [] trivial ?_
  refine sn ?_
  refine sq ?_
  refine sq ?_
  refine rg (A := _) cx [(1, { tell := some (.i .i64 ((↑es.length : Int))) })] [1, 5, 8, 9, 10] [] (told_len c28 es) ?_
  refine sn ?_
  refine st_block 0 (by kernel_rfl) ?_
  refine awp_adopt 5 1005 28 4 (σ' := ⟨[(1, .fn (Fn.func (53 : FuncId)) [] [.eptr [.s (sku)]]), (5, .own 1005 0), (8, .sl (List.map c28 es)), (9, .i .i64 ((↑es.length : Int))), (10, .i .i64 ((0 : Int)))], [(1005, ⟨0, 28, .row 4 (List.map c28 [])⟩)]⟩) (by kernel_rfl) ?_
  refine st_loop (X := Int × List Entry) (fun x => ⟨[(1, .fn (Fn.func (53 : FuncId)) [] [.eptr [.s (sku)]]), (5, .own 1005 0), (8, .sl (List.map c28 es)), (9, .i .i64 ((↑es.length : Int))), (10, .i .i64 (x.fst))], [(1005, ⟨0, 28, .row 4 (List.map c28 x.snd)⟩)]⟩) (fun x ↦ decP es x.fst x.snd) (fun x ↦ invP (fun e ↦ decide (e.sku = sku)) es x.fst x.snd) [1, 5, 8, 9, 10] [1005] (((0 : Int), [])) (by kernel_rfl) (by kernel_rfl) (show invP (fun e ↦ decide (e.sku = sku)) es (0 : Int) [] from ?g0) ?_; rotate_left 1
  rintro ⟨i_0, l_1⟩ h_2
  obtain ⟨h_3, h_4, h_5, h_6⟩ : (0 : Int) ≤ i_0 ∧ i_0 ≤ (↑es.length : Int) ∧ l_1 = List.filter (fun e ↦ decide (e.sku = sku)) (List.take i_0.toNat es) ∧ (↑l_1.length : Int) ≤ i_0 := h_2
  refine sq ?_
  refine rg (A := (AV.b (decide (i_0 < (↑es.length : Int))) = AV.b (decide (i_0 < (↑es.length : Int))))) cx [(0, { tell := some (.b (decide (i_0 < (↑es.length : Int)))) })] [1, 5, 8, 9, 10, 11] [1005] (by kernel_rfl) ?_
  refine sn ?_
  refine sq ?_
  refine st_dec (i_0 < (↑es.length : Int)) (by kernel_rfl) (by kernel_rfl) (fun h_7 => ?_) (fun h_7 => ?_)
  refine st_skip (by kernel_rfl) ?_
  refine sn ?_
  refine sq ?_
  refine st_block 1 (by kernel_rfl) ?_
  refine sq ?_
  refine rg (A := ((0 : Int) ≤ i_0) ∧ ((List.map c28 es)[i_0.toNat]? = some (c28 es[i_0.toNat]!)) ∧ ((c28 es[i_0.toNat]!).length = (4 : Nat)) ∧ ((4 : Nat) ≤ [AV.i IntKind.i64 es[i_0.toNat]!.dot.rep, AV.i IntKind.i64 es[i_0.toNat]!.dot.num, AV.s es[i_0.toNat]!.sku, AV.i IntKind.i64 es[i_0.toNat]!.qty].length)) cx [(0, { row := (c28 es[i_0.toNat]!) })] [1, 5, 8, 9, 10, 7] [1005, 7] ⟨(by (with_reducible assumption)), (by (with_reducible refine get_map ?_; omega)), (by kernel_rfl), (by (simp only [List.length_append, List.length_cons, List.length_nil]; omega))⟩ ?_
  refine sn ?_
  refine sq ?_
  refine rg (A := _) cx [(2, { val := some (resC (con53 (es[i_0.toNat]!) (sku))) })] [1, 5, 8, 9, 10, 7, 16] [1005, 7] (con53 (es[i_0.toNat]!) (sku)) ?_
  refine sn ?_
  refine st_dec (es[i_0.toNat]!.sku = sku) (by kernel_rfl) (by kernel_rfl) (fun h_8 => ?_) (fun h_8 => ?_)
  refine rg (A := (28 = (28 : Nat)) ∧ ((4 : Nat) = 4) ∧ ([AV.i IntKind.i64 (0 : Int), AV.i IntKind.i64 (0 : Int), AV.s { data := #[] : ByteArray }, AV.i IntKind.i64 (0 : Int)].length = (4 : Nat)) ∧ (∀ (r : List AV), r ∈ List.map c28 [es[i_0.toNat]!] → r.length = 4) ∧ ((List.map c28 l_1).length + (List.map c28 [es[i_0.toNat]!]).length ≤ maxLen) ∧ (((List.map c28 l_1).length + (List.map c28 [es[i_0.toNat]!]).length) * (40 : Nat) ≤ (140737488355328 : Nat)) ∧ (List.map c28 l_1 ++ List.map c28 [es[i_0.toNat]!] = List.map c28 (l_1 ++ [es[i_0.toNat]!]))) cx [(3, { rows := some (List.map c28 (l_1 ++ [es[i_0.toNat]!])) })] [1, 5, 8, 9, 10] [1005] ⟨(by kernel_rfl), (by kernel_rfl), (by kernel_rfl), (by (with_reducible refine len_map (fun _ => ?_) _; kernel_rfl)), (by (simp only [Go.maxLen, List.length_map, List.length_append, List.length_cons, List.length_nil]; omega)), (by (simp only [Go.maxLen, List.length_map, List.length_append, List.length_cons, List.length_nil]; omega)), (by (with_reducible refine app_map ?_; kernel_rfl))⟩ ?_
  refine q_blk_normal ?_
  refine sn ?_
  refine rg (A := (AV.i IntKind.i64 (IntKind.i64.wrap (i_0 + (1 : Int))) = AV.i IntKind.i64 (i_0 + (1 : Int)))) cx [(0, { tell := some (.i .i64 (i_0 + (1 : Int))) })] [1, 5, 8, 9, 10] [1005] (told_i64 (by omega) (by omega)) ?_
  refine sn ?_
  refine loop_next ((i_0 + (1 : Int), l_1 ++ [es[i_0.toNat]!])) (by kernel_rfl) (show ((↑es.length : Int) - (i_0 + (1 : Int))).toNat < ((↑es.length : Int) - i_0).toNat from (by omega)) (show invP (fun e ↦ decide (e.sku = sku)) es (i_0 + (1 : Int)) (l_1 ++ [es[i_0.toNat]!]) from ?g1); rotate_left 1
  refine st_skip (by kernel_rfl) ?_
  refine q_blk_normal ?_
  refine sn ?_
  refine rg (A := (AV.i IntKind.i64 (IntKind.i64.wrap (i_0 + (1 : Int))) = AV.i IntKind.i64 (i_0 + (1 : Int)))) cx [(0, { tell := some (.i .i64 (i_0 + (1 : Int))) })] [1, 5, 8, 9, 10] [1005] (told_i64 (by omega) (by omega)) ?_
  refine sn ?_
  refine loop_next ((i_0 + (1 : Int), l_1)) (by kernel_rfl) (show ((↑es.length : Int) - (i_0 + (1 : Int))).toNat < ((↑es.length : Int) - i_0).toNat from (by omega)) (show invP (fun e ↦ decide (e.sku = sku)) es (i_0 + (1 : Int)) l_1 from ?g2); rotate_left 1
  refine st_exit 0 (by kernel_rfl) ?_
  refine q_seq_exit ?_
  refine q_seq_exit ?_
  refine q_blk_hit ?_
  refine sn ?_
  refine sq ?_
  refine rg (A := True) cx [] [4] [1005] trivial ?_
  refine sn ?_
  refine st_ret (by kernel_rfl) ?_
  refine q_ret (r := .sl (List.map c28 l_1)) (obl := []) (by kernel_rfl) trivial (AVle.eq (show AV.sl (List.map c28 l_1) = AV.sl (List.map c28 (List.filter (fun e ↦ decide (e.sku = sku)) es)) from ?g3)); rotate_left 1
  rotate_left
  revert i_0 l_1 h_3 h_4 h_5 h_6 h_7 h_8; rotate_left
  revert i_0 l_1 h_3 h_4 h_5 h_6 h_7 h_8; rotate_left
  revert i_0 l_1 h_3 h_4 h_5 h_6 h_7; rotate_left
  case g0 => exact (invP_init _ _)
  case g1 => exact (fun i l h0 h1 h2 h3 h4 h5 => invP_add h0 h2 h3 h4 (decide_eq_true h5))
  case g2 => exact (fun i l h0 h1 h2 h3 h4 h5 => invP_skip h0 h2 h3 h4 (by simpa using h5))
  case g3 => exact (fun i l h0 h1 h2 h3 h4 => by rw [invP_done h2 h4])
theorem con51_2 (es : List Entry) (sku : ByteArray) (rep : Int) (hs : es.length * 40 ≤ 140737488351232) : Con Try.prog 51 [.sl (es.map c28), .fn (.func 52) [] [.eptr [.s sku], .eptr [.i .i64 rep]]] (.sl ((es.filter (fun e => decide (e.sku = sku ∧ e.dot.rep = rep))).map c28)) :=
  by
  refine con_lens 0 (c28) (es) (by kernel_rfl) Go.Proofs.Try.func51 (by kernel_rfl) fun hl_0 => ?_
  refine st_con tab_ok (by kernel_rfl) [.tmp 4] 23 Go.Proofs.Try.func51 (by kernel_rfl) (by kernel_rfl) ?_
  intro e0 cx
  refine sq ?_
  refine rg (A := True) cx [] [0, 1] [] trivial ?_
  refine sn ?_
  refine sq ?_
  refine rg (A := True) cx [] [0, 1, 5] [] trivial ?_
  refine sn ?_
  refine sq ?_
  refine sq ?_
  refine rg (A := _) cx [(1, { tell := some (.i .i64 ((↑es.length : Int))) })] [1, 5, 8, 9, 10] [] (told_len c28 es) ?_
  refine sn ?_
  refine st_block 0 (by kernel_rfl) ?_
  refine awp_adopt 5 1005 28 4 (σ' := ⟨[(1, .fn (Fn.func (52 : FuncId)) [] [.eptr [.s (sku)], .eptr [.i .i64 (rep)]]), (5, .own 1005 0), (8, .sl (List.map c28 es)), (9, .i .i64 ((↑es.length : Int))), (10, .i .i64 ((0 : Int)))], [(1005, ⟨0, 28, .row 4 (List.map c28 [])⟩)]⟩) (by kernel_rfl) ?_
  refine st_loop (X := Int × List Entry) (fun x => ⟨[(1, .fn (Fn.func (52 : FuncId)) [] [.eptr [.s (sku)], .eptr [.i .i64 (rep)]]), (5, .own 1005 0), (8, .sl (List.map c28 es)), (9, .i .i64 ((↑es.length : Int))), (10, .i .i64 (x.fst))], [(1005, ⟨0, 28, .row 4 (List.map c28 x.snd)⟩)]⟩) (fun x ↦ decP es x.fst x.snd) (fun x ↦ invP (fun e ↦ decide (e.sku = sku ∧ e.dot.rep = rep)) es x.fst x.snd) [1, 5, 8, 9, 10] [1005] (((0 : Int), [])) (by kernel_rfl) (by kernel_rfl) (show invP (fun e ↦ decide (e.sku = sku ∧ e.dot.rep = rep)) es (0 : Int) [] from ?g0) ?_; rotate_left 1
  rintro ⟨i_0, l_1⟩ h_2
  obtain ⟨h_3, h_4, h_5, h_6⟩ : (0 : Int) ≤ i_0 ∧ i_0 ≤ (↑es.length : Int) ∧ l_1 = List.filter (fun e ↦ decide (e.sku = sku ∧ e.dot.rep = rep)) (List.take i_0.toNat es) ∧ (↑l_1.length : Int) ≤ i_0 := h_2
  refine sq ?_
  refine rg (A := (AV.b (decide (i_0 < (↑es.length : Int))) = AV.b (decide (i_0 < (↑es.length : Int))))) cx [(0, { tell := some (.b (decide (i_0 < (↑es.length : Int)))) })] [1, 5, 8, 9, 10, 11] [1005] (by kernel_rfl) ?_
  refine sn ?_
  refine sq ?_
  refine st_dec (i_0 < (↑es.length : Int)) (by kernel_rfl) (by kernel_rfl) (fun h_7 => ?_) (fun h_7 => ?_)
  refine st_skip (by kernel_rfl) ?_
  refine sn ?_
  refine sq ?_
  refine st_block 1 (by kernel_rfl) ?_
  refine sq ?_
  refine rg (A := ((0 : Int) ≤ i_0) ∧ ((List.map c28 es)[i_0.toNat]? = some (c28 es[i_0.toNat]!)) ∧ ((c28 es[i_0.toNat]!).length = (4 : Nat)) ∧ ((4 : Nat) ≤ [AV.i IntKind.i64 es[i_0.toNat]!.dot.rep, AV.i IntKind.i64 es[i_0.toNat]!.dot.num, AV.s es[i_0.toNat]!.sku, AV.i IntKind.i64 es[i_0.toNat]!.qty].length)) cx [(0, { row := (c28 es[i_0.toNat]!) })] [1, 5, 8, 9, 10, 7] [1005, 7] ⟨(by (with_reducible assumption)), (by (with_reducible refine get_map ?_; omega)), (by kernel_rfl), (by (simp only [List.length_append, List.length_cons, List.length_nil]; omega))⟩ ?_
  refine sn ?_
  refine sq ?_
  refine rg (A := _) cx [(2, { val := some (resC (con52 (es[i_0.toNat]!) (sku) (rep))) })] [1, 5, 8, 9, 10, 7, 16] [1005, 7] (con52 (es[i_0.toNat]!) (sku) (rep)) ?_
  refine sn ?_
  refine st_dec (es[i_0.toNat]!.sku = sku ∧ es[i_0.toNat]!.dot.rep = rep) (by kernel_rfl) (by kernel_rfl) (fun h_8 => ?_) (fun h_8 => ?_)
  refine rg (A := (28 = (28 : Nat)) ∧ ((4 : Nat) = 4) ∧ ([AV.i IntKind.i64 (0 : Int), AV.i IntKind.i64 (0 : Int), AV.s { data := #[] : ByteArray }, AV.i IntKind.i64 (0 : Int)].length = (4 : Nat)) ∧ (∀ (r : List AV), r ∈ List.map c28 [es[i_0.toNat]!] → r.length = 4) ∧ ((List.map c28 l_1).length + (List.map c28 [es[i_0.toNat]!]).length ≤ maxLen) ∧ (((List.map c28 l_1).length + (List.map c28 [es[i_0.toNat]!]).length) * (40 : Nat) ≤ (140737488355328 : Nat)) ∧ (List.map c28 l_1 ++ List.map c28 [es[i_0.toNat]!] = List.map c28 (l_1 ++ [es[i_0.toNat]!]))) cx [(3, { rows := some (List.map c28 (l_1 ++ [es[i_0.toNat]!])) })] [1, 5, 8, 9, 10] [1005] ⟨(by kernel_rfl), (by kernel_rfl), (by kernel_rfl), (by (with_reducible refine len_map (fun _ => ?_) _; kernel_rfl)), (by (simp only [Go.maxLen, List.length_map, List.length_append, List.length_cons, List.length_nil]; omega)), (by (simp only [Go.maxLen, List.length_map, List.length_append, List.length_cons, List.length_nil]; omega)), (by (with_reducible refine app_map ?_; kernel_rfl))⟩ ?_
  refine q_blk_normal ?_
  refine sn ?_
  refine rg (A := (AV.i IntKind.i64 (IntKind.i64.wrap (i_0 + (1 : Int))) = AV.i IntKind.i64 (i_0 + (1 : Int)))) cx [(0, { tell := some (.i .i64 (i_0 + (1 : Int))) })] [1, 5, 8, 9, 10] [1005] (told_i64 (by omega) (by omega)) ?_
  refine sn ?_
  refine loop_next ((i_0 + (1 : Int), l_1 ++ [es[i_0.toNat]!])) (by kernel_rfl) (show ((↑es.length : Int) - (i_0 + (1 : Int))).toNat < ((↑es.length : Int) - i_0).toNat from (by omega)) (show invP (fun e ↦ decide (e.sku = sku ∧ e.dot.rep = rep)) es (i_0 + (1 : Int)) (l_1 ++ [es[i_0.toNat]!]) from ?g1); rotate_left 1
  refine st_skip (by kernel_rfl) ?_
  refine q_blk_normal ?_
  refine sn ?_
  refine rg (A := (AV.i IntKind.i64 (IntKind.i64.wrap (i_0 + (1 : Int))) = AV.i IntKind.i64 (i_0 + (1 : Int)))) cx [(0, { tell := some (.i .i64 (i_0 + (1 : Int))) })] [1, 5, 8, 9, 10] [1005] (told_i64 (by omega) (by omega)) ?_
  refine sn ?_
  refine loop_next ((i_0 + (1 : Int), l_1)) (by kernel_rfl) (show ((↑es.length : Int) - (i_0 + (1 : Int))).toNat < ((↑es.length : Int) - i_0).toNat from (by omega)) (show invP (fun e ↦ decide (e.sku = sku ∧ e.dot.rep = rep)) es (i_0 + (1 : Int)) l_1 from ?g2); rotate_left 1
  refine st_exit 0 (by kernel_rfl) ?_
  refine q_seq_exit ?_
  refine q_seq_exit ?_
  refine q_blk_hit ?_
  refine sn ?_
  refine sq ?_
  refine rg (A := True) cx [] [4] [1005] trivial ?_
  refine sn ?_
  refine st_ret (by kernel_rfl) ?_
  refine q_ret (r := .sl (List.map c28 l_1)) (obl := []) (by kernel_rfl) trivial (AVle.eq (show AV.sl (List.map c28 l_1) = AV.sl (List.map c28 (List.filter (fun e ↦ decide (e.sku = sku ∧ e.dot.rep = rep)) es)) from ?g3)); rotate_left 1
  rotate_left
  revert i_0 l_1 h_3 h_4 h_5 h_6 h_7 h_8; rotate_left
  revert i_0 l_1 h_3 h_4 h_5 h_6 h_7 h_8; rotate_left
  revert i_0 l_1 h_3 h_4 h_5 h_6 h_7; rotate_left
  case g0 => exact (invP_init _ _)
  case g1 => exact (fun i l h0 h1 h2 h3 h4 h5 => invP_add h0 h2 h3 h4 (decide_eq_true h5))
  case g2 => exact (fun i l h0 h1 h2 h3 h4 h5 => invP_skip h0 h2 h3 h4 (by simpa using h5))
  case g3 => exact (fun i l h0 h1 h2 h3 h4 => by rw [invP_done h2 h4])
theorem con23 (es : List Entry) (sku : ByteArray) (hs : es.length * 40 ≤ 140737488351232) : Con Try.prog 23 [.sl (es.map c28), .s sku] (.tup [.sl ((ofV es sku).1.map c28), .i .i64 (ofV es sku).2]) :=
  by
  refine con_lens 0 (c28) (es) (by kernel_rfl) Go.Proofs.Try.func23 (by kernel_rfl) fun hl_0 => ?_
  refine st_con tab_ok (by kernel_rfl) [.tmp 4, .tmp 5] 15 Go.Proofs.Try.func23 (by kernel_rfl) (by kernel_rfl) ?_
  intro e0 cx
  refine sq ?_
  refine rg (A := True) cx [] [0, 3] [3] trivial ?_
  refine sn ?_
  refine sq ?_
  refine sq ?_
  refine rg (A := _ ∧ (AV.b (lstE es != (0 : Int)) = AV.b (decide ¬lstE es = (0 : Int)))) cx [(1, { val := some (.i .i64 (lstE es)) }), (2, { tell := some (.b (decide ¬lstE es = (0 : Int))) })] [0, 3, 8] [3] ⟨(con16 (es)), (told_neq)⟩ ?_
  refine sn ?_
  refine st_dec (¬lstE es = (0 : Int)) (by kernel_rfl) (by kernel_rfl) (fun h_0 => ?_) (fun h_0 => ?_)
  refine sq ?_
  refine rg (A := True) cx [] [4, 5] [] trivial ?_
  refine sn ?_
  refine st_ret (by kernel_rfl) ?_
  refine q_seq_ret ?_
  refine q_ret (r := .tup [.nl, .i .i64 ((1 : Int))]) (obl := []) (by kernel_rfl) trivial (AVle.tup (ZLe.cons (AVle.nl' (show List.map c28 (ofV es sku).fst = [] from ?g1)) (ZLe.cons (AVle.eq (show AV.i IntKind.i64 (1 : Int) = AV.i IntKind.i64 (ofV es sku).snd from ?g0)) ZLe.nil))); rotate_left 2
  refine st_skip (by kernel_rfl) ?_
  refine sn ?_
  refine sq ?_
  refine sq ?_
  refine rg (A := _ ∧ ((AV.b !good sku) = AV.b (decide ¬good sku = true))) cx [(1, { val := some (.b (good sku)) }), (2, { tell := some (.b (decide ¬good sku = true)) })] [0, 3, 11] [3] ⟨(con47 (sku)), (told_not)⟩ ?_
  refine sn ?_
  refine st_dec (¬good sku = true) (by kernel_rfl) (by kernel_rfl) (fun h_1 => ?_) (fun h_1 => ?_)
  refine sq ?_
  refine rg (A := True) cx [] [4, 5] [] trivial ?_
  refine sn ?_
  refine st_ret (by kernel_rfl) ?_
  refine q_seq_ret ?_
  refine q_ret (r := .tup [.nl, .i .i64 ((5 : Int))]) (obl := []) (by kernel_rfl) trivial (AVle.tup (ZLe.cons (AVle.nl' (show List.map c28 (ofV es sku).fst = [] from ?g3)) (ZLe.cons (AVle.eq (show AV.i IntKind.i64 (5 : Int) = AV.i IntKind.i64 (ofV es sku).snd from ?g2)) ZLe.nil))); rotate_left 2
  refine st_skip (by kernel_rfl) ?_
  refine sn ?_
  refine sq ?_
  refine rg (A := _) cx [(2, { val := some (.sl (List.map c28 (List.filter (fun e ↦ decide (e.sku = sku)) es))) })] [4, 5] [] (con51_1 (es) (sku) (by (with_reducible assumption))) ?_
  refine sn ?_
  refine st_ret (by kernel_rfl) ?_
  refine q_ret (r := .tup [.sl (List.map c28 (List.filter (fun e ↦ decide (e.sku = sku)) es)), .i .i64 ((0 : Int))]) (obl := []) (by kernel_rfl) trivial (AVle.tup (ZLe.cons (AVle.eq (show AV.sl (List.map c28 (List.filter (fun e ↦ decide (e.sku = sku)) es)) = AV.sl (List.map c28 (ofV es sku).fst) from ?g5)) (ZLe.cons (AVle.eq (show AV.i IntKind.i64 (0 : Int) = AV.i IntKind.i64 (ofV es sku).snd from ?g4)) ZLe.nil))); rotate_left 2
  revert h_0; rotate_left
  revert h_0; rotate_left
  revert h_0 h_1; rotate_left
  revert h_0 h_1; rotate_left
  revert h_0 h_1; rotate_left
  revert h_0 h_1; rotate_left
  case g0 => exact (fun h => by rw [ofV_form h])
  case g1 => exact (fun h => by rw [ofV_form h]; rfl)
  case g2 => exact (fun h g => by rw [ofV_sku (Classical.not_not.1 h) g])
  case g3 => exact (fun h g => by rw [ofV_sku (Classical.not_not.1 h) g]; rfl)
  case g4 => exact (fun h g => by rw [ofV_ok (Classical.not_not.1 h) (Classical.not_not.1 g)])
  case g5 => exact (fun h g => by rw [ofV_ok (Classical.not_not.1 h) (Classical.not_not.1 g)])
theorem con20 (es : List Entry) (rep : Int) (sku : ByteArray) (hs : es.length * 40 ≤ 140737488351232) : Con Try.prog 20 [.sl (es.map c28), .i .i64 rep, .s sku] (.tup [.sl ((ownV es rep sku).1.map c28), .i .i64 (ownV es rep sku).2]) :=
  by
  refine con_lens 0 (c28) (es) (by kernel_rfl) Go.Proofs.Try.func20 (by kernel_rfl) fun hl_0 => ?_
  refine st_con tab_ok (by kernel_rfl) [.tmp 6, .tmp 7] 23 Go.Proofs.Try.func20 (by kernel_rfl) (by kernel_rfl) ?_
  intro e0 cx
  refine sq ?_
  refine rg (A := True) cx [] [0, 4, 5] [4, 5] trivial ?_
  refine sn ?_
  refine sq ?_
  refine sq ?_
  refine rg (A := _ ∧ (AV.b (lstE es != (0 : Int)) = AV.b (decide ¬lstE es = (0 : Int)))) cx [(1, { val := some (.i .i64 (lstE es)) }), (2, { tell := some (.b (decide ¬lstE es = (0 : Int))) })] [0, 4, 5, 10] [4, 5] ⟨(con16 (es)), (told_neq)⟩ ?_
  refine sn ?_
  refine st_dec (¬lstE es = (0 : Int)) (by kernel_rfl) (by kernel_rfl) (fun h_0 => ?_) (fun h_0 => ?_)
  refine sq ?_
  refine rg (A := True) cx [] [6, 7] [] trivial ?_
  refine sn ?_
  refine st_ret (by kernel_rfl) ?_
  refine q_seq_ret ?_
  refine q_ret (r := .tup [.nl, .i .i64 ((1 : Int))]) (obl := []) (by kernel_rfl) trivial (AVle.tup (ZLe.cons (AVle.nl' (show List.map c28 (ownV es rep sku).fst = [] from ?g1)) (ZLe.cons (AVle.eq (show AV.i IntKind.i64 (1 : Int) = AV.i IntKind.i64 (ownV es rep sku).snd from ?g0)) ZLe.nil))); rotate_left 2
  refine st_skip (by kernel_rfl) ?_
  refine sn ?_
  refine sq ?_
  refine sq ?_
  refine st_join (σ' := ⟨[(0, .sl (List.map c28 es)), (4, .ptr (4) (0) (0) (0)), (5, .ptr (5) (0) (0) (0)), (16, .b (decide (rep < (0 : Int) ∨ (16 : Int) ≤ rep)))], [(4, ⟨0, 3, .var [.i .i64 (rep)]⟩), (5, ⟨0, 9, .var [.s (sku)]⟩)]⟩) ?_ ?_
  refine st_split (rep < (0 : Int)) (fun h_2 => ?_) (fun h_2 => ?_)
  refine rg (A := _ ∧ (AV.b true = AV.b (decide (rep < (0 : Int) ∨ (16 : Int) ≤ rep)))) cx [(1, { tell := some (.b (true)) }), (5, { tell := some (.b (decide (rep < (0 : Int) ∨ (16 : Int) ≤ rep))) })] [0, 4, 5, 16] [4, 5] ⟨(told_true h_2), (by simp only [eq_true h_2, told_simp1, told_simp2, and_true, true_and, and_false, false_and, or_true, true_or, or_false, false_or, not_true_eq_false, not_false_eq_true, decide_true, decide_false, Bool.decide_eq_true])⟩ ?_
  exact ⟨rfl, by kernel_rfl⟩
  refine rg (A := _ ∧ (AV.b (decide (rep ≥ (16 : Int))) = AV.b (decide ((16 : Int) ≤ rep))) ∧ (AV.b (decide ((16 : Int) ≤ rep)) = AV.b (decide (rep < (0 : Int) ∨ (16 : Int) ≤ rep)))) cx [(1, { tell := some (.b (false)) }), (4, { tell := some (.b (decide ((16 : Int) ≤ rep))) }), (5, { tell := some (.b (decide (rep < (0 : Int) ∨ (16 : Int) ≤ rep))) })] [0, 4, 5, 16] [4, 5] ⟨(told_false h_2), (by kernel_rfl), (by simp only [eq_false h_2, told_simp1, told_simp2, and_true, true_and, and_false, false_and, or_true, true_or, or_false, false_or, not_true_eq_false, not_false_eq_true, decide_true, decide_false, Bool.decide_eq_true])⟩ ?_
  exact ⟨rfl, by kernel_rfl⟩
  refine sn ?_
  refine st_dec (rep < (0 : Int) ∨ (16 : Int) ≤ rep) (by kernel_rfl) (by kernel_rfl) (fun h_3 => ?_) (fun h_3 => ?_)
  refine sq ?_
  refine rg (A := True) cx [] [6, 7] [] trivial ?_
  refine sn ?_
  refine st_ret (by kernel_rfl) ?_
  refine q_seq_ret ?_
  refine q_ret (r := .tup [.nl, .i .i64 ((3 : Int))]) (obl := []) (by kernel_rfl) trivial (AVle.tup (ZLe.cons (AVle.nl' (show List.map c28 (ownV es rep sku).fst = [] from ?g3)) (ZLe.cons (AVle.eq (show AV.i IntKind.i64 (3 : Int) = AV.i IntKind.i64 (ownV es rep sku).snd from ?g2)) ZLe.nil))); rotate_left 2
  refine st_skip (by kernel_rfl) ?_
  refine sn ?_
  refine sq ?_
  refine sq ?_
  refine rg (A := _ ∧ ((AV.b !good sku) = AV.b (decide ¬good sku = true))) cx [(1, { val := some (.b (good sku)) }), (2, { tell := some (.b (decide ¬good sku = true)) })] [0, 4, 5, 19] [4, 5] ⟨(con47 (sku)), (told_not)⟩ ?_
  refine sn ?_
  refine st_dec (¬good sku = true) (by kernel_rfl) (by kernel_rfl) (fun h_4 => ?_) (fun h_4 => ?_)
  refine sq ?_
  refine rg (A := True) cx [] [6, 7] [] trivial ?_
  refine sn ?_
  refine st_ret (by kernel_rfl) ?_
  refine q_seq_ret ?_
  refine q_ret (r := .tup [.nl, .i .i64 ((5 : Int))]) (obl := []) (by kernel_rfl) trivial (AVle.tup (ZLe.cons (AVle.nl' (show List.map c28 (ownV es rep sku).fst = [] from ?g5)) (ZLe.cons (AVle.eq (show AV.i IntKind.i64 (5 : Int) = AV.i IntKind.i64 (ownV es rep sku).snd from ?g4)) ZLe.nil))); rotate_left 2
  refine st_skip (by kernel_rfl) ?_
  refine sn ?_
  refine sq ?_
  refine rg (A := _) cx [(2, { val := some (.sl (List.map c28 (List.filter (fun e ↦ decide (e.sku = sku ∧ e.dot.rep = rep)) es))) })] [6, 7] [] (con51_2 (es) (sku) (rep) (by (with_reducible assumption))) ?_
  refine sn ?_
  refine st_ret (by kernel_rfl) ?_
  refine q_ret (r := .tup [.sl (List.map c28 (List.filter (fun e ↦ decide (e.sku = sku ∧ e.dot.rep = rep)) es)), .i .i64 ((0 : Int))]) (obl := []) (by kernel_rfl) trivial (AVle.tup (ZLe.cons (AVle.eq (show AV.sl (List.map c28 (List.filter (fun e ↦ decide (e.sku = sku ∧ e.dot.rep = rep)) es)) = AV.sl (List.map c28 (ownV es rep sku).fst) from ?g7)) (ZLe.cons (AVle.eq (show AV.i IntKind.i64 (0 : Int) = AV.i IntKind.i64 (ownV es rep sku).snd from ?g6)) ZLe.nil))); rotate_left 2
  revert h_0; rotate_left
  revert h_0; rotate_left
  revert h_0 h_3; rotate_left
  revert h_0 h_3; rotate_left
  revert h_0 h_3 h_4; rotate_left
  revert h_0 h_3 h_4; rotate_left
  revert h_0 h_3 h_4; rotate_left
  revert h_0 h_3 h_4; rotate_left
  case g0 => exact (fun h => by rw [ownV_form h])
  case g1 => exact (fun h => by rw [ownV_form h]; rfl)
  case g2 => exact (fun h g => by rw [ownV_rep (Classical.not_not.1 h) g])
  case g3 => exact (fun h g => by rw [ownV_rep (Classical.not_not.1 h) g]; rfl)
  case g4 => exact (fun h r g => by rw [ownV_sku (Classical.not_not.1 h) r g])
  case g5 => exact (fun h r g => by rw [ownV_sku (Classical.not_not.1 h) r g]; rfl)
  case g6 => exact (fun h r g => by rw [ownV_ok (Classical.not_not.1 h) r (Classical.not_not.1 g)])
  case g7 => exact (fun h r g => by rw [ownV_ok (Classical.not_not.1 h) r (Classical.not_not.1 g)])
theorem con21 (es : List Entry) (sku : ByteArray) (hs : es.length * 40 ≤ 140737488351232) : Con Try.prog 21 [.sl (es.map c28), .s sku] (.tup [.sl ((ofV es sku).1.map c28), .i .i64 (ofV es sku).2]) :=
  by
  refine con_lens 0 (c28) (es) (by kernel_rfl) Go.Proofs.Try.func21 (by kernel_rfl) fun hl_0 => ?_
  refine st_con tab_ok (by kernel_rfl) [.tmp 4, .tmp 5] 35 Go.Proofs.Try.func21 (by kernel_rfl) (by kernel_rfl) ?_
  intro e0 cx
  refine sq ?_
  refine rg (A := True) cx [] [0, 1] [] trivial ?_
  refine sn ?_
  refine sq ?_
  refine sq ?_
  refine rg (A := _ ∧ (AV.b (lstE es != (0 : Int)) = AV.b (decide ¬lstE es = (0 : Int)))) cx [(1, { val := some (.i .i64 (lstE es)) }), (2, { tell := some (.b (decide ¬lstE es = (0 : Int))) })] [0, 1, 10] [] ⟨(con18 (es)), (told_neq)⟩ ?_
  refine sn ?_
  refine st_dec (¬lstE es = (0 : Int)) (by kernel_rfl) (by kernel_rfl) (fun h_0 => ?_) (fun h_0 => ?_)
  refine sq ?_
  refine rg (A := True) cx [] [4, 5] [] trivial ?_
  refine sn ?_
  refine st_ret (by kernel_rfl) ?_
  refine q_seq_ret ?_
  refine q_ret (r := .tup [.nl, .i .i64 ((1 : Int))]) (obl := []) (by kernel_rfl) trivial (AVle.tup (ZLe.cons (AVle.nl' (show List.map c28 (ofV es sku).fst = [] from ?g1)) (ZLe.cons (AVle.eq (show AV.i IntKind.i64 (1 : Int) = AV.i IntKind.i64 (ofV es sku).snd from ?g0)) ZLe.nil))); rotate_left 2
  refine st_skip (by kernel_rfl) ?_
  refine sn ?_
  refine sq ?_
  refine sq ?_
  refine rg (A := _ ∧ ((AV.b !good sku) = AV.b (decide ¬good sku = true))) cx [(1, { val := some (.b (good sku)) }), (2, { tell := some (.b (decide ¬good sku = true)) })] [0, 1, 13] [] ⟨(con50 (sku)), (told_not)⟩ ?_
  refine sn ?_
  refine st_dec (¬good sku = true) (by kernel_rfl) (by kernel_rfl) (fun h_1 => ?_) (fun h_1 => ?_)
  refine sq ?_
  refine rg (A := True) cx [] [4, 5] [] trivial ?_
  refine sn ?_
  refine st_ret (by kernel_rfl) ?_
  refine q_seq_ret ?_
  refine q_ret (r := .tup [.nl, .i .i64 ((5 : Int))]) (obl := []) (by kernel_rfl) trivial (AVle.tup (ZLe.cons (AVle.nl' (show List.map c28 (ofV es sku).fst = [] from ?g3)) (ZLe.cons (AVle.eq (show AV.i IntKind.i64 (5 : Int) = AV.i IntKind.i64 (ofV es sku).snd from ?g2)) ZLe.nil))); rotate_left 2
  refine st_skip (by kernel_rfl) ?_
  refine sn ?_
  refine sq ?_
  refine rg (A := True) cx [] [0, 1, 6] [] trivial ?_
  refine sn ?_
  refine sq ?_
  refine sq ?_
  refine rg (A := True) cx [] [0, 1, 6, 7] [] trivial ?_
  refine sn ?_
  refine st_block 0 (by kernel_rfl) ?_
  refine awp_adopt 6 1006 28 4 (σ' := ⟨[(0, .sl (List.map c28 es)), (1, .s (sku)), (6, .own 1006 0), (7, .i .i64 ((0 : Int)))], [(1006, ⟨0, 28, .row 4 (List.map c28 [])⟩)]⟩) (by kernel_rfl) ?_
  refine st_loop (X := Int × List Entry) (fun x => ⟨[(0, .sl (List.map c28 es)), (1, .s (sku)), (6, .own 1006 0), (7, .i .i64 (x.fst))], [(1006, ⟨0, 28, .row 4 (List.map c28 x.snd)⟩)]⟩) (fun x ↦ decP es x.fst x.snd) (fun x ↦ invP (fun e ↦ decide (e.sku = sku)) es x.fst x.snd) [0, 1, 6, 7] [1006] (((0 : Int), [])) (by kernel_rfl) (by kernel_rfl) (show invP (fun e ↦ decide (e.sku = sku)) es (0 : Int) [] from ?g4) ?_; rotate_left 1
  rintro ⟨i_2, l_3⟩ h_4
  obtain ⟨h_5, h_6, h_7, h_8⟩ : (0 : Int) ≤ i_2 ∧ i_2 ≤ (↑es.length : Int) ∧ l_3 = List.filter (fun e ↦ decide (e.sku = sku)) (List.take i_2.toNat es) ∧ (↑l_3.length : Int) ≤ i_2 := h_4
  refine sq ?_
  refine sq ?_
  refine rg (A := _ ∧ (AV.b (decide (i_2 < (↑es.length : Int))) = AV.b (decide (i_2 < (↑es.length : Int))))) cx [(2, { tell := some (.i .i64 ((↑es.length : Int))) }), (3, { tell := some (.b (decide (i_2 < (↑es.length : Int)))) })] [0, 1, 6, 7, 17] [1006] ⟨(told_len c28 es), (by kernel_rfl)⟩ ?_
  refine sn ?_
  refine st_dec (i_2 < (↑es.length : Int)) (by kernel_rfl) (by kernel_rfl) (fun h_9 => ?_) (fun h_9 => ?_)
  refine st_skip (by kernel_rfl) ?_
  refine sn ?_
  refine sq ?_
  refine st_block 1 (by kernel_rfl) ?_
  refine sq ?_
  refine rg (A := ((0 : Int) ≤ i_2) ∧ ((List.map c28 es)[i_2.toNat]? = some (c28 es[i_2.toNat]!)) ∧ ((c28 es[i_2.toNat]!).length = (4 : Nat)) ∧ (AV.b (es[i_2.toNat]!.sku.toList == sku.toList) = AV.b (decide (es[i_2.toNat]!.sku = sku)))) cx [(2, { row := (c28 es[i_2.toNat]!) }), (6, { tell := some (.b (decide (es[i_2.toNat]!.sku = sku))) })] [0, 1, 6, 7, 26] [1006] ⟨(by (with_reducible assumption)), (by (with_reducible refine get_map ?_; omega)), (by kernel_rfl), (told_seq)⟩ ?_
  refine sn ?_
  refine st_dec (es[i_2.toNat]!.sku = sku) (by kernel_rfl) (by kernel_rfl) (fun h_10 => ?_) (fun h_10 => ?_)
  refine rg (A := ((0 : Int) ≤ i_2) ∧ ((List.map c28 es)[i_2.toNat]? = some (c28 es[i_2.toNat]!)) ∧ ((c28 es[i_2.toNat]!).length = (4 : Nat)) ∧ ((4 : Nat) ≤ [AV.i IntKind.i64 es[i_2.toNat]!.dot.rep, AV.i IntKind.i64 es[i_2.toNat]!.dot.num, AV.s es[i_2.toNat]!.sku, AV.i IntKind.i64 es[i_2.toNat]!.qty].length) ∧ (28 = (28 : Nat)) ∧ ((4 : Nat) = 4) ∧ ([AV.i IntKind.i64 (0 : Int), AV.i IntKind.i64 (0 : Int), AV.s { data := #[] : ByteArray }, AV.i IntKind.i64 (0 : Int)].length = (4 : Nat)) ∧ (∀ (r : List AV), r ∈ List.map c28 [es[i_2.toNat]!] → r.length = 4) ∧ ((List.map c28 l_3).length + (List.map c28 [es[i_2.toNat]!]).length ≤ maxLen) ∧ (((List.map c28 l_3).length + (List.map c28 [es[i_2.toNat]!]).length) * (40 : Nat) ≤ (140737488355328 : Nat)) ∧ (List.map c28 l_3 ++ List.map c28 [es[i_2.toNat]!] = List.map c28 (l_3 ++ [es[i_2.toNat]!]))) cx [(3, { row := (c28 es[i_2.toNat]!) }), (6, { rows := some (List.map c28 (l_3 ++ [es[i_2.toNat]!])) })] [0, 1, 6, 7] [1006] ⟨(by (with_reducible assumption)), (by (with_reducible refine get_map ?_; omega)), (by kernel_rfl), (by (simp only [List.length_append, List.length_cons, List.length_nil]; omega)), (by kernel_rfl), (by kernel_rfl), (by kernel_rfl), (by (with_reducible refine len_map (fun _ => ?_) _; kernel_rfl)), (by (simp only [Go.maxLen, List.length_map, List.length_append, List.length_cons, List.length_nil]; omega)), (by (simp only [Go.maxLen, List.length_map, List.length_append, List.length_cons, List.length_nil]; omega)), (by (with_reducible refine app_map ?_; kernel_rfl))⟩ ?_
  refine q_blk_normal ?_
  refine sn ?_
  refine rg (A := (AV.i IntKind.i64 (IntKind.i64.wrap (i_2 + (1 : Int))) = AV.i IntKind.i64 (i_2 + (1 : Int)))) cx [(1, { tell := some (.i .i64 (i_2 + (1 : Int))) })] [0, 1, 6, 7] [1006] (told_i64 (by omega) (by omega)) ?_
  refine sn ?_
  refine loop_next ((i_2 + (1 : Int), l_3 ++ [es[i_2.toNat]!])) (by kernel_rfl) (show ((↑es.length : Int) - (i_2 + (1 : Int))).toNat < ((↑es.length : Int) - i_2).toNat from (by omega)) (show invP (fun e ↦ decide (e.sku = sku)) es (i_2 + (1 : Int)) (l_3 ++ [es[i_2.toNat]!]) from ?g5); rotate_left 1
  refine st_skip (by kernel_rfl) ?_
  refine q_blk_normal ?_
  refine sn ?_
  refine rg (A := (AV.i IntKind.i64 (IntKind.i64.wrap (i_2 + (1 : Int))) = AV.i IntKind.i64 (i_2 + (1 : Int)))) cx [(1, { tell := some (.i .i64 (i_2 + (1 : Int))) })] [0, 1, 6, 7] [1006] (told_i64 (by omega) (by omega)) ?_
  refine sn ?_
  refine loop_next ((i_2 + (1 : Int), l_3)) (by kernel_rfl) (show ((↑es.length : Int) - (i_2 + (1 : Int))).toNat < ((↑es.length : Int) - i_2).toNat from (by omega)) (show invP (fun e ↦ decide (e.sku = sku)) es (i_2 + (1 : Int)) l_3 from ?g6); rotate_left 1
  refine st_exit 0 (by kernel_rfl) ?_
  refine q_seq_exit ?_
  refine q_seq_exit ?_
  refine q_blk_hit ?_
  refine sn ?_
  refine sq ?_
  refine rg (A := True) cx [] [4, 5] [1006] trivial ?_
  refine sn ?_
  refine st_ret (by kernel_rfl) ?_
  refine q_ret (r := .tup [.sl (List.map c28 l_3), .i .i64 ((0 : Int))]) (obl := []) (by kernel_rfl) trivial (AVle.tup (ZLe.cons (AVle.eq (show AV.sl (List.map c28 l_3) = AV.sl (List.map c28 (ofV es sku).fst) from ?g8)) (ZLe.cons (AVle.eq (show AV.i IntKind.i64 (0 : Int) = AV.i IntKind.i64 (ofV es sku).snd from ?g7)) ZLe.nil))); rotate_left 2
  revert h_0; rotate_left
  revert h_0; rotate_left
  revert h_0 h_1; rotate_left
  revert h_0 h_1; rotate_left
  revert h_0 h_1; rotate_left
  revert h_0 h_1 i_2 l_3 h_5 h_6 h_7 h_8 h_9 h_10; rotate_left
  revert h_0 h_1 i_2 l_3 h_5 h_6 h_7 h_8 h_9 h_10; rotate_left
  revert h_0 h_1 i_2 l_3 h_5 h_6 h_7 h_8 h_9; rotate_left
  revert h_0 h_1 i_2 l_3 h_5 h_6 h_7 h_8 h_9; rotate_left
  case g0 => exact (fun h => by rw [ofV_form h])
  case g1 => exact (fun h => by rw [ofV_form h]; rfl)
  case g2 => exact (fun h g => by rw [ofV_sku (Classical.not_not.1 h) g])
  case g3 => exact (fun h g => by rw [ofV_sku (Classical.not_not.1 h) g]; rfl)
  case g4 => exact (fun _ _ => invP_init _ _)
  case g5 => exact (fun _ _ i l h0 h1 h2 h3 h4 h5 => invP_add h0 h2 h3 h4 (decide_eq_true h5))
  case g6 => exact (fun _ _ i l h0 h1 h2 h3 h4 h5 => invP_skip h0 h2 h3 h4 (by simpa using h5))
  case g7 => exact (fun h g i l h0 h1 h2 h3 h4 => by rw [ofV_ok (Classical.not_not.1 h) (Classical.not_not.1 g)])
  case g8 => exact (fun h g i l h0 h1 h2 h3 h4 => by rw [ofV_ok (Classical.not_not.1 h) (Classical.not_not.1 g), invP_done h2 h4])
theorem con22 (es : List Entry) (rep : Int) (sku : ByteArray) (hs : es.length * 40 ≤ 140737488351232) : Con Try.prog 22 [.sl (es.map c28), .i .i64 rep, .s sku] (.tup [.sl ((ownV es rep sku).1.map c28), .i .i64 (ownV es rep sku).2]) :=
  by
  refine con_lens 0 (c28) (es) (by kernel_rfl) Go.Proofs.Try.func22 (by kernel_rfl) fun hl_0 => ?_
  refine st_con tab_ok (by kernel_rfl) [.tmp 6, .tmp 7] 50 Go.Proofs.Try.func22 (by kernel_rfl) (by kernel_rfl) ?_
  intro e0 cx
  refine sq ?_
  refine rg (A := True) cx [] [0, 1, 2] [] trivial ?_
  refine sn ?_
  refine sq ?_
  refine sq ?_
  refine rg (A := _ ∧ (AV.b (lstE es != (0 : Int)) = AV.b (decide ¬lstE es = (0 : Int)))) cx [(1, { val := some (.i .i64 (lstE es)) }), (2, { tell := some (.b (decide ¬lstE es = (0 : Int))) })] [0, 1, 2, 14] [] ⟨(con18 (es)), (told_neq)⟩ ?_
  refine sn ?_
  refine st_dec (¬lstE es = (0 : Int)) (by kernel_rfl) (by kernel_rfl) (fun h_0 => ?_) (fun h_0 => ?_)
  refine sq ?_
  refine rg (A := True) cx [] [6, 7] [] trivial ?_
  refine sn ?_
  refine st_ret (by kernel_rfl) ?_
  refine q_seq_ret ?_
  refine q_ret (r := .tup [.nl, .i .i64 ((1 : Int))]) (obl := []) (by kernel_rfl) trivial (AVle.tup (ZLe.cons (AVle.nl' (show List.map c28 (ownV es rep sku).fst = [] from ?g1)) (ZLe.cons (AVle.eq (show AV.i IntKind.i64 (1 : Int) = AV.i IntKind.i64 (ownV es rep sku).snd from ?g0)) ZLe.nil))); rotate_left 2
  refine st_skip (by kernel_rfl) ?_
  refine sn ?_
  refine sq ?_
  refine sq ?_
  refine st_join (σ' := ⟨[(0, .sl (List.map c28 es)), (1, .i .i64 (rep)), (2, .s (sku)), (20, .b (decide (rep < (0 : Int) ∨ (16 : Int) ≤ rep)))], []⟩) ?_ ?_
  refine st_split (rep < (0 : Int)) (fun h_2 => ?_) (fun h_2 => ?_)
  refine rg (A := _ ∧ (AV.b true = AV.b (decide (rep < (0 : Int) ∨ (16 : Int) ≤ rep)))) cx [(1, { tell := some (.b (true)) }), (5, { tell := some (.b (decide (rep < (0 : Int) ∨ (16 : Int) ≤ rep))) })] [0, 1, 2, 20] [] ⟨(told_true h_2), (by simp only [eq_true h_2, told_simp1, told_simp2, and_true, true_and, and_false, false_and, or_true, true_or, or_false, false_or, not_true_eq_false, not_false_eq_true, decide_true, decide_false, Bool.decide_eq_true])⟩ ?_
  exact ⟨rfl, by kernel_rfl⟩
  refine rg (A := _ ∧ (AV.b (decide (rep ≥ (16 : Int))) = AV.b (decide ((16 : Int) ≤ rep))) ∧ (AV.b (decide ((16 : Int) ≤ rep)) = AV.b (decide (rep < (0 : Int) ∨ (16 : Int) ≤ rep)))) cx [(1, { tell := some (.b (false)) }), (4, { tell := some (.b (decide ((16 : Int) ≤ rep))) }), (5, { tell := some (.b (decide (rep < (0 : Int) ∨ (16 : Int) ≤ rep))) })] [0, 1, 2, 20] [] ⟨(told_false h_2), (by kernel_rfl), (by simp only [eq_false h_2, told_simp1, told_simp2, and_true, true_and, and_false, false_and, or_true, true_or, or_false, false_or, not_true_eq_false, not_false_eq_true, decide_true, decide_false, Bool.decide_eq_true])⟩ ?_
  exact ⟨rfl, by kernel_rfl⟩
  refine sn ?_
  refine st_dec (rep < (0 : Int) ∨ (16 : Int) ≤ rep) (by kernel_rfl) (by kernel_rfl) (fun h_3 => ?_) (fun h_3 => ?_)
  refine sq ?_
  refine rg (A := True) cx [] [6, 7] [] trivial ?_
  refine sn ?_
  refine st_ret (by kernel_rfl) ?_
  refine q_seq_ret ?_
  refine q_ret (r := .tup [.nl, .i .i64 ((3 : Int))]) (obl := []) (by kernel_rfl) trivial (AVle.tup (ZLe.cons (AVle.nl' (show List.map c28 (ownV es rep sku).fst = [] from ?g3)) (ZLe.cons (AVle.eq (show AV.i IntKind.i64 (3 : Int) = AV.i IntKind.i64 (ownV es rep sku).snd from ?g2)) ZLe.nil))); rotate_left 2
  refine st_skip (by kernel_rfl) ?_
  refine sn ?_
  refine sq ?_
  have hl_4 := (rng_ofV es)
  have hl_5 := (rng_ofV es sku)
  refine rg (A := _) cx [(2, { val := some (.tup [.sl (List.map c28 (ofV es sku).fst), .i .i64 ((ofV es sku).snd)]) })] [1, 8, 9] [] (con21 (es) (sku) (by (with_reducible assumption))) ?_
  refine sn ?_
  refine sq ?_
  refine rg (A := True) cx [] [1, 8, 9, 10] [] trivial ?_
  refine sn ?_
  refine sq ?_
  refine sq ?_
  refine rg (A := True) cx [] [1, 8, 9, 10, 11] [] trivial ?_
  refine sn ?_
  refine st_block 0 (by kernel_rfl) ?_
  refine awp_adopt 10 1010 28 4 (σ' := ⟨[(1, .i .i64 (rep)), (8, .sl (List.map c28 (ofV es sku).fst)), (9, .i .i64 ((ofV es sku).snd)), (10, .own 1010 0), (11, .i .i64 ((0 : Int)))], [(1010, ⟨0, 28, .row 4 (List.map c28 [])⟩)]⟩) (by kernel_rfl) ?_
  refine st_loop (X := Int × List Entry) (fun x => ⟨[(1, .i .i64 (rep)), (8, .sl (List.map c28 (ofV es sku).fst)), (9, .i .i64 ((ofV es sku).snd)), (10, .own 1010 0), (11, .i .i64 (x.fst))], [(1010, ⟨0, 28, .row 4 (List.map c28 x.snd)⟩)]⟩) (fun x ↦ decP (ofV es sku).fst x.fst x.snd) (fun x ↦ invP (fun e ↦ decide (e.dot.rep = rep)) (ofV es sku).fst x.fst x.snd) [1, 8, 9, 10, 11] [1010] (((0 : Int), [])) (by kernel_rfl) (by kernel_rfl) (show invP (fun e ↦ decide (e.dot.rep = rep)) (ofV es sku).fst (0 : Int) [] from ?g4) ?_; rotate_left 1
  rintro ⟨i_6, l_7⟩ h_8
  obtain ⟨h_9, h_10, h_11, h_12⟩ : (0 : Int) ≤ i_6 ∧ i_6 ≤ (↑(ofV es sku).fst.length : Int) ∧ l_7 = List.filter (fun e ↦ decide (e.dot.rep = rep)) (List.take i_6.toNat (ofV es sku).fst) ∧ (↑l_7.length : Int) ≤ i_6 := h_8
  refine sq ?_
  refine sq ?_
  refine rg (A := _ ∧ (AV.b (decide (i_6 < (↑(ofV es sku).fst.length : Int))) = AV.b (decide (i_6 < (↑(ofV es sku).fst.length : Int))))) cx [(2, { tell := some (.i .i64 ((↑(ofV es sku).fst.length : Int))) }), (3, { tell := some (.b (decide (i_6 < (↑(ofV es sku).fst.length : Int)))) })] [1, 8, 9, 10, 11, 30] [1010] ⟨(told_len c28 (ofV es sku).fst), (by kernel_rfl)⟩ ?_
  refine sn ?_
  refine st_dec (i_6 < (↑(ofV es sku).fst.length : Int)) (by kernel_rfl) (by kernel_rfl) (fun h_13 => ?_) (fun h_13 => ?_)
  refine st_skip (by kernel_rfl) ?_
  refine sn ?_
  refine sq ?_
  refine st_block 1 (by kernel_rfl) ?_
  refine sq ?_
  refine rg (A := ((0 : Int) ≤ i_6) ∧ ((List.map c28 (ofV es sku).fst)[i_6.toNat]? = some (c28 (ofV es sku).fst[i_6.toNat]!)) ∧ ((c28 (ofV es sku).fst[i_6.toNat]!).length = (4 : Nat)) ∧ (AV.b ((ofV es sku).fst[i_6.toNat]!.dot.rep == rep) = AV.b (decide ((ofV es sku).fst[i_6.toNat]!.dot.rep = rep)))) cx [(2, { row := (c28 (ofV es sku).fst[i_6.toNat]!) }), (7, { tell := some (.b (decide ((ofV es sku).fst[i_6.toNat]!.dot.rep = rep))) })] [1, 8, 9, 10, 11, 40] [1010] ⟨(by (with_reducible assumption)), (by (with_reducible refine get_map ?_; omega)), (by kernel_rfl), (by kernel_rfl)⟩ ?_
  refine sn ?_
  refine st_dec ((ofV es sku).fst[i_6.toNat]!.dot.rep = rep) (by kernel_rfl) (by kernel_rfl) (fun h_14 => ?_) (fun h_14 => ?_)
  refine rg (A := ((0 : Int) ≤ i_6) ∧ ((List.map c28 (ofV es sku).fst)[i_6.toNat]? = some (c28 (ofV es sku).fst[i_6.toNat]!)) ∧ ((c28 (ofV es sku).fst[i_6.toNat]!).length = (4 : Nat)) ∧ ((4 : Nat) ≤ [AV.i IntKind.i64 (ofV es sku).fst[i_6.toNat]!.dot.rep, AV.i IntKind.i64 (ofV es sku).fst[i_6.toNat]!.dot.num, AV.s (ofV es sku).fst[i_6.toNat]!.sku, AV.i IntKind.i64 (ofV es sku).fst[i_6.toNat]!.qty].length) ∧ (28 = (28 : Nat)) ∧ ((4 : Nat) = 4) ∧ ([AV.i IntKind.i64 (0 : Int), AV.i IntKind.i64 (0 : Int), AV.s { data := #[] : ByteArray }, AV.i IntKind.i64 (0 : Int)].length = (4 : Nat)) ∧ (∀ (r : List AV), r ∈ List.map c28 [(ofV es sku).fst[i_6.toNat]!] → r.length = 4) ∧ ((List.map c28 l_7).length + (List.map c28 [(ofV es sku).fst[i_6.toNat]!]).length ≤ maxLen) ∧ (((List.map c28 l_7).length + (List.map c28 [(ofV es sku).fst[i_6.toNat]!]).length) * (40 : Nat) ≤ (140737488355328 : Nat)) ∧ (List.map c28 l_7 ++ List.map c28 [(ofV es sku).fst[i_6.toNat]!] = List.map c28 (l_7 ++ [(ofV es sku).fst[i_6.toNat]!]))) cx [(3, { row := (c28 (ofV es sku).fst[i_6.toNat]!) }), (6, { rows := some (List.map c28 (l_7 ++ [(ofV es sku).fst[i_6.toNat]!])) })] [1, 8, 9, 10, 11] [1010] ⟨(by (with_reducible assumption)), (by (with_reducible refine get_map ?_; omega)), (by kernel_rfl), (by (simp only [List.length_append, List.length_cons, List.length_nil]; omega)), (by kernel_rfl), (by kernel_rfl), (by kernel_rfl), (by (with_reducible refine len_map (fun _ => ?_) _; kernel_rfl)), (by (simp only [Go.maxLen, List.length_map, List.length_append, List.length_cons, List.length_nil]; omega)), (by (simp only [Go.maxLen, List.length_map, List.length_append, List.length_cons, List.length_nil]; omega)), (by (with_reducible refine app_map ?_; kernel_rfl))⟩ ?_
  refine q_blk_normal ?_
  refine sn ?_
  refine rg (A := (AV.i IntKind.i64 (IntKind.i64.wrap (i_6 + (1 : Int))) = AV.i IntKind.i64 (i_6 + (1 : Int)))) cx [(1, { tell := some (.i .i64 (i_6 + (1 : Int))) })] [1, 8, 9, 10, 11] [1010] (told_i64 (by omega) (by omega)) ?_
  refine sn ?_
  refine loop_next ((i_6 + (1 : Int), l_7 ++ [(ofV es sku).fst[i_6.toNat]!])) (by kernel_rfl) (show ((↑(ofV es sku).fst.length : Int) - (i_6 + (1 : Int))).toNat < ((↑(ofV es sku).fst.length : Int) - i_6).toNat from (by omega)) (show invP (fun e ↦ decide (e.dot.rep = rep)) (ofV es sku).fst (i_6 + (1 : Int)) (l_7 ++ [(ofV es sku).fst[i_6.toNat]!]) from ?g5); rotate_left 1
  refine st_skip (by kernel_rfl) ?_
  refine q_blk_normal ?_
  refine sn ?_
  refine rg (A := (AV.i IntKind.i64 (IntKind.i64.wrap (i_6 + (1 : Int))) = AV.i IntKind.i64 (i_6 + (1 : Int)))) cx [(1, { tell := some (.i .i64 (i_6 + (1 : Int))) })] [1, 8, 9, 10, 11] [1010] (told_i64 (by omega) (by omega)) ?_
  refine sn ?_
  refine loop_next ((i_6 + (1 : Int), l_7)) (by kernel_rfl) (show ((↑(ofV es sku).fst.length : Int) - (i_6 + (1 : Int))).toNat < ((↑(ofV es sku).fst.length : Int) - i_6).toNat from (by omega)) (show invP (fun e ↦ decide (e.dot.rep = rep)) (ofV es sku).fst (i_6 + (1 : Int)) l_7 from ?g6); rotate_left 1
  refine st_exit 0 (by kernel_rfl) ?_
  refine q_seq_exit ?_
  refine q_seq_exit ?_
  refine q_blk_hit ?_
  refine sn ?_
  refine sq ?_
  refine rg (A := True) cx [] [6, 7] [1010] trivial ?_
  refine sn ?_
  refine st_ret (by kernel_rfl) ?_
  refine q_ret (r := .tup [.sl (List.map c28 l_7), .i .i64 ((ofV es sku).snd)]) (obl := []) (by kernel_rfl) trivial (AVle.tup (ZLe.cons (AVle.eq (show AV.sl (List.map c28 l_7) = AV.sl (List.map c28 (ownV es rep sku).fst) from ?g8)) (ZLe.cons (AVle.eq (show AV.i IntKind.i64 (ofV es sku).snd = AV.i IntKind.i64 (ownV es rep sku).snd from ?g7)) ZLe.nil))); rotate_left 2
  revert h_0; rotate_left
  revert h_0; rotate_left
  revert h_0 h_3; rotate_left
  revert h_0 h_3; rotate_left
  revert h_0 h_3; rotate_left
  revert h_0 h_3 i_6 l_7 h_9 h_10 h_11 h_12 h_13 h_14; rotate_left
  revert h_0 h_3 i_6 l_7 h_9 h_10 h_11 h_12 h_13 h_14; rotate_left
  revert h_0 h_3 i_6 l_7 h_9 h_10 h_11 h_12 h_13; rotate_left
  revert h_0 h_3 i_6 l_7 h_9 h_10 h_11 h_12 h_13; rotate_left
  case g0 => exact (fun h => by rw [ownV_form h])
  case g1 => exact (fun h => by rw [ownV_form h]; rfl)
  case g2 => exact (fun h g => by rw [ownV_rep (Classical.not_not.1 h) g])
  case g3 => exact (fun h g => by rw [ownV_rep (Classical.not_not.1 h) g]; rfl)
  case g4 => exact (fun _ _ => invP_init _ _)
  case g5 => exact (fun _ _ i l h0 h1 h2 h3 h4 h5 => invP_add h0 h2 h3 h4 (decide_eq_true h5))
  case g6 => exact (fun _ _ i l h0 h1 h2 h3 h4 h5 => invP_skip h0 h2 h3 h4 (by simpa using h5))
  case g7 => exact (fun h r i l h0 h1 h2 h3 h4 => by rw [own_of (Classical.not_not.1 h) r])
  case g8 => exact (fun h r i l h0 h1 h2 h3 h4 => by rw [own_of (Classical.not_not.1 h) r, invP_done h2 h4])
theorem con24 (a b : List Entry) : Con Try.prog 24 [.sl (a.map c28), .sl (b.map c28)] (.b (decide (a = b))) :=
  by
  refine con_lens 0 (c28) (a) (by kernel_rfl) Go.Proofs.Try.func24 (by kernel_rfl) fun hl_0 => ?_
  refine con_lens 1 (c28) (b) (by kernel_rfl) Go.Proofs.Try.func24 (by kernel_rfl) fun hl_1 => ?_
  refine st_con tab_ok (by kernel_rfl) [.tmp 4] 26 Go.Proofs.Try.func24 (by kernel_rfl) (by kernel_rfl) ?_
  intro e0 cx
  refine sq ?_
  refine rg (A := True) cx [] [0, 1] [] trivial ?_
  refine sn ?_
  refine sq ?_
  refine sq ?_
  refine rg (A := _ ∧ _ ∧ (AV.b ((↑a.length : Int) != (↑b.length : Int)) = AV.b (decide ¬(↑a.length : Int) = (↑b.length : Int)))) cx [(1, { tell := some (.i .i64 ((↑a.length : Int))) }), (3, { tell := some (.i .i64 ((↑b.length : Int))) }), (4, { tell := some (.b (decide ¬(↑a.length : Int) = (↑b.length : Int))) })] [0, 1, 10] [] ⟨(told_len c28 a), (told_len c28 b), (told_neq)⟩ ?_
  refine sn ?_
  refine st_dec (¬(↑a.length : Int) = (↑b.length : Int)) (by kernel_rfl) (by kernel_rfl) (fun h_0 => ?_) (fun h_0 => ?_)
  refine sq ?_
  refine rg (A := True) cx [] [4] [] trivial ?_
  refine sn ?_
  refine st_ret (by kernel_rfl) ?_
  refine q_seq_ret ?_
  refine q_ret (r := .b (false)) (obl := []) (by kernel_rfl) trivial (AVle.eq (show AV.b false = AV.b (decide (a = b)) from ?g0)); rotate_left 1
  refine st_skip (by kernel_rfl) ?_
  refine sn ?_
  refine sq ?_
  refine sq ?_
  refine rg (A := True) cx [] [0, 1, 5] [] trivial ?_
  refine sn ?_
  refine st_block 0 (by kernel_rfl) ?_
  refine st_loop (X := Int) (fun x => ⟨[(0, .sl (List.map c28 a)), (1, .sl (List.map c28 b)), (5, .i .i64 (x))], []⟩) (fun x ↦ dec30 a x) (fun x ↦ inv30 a b x) [0, 1, 5] [] ((0 : Int)) (by kernel_rfl) (by kernel_rfl) (show inv30 a b (0 : Int) from ?g1) ?_; rotate_left 1
  intro i_1 h_2
  obtain ⟨h_3, h_4, h_5⟩ : (0 : Int) ≤ i_1 ∧ i_1 ≤ (↑a.length : Int) ∧ ∀ (j : Nat), (↑j : Int) < i_1 → a[j]! = b[j]! := h_2
  refine sq ?_
  refine sq ?_
  refine rg (A := _ ∧ (AV.b (decide (i_1 < (↑a.length : Int))) = AV.b (decide (i_1 < (↑a.length : Int))))) cx [(2, { tell := some (.i .i64 ((↑a.length : Int))) }), (3, { tell := some (.b (decide (i_1 < (↑a.length : Int)))) })] [0, 1, 5, 14] [] ⟨(told_len c28 a), (by kernel_rfl)⟩ ?_
  refine sn ?_
  refine st_dec (i_1 < (↑a.length : Int)) (by kernel_rfl) (by kernel_rfl) (fun h_6 => ?_) (fun h_6 => ?_)
  refine st_skip (by kernel_rfl) ?_
  refine sn ?_
  refine sq ?_
  refine st_block 1 (by kernel_rfl) ?_
  refine sq ?_
  refine ra (A := ((0 : Int) ≤ i_1) ∧ ((List.map c28 a)[i_1.toNat]? = some (c28 a[i_1.toNat]!)) ∧ ((c28 a[i_1.toNat]!).length = (4 : Nat)) ∧ ((4 : Nat) ≤ [AV.i IntKind.i64 a[i_1.toNat]!.dot.rep, AV.i IntKind.i64 a[i_1.toNat]!.dot.num, AV.s a[i_1.toNat]!.sku, AV.i IntKind.i64 a[i_1.toNat]!.qty].length) ∧ ((0 : Int) ≤ i_1) ∧ ((List.map c28 b)[i_1.toNat]? = some (c28 b[i_1.toNat]!)) ∧ ((c28 b[i_1.toNat]!).length = (4 : Nat)) ∧ ((4 : Nat) ≤ [AV.i IntKind.i64 b[i_1.toNat]!.dot.rep, AV.i IntKind.i64 b[i_1.toNat]!.dot.num, AV.s b[i_1.toNat]!.sku, AV.i IntKind.i64 b[i_1.toNat]!.qty].length) ∧ (AggEq Try.prog (28 : Nat) [AV.i IntKind.i64 a[i_1.toNat]!.dot.rep, AV.i IntKind.i64 a[i_1.toNat]!.dot.num, AV.s a[i_1.toNat]!.sku, AV.i IntKind.i64 a[i_1.toNat]!.qty] [AV.i IntKind.i64 b[i_1.toNat]!.dot.rep, AV.i IntKind.i64 b[i_1.toNat]!.dot.num, AV.s b[i_1.toNat]!.sku, AV.i IntKind.i64 b[i_1.toNat]!.qty] !decide ¬a[i_1.toNat]! = b[i_1.toNat]!)) cx [(2, { row := (c28 a[i_1.toNat]!) }), (6, { row := (c28 b[i_1.toNat]!) }), (8, { val := some (.b (decide ¬a[i_1.toNat]! = b[i_1.toNat]!)) })] [0, 1, 5, 25] [] ⟨(by (with_reducible assumption)), (by (with_reducible refine get_map ?_; omega)), (by kernel_rfl), (by (simp only [List.length_append, List.length_cons, List.length_nil]; omega)), (by (with_reducible assumption)), (by (with_reducible refine get_map ?_; omega)), (by kernel_rfl), (by (simp only [List.length_append, List.length_cons, List.length_nil]; omega)), (aggNe_dec (eq28 a[i_1.toNat]! b[i_1.toNat]!))⟩ ?_
  refine sn ?_
  refine st_dec (¬a[i_1.toNat]! = b[i_1.toNat]!) (by kernel_rfl) (by kernel_rfl) (fun h_7 => ?_) (fun h_7 => ?_)
  refine sq ?_
  refine rg (A := True) cx [] [4] [] trivial ?_
  refine sn ?_
  refine st_ret (by kernel_rfl) ?_
  refine q_blk_ret ?_
  refine q_seq_ret ?_
  refine q_seq_ret ?_
  refine q_blk_ret ?_
  refine q_seq_ret ?_
  refine q_ret (r := .b (false)) (obl := []) (by kernel_rfl) trivial (AVle.eq (show AV.b false = AV.b (decide (a = b)) from ?g2)); rotate_left 1
  refine st_skip (by kernel_rfl) ?_
  refine q_blk_normal ?_
  refine sn ?_
  refine rg (A := (AV.i IntKind.i64 (IntKind.i64.wrap (i_1 + (1 : Int))) = AV.i IntKind.i64 (i_1 + (1 : Int)))) cx [(1, { tell := some (.i .i64 (i_1 + (1 : Int))) })] [0, 1, 5] [] (told_i64 (by omega) (by omega)) ?_
  refine sn ?_
  refine loop_next (i_1 + (1 : Int)) (by kernel_rfl) (show ((↑a.length : Int) - (i_1 + (1 : Int))).toNat < ((↑a.length : Int) - i_1).toNat from (by omega)) (show inv30 a b (i_1 + (1 : Int)) from ?g3); rotate_left 1
  refine st_exit 0 (by kernel_rfl) ?_
  refine q_seq_exit ?_
  refine q_seq_exit ?_
  refine q_blk_hit ?_
  refine sn ?_
  refine sq ?_
  refine rg (A := True) cx [] [4] [] trivial ?_
  refine sn ?_
  refine st_ret (by kernel_rfl) ?_
  refine q_ret (r := .b (true)) (obl := []) (by kernel_rfl) trivial (AVle.eq (show AV.b true = AV.b (decide (a = b)) from ?g4)); rotate_left 1
  revert h_0; rotate_left
  revert h_0; rotate_left
  revert h_0 i_1 h_3 h_4 h_5 h_6 h_7; rotate_left
  revert h_0 i_1 h_3 h_4 h_5 h_6 h_7; rotate_left
  revert h_0 i_1 h_3 h_4 h_5 h_6; rotate_left
  case g1 => exact (fun h => ⟨by omega, by omega, fun j hj => by omega⟩)
  case' g4 => refine (fun h i h1 h2 h3 h4 => ?_)
  case' g3 => refine (fun h i h1 h2 h3 h4 h5 => ⟨by omega, by omega, fun j hj => ?_⟩)
  case' g2 => refine (fun h i h1 h2 h3 h4 h5 => ?_)
  case' g0 => refine (fun h => ?_)
  · congr 1; symm; rw [decide_eq_false_iff_not]; rintro rfl; exact h rfl
  · congr 1; symm; rw [decide_eq_false_iff_not]; rintro rfl; exact h5 rfl
  · by_cases e : j = i.toNat
    · subst e; exact Classical.not_not.1 h5
    · exact h3 j (by omega)
  · congr 1; symm; rw [decide_eq_true_iff]; exact bang_eq (Classical.not_not.1 h) fun j hj => h3 j (by omega)
end Go.Proofs.Ytjngmlkaijpbgaa
namespace Go.Proofs.Ytjngmlkaijpbgaa
open Go.E
set_option maxRecDepth 100000
set_option maxHeartbeats 4000000
theorem ent_ok {e : Entry} (h : entE e = 0) : 0 ≤ e.dot.rep ∧ e.dot.rep < 16 ∧ 1 ≤ e.dot.num ∧ e.dot.num ≤ 1000000000 := by
  unfold entE at h
  split at h
  · cases h
  · split at h
    · cases h
    · omega
theorem okL_at {es : List Entry} (h : okL es = true) {i : Nat} (hi : i < es.length) : entE es[i]! = 0 ∧ (i = 0 ∨ dLt es[i - 1]!.dot es[i]!.dot = true) := (okAt_iff _ _).1 ((allUp_iff _ _).1 h i hi)
theorem okL_key {es : List Entry} (h : okL es = true) : ∀ i : Nat, i < es.length → (i : Int) + 1 ≤ es[i]!.dot.rep * 1000000000 + es[i]!.dot.num
  | 0, hi => by have := ent_ok (okL_at h hi).1; omega
  | i + 1, hi => by
    have h1 := okL_key h i (by omega)
    have h2 := ent_ok (okL_at h hi).1
    have h3 := ent_ok (okL_at h (show i < es.length by omega)).1
    have h4 := (okL_at h hi).2
    rcases h4 with h4 | h4
    · omega
    · simp only [Nat.add_sub_cancel, dLt, decide_eq_true_eq] at h4
      omega
/-- A list in form is no longer than there are dots. -/
theorem okL_len {es : List Entry} (h : okL es = true) : es.length ≤ 16000000000 := by
  by_cases h0 : es.length = 0
  · omega
  · have h1 := okL_key h (es.length - 1) (by omega)
    have h2 := ent_ok (okL_at h (show es.length - 1 < es.length by omega)).1
    omega
theorem lst_ok {es : List Entry} (h : lstE es = 0) : okL es = true := by
  unfold lstE at h
  split at h
  · assumption
  · cases h
theorem lst_no {es : List Entry} (h : ¬ lstE es = 0) : ¬ okL es = true := fun k => h (by unfold lstE; rw [if_pos k])
end Go.Proofs.Ytjngmlkaijpbgaa
namespace Go.E
open Go.RowKit
def nextOf (c : Code) : Option (Nat × Nat) := match c with
  | .region _ ops false => (match ops.toList with
    | o :: _ => (match o.op, o.dst, o.guard with
      | .next (.tmp t) false, some d, none => some (t, d)
      | _, _, _ => none)
    | [] => none)
  | _ => none
/-- The state behind the step: no entry is left; or entry j has come. -/
def nextSt (σ : St) (d it : Nat) (B : Blk) (m : AV) (n : Nat) (seen : List Nat) : Option Nat → St
  | none => ⟨put σ.slots d (.tup [.b false]), σ.hp⟩
  | some j => ⟨put σ.slots d (.tup [.b true, .dead, .dead]), put σ.hp it { B with k := .iter m n (seen ++ [j]) }⟩
/-- The rest of the region. -/
def nextR (P : Program) (T : Tab) (nt : Nat) (c : Code) (σ : St) (ks kb : List Nat) : Option St := match runR P T [] nt (cO c) 1 ((cO c).toList.drop 1) σ with
  | some (rs, []) => some ((σ.recs rs).norm [] ks kb)
  | _ => none
section
variable {P : Program} {E : Env} {T : Tab} {σ : St} {Q : Exit → St → Prop} {c : Code} {nt : Nat}
theorem Rel.drew' {a : Act} {w w1 : World} (h : Rel E σ a w) (hw : w1 = w ∨ w1 = w.drew) : Rel E σ a w1 := by
  rcases hw with rfl | rfl
  · exact h
  · exact h.drew
theorem st_next (cx : Ctx P T E nt) (t0 d it m mv n : Nat) (B M : Blk) (seen : List Nat) (rows : List (List AV)) (ks kb : List Nat) {σ0 : St} {σ1 : Nat → St} (hn : n = rows.length)
    (k0 : (∀ j, j < rows.length → j ∈ seen) → Q .normal σ0) (k1 : ∀ j, j < rows.length → j ∉ seen → Q .normal (σ1 j))
    (h : nextOf c = some (t0, d)) (hdn : Nat.blt d nt = true) (hs : look σ.slots t0 = some (.own it B.ver)) (hB : look σ.hp it = some B) (hBk : B.k = .iter (.own m mv) n seen)
    (hM : look σ.hp m = some M) (hMk : M.k = .map rows) (hMv : M.ver = mv)
    (h0 : nextR P T nt c (nextSt σ d it B (.own m mv) n seen none) ks kb = some σ0) (h1 : ∀ j, nextR P T nt c (nextSt σ d it B (.own m mv) n seen (some j)) ks kb = some (σ1 j)) : AWP P E c Q σ := by
  intro a w hr
  cases c with
  | region i ops dr =>
    cases dr with
    | true => simp [nextOf] at h
    | false =>
      simp only [nextOf] at h
      cases hl : ops.toList with
      | nil => rw [hl] at h; cases h
      | cons o l =>
        rw [hl] at h
        simp only at h
        split at h
        · rename_i t' d' ho hd hg
          simp only [Option.some.injEq, Prod.mk.injEq] at h
          obtain ⟨rfl, rfl⟩ := h
          have hops : ∀ j, (o :: l)[j]? = ops[j]? := fun j => by rw [← hl, Array.getElem?_toList]
          have hlen : ops.size = l.length + 1 := by rw [← Array.length_toList, hl]; rfl
          refine wp_region ?_
          rw [hlen, List.range_eq_range', List.range'_succ, wpOps_cons]
          have h0' : ops[0]? = some o := by rw [← hops]; rfl
          unfold wpOp
          rw [h0']
          simp only
          have hw : Region.wanted o (yielded ops a.tmps) = true := by unfold Region.wanted; rw [hg]
          rw [hw]
          simp only [if_true]
          -- the rest
          have tail : ∀ (σ' σ2 : St), nextR P T nt (.region i ops false) σ' ks kb = some σ2 → Q .normal σ2 → ∀ a' w', Rel E σ' a' w' → wpOps P ops (fun e a' w' => ∃ σ', Q e σ' ∧ Rel E σ' a' w') (List.range' 1 l.length) a' w' := by
            intro σ' σ2 hR hQ a' w' hrel
            unfold nextR at hR
            have e1 : (cO (.region i ops false)) = ops := rfl
            rw [e1, hl] at hR
            simp only [List.drop_succ_cons, List.drop_zero] at hR
            split at hR
            · rename_i rs hrun
              simp only [Option.some.injEq] at hR
              subst hR
              refine wpOps_run (P := P) (E := E) (ovs := []) cx.hT l 1 σ' rs [] (fun j => by rw [← hops, Nat.add_comm 1 j, List.getElem?_cons_succ]) (by rw [cx.hnt]; exact hrun) (fun p hp => by cases hp) (fun a'' w'' h'' => ⟨_, hQ, h''.norm [] ks kb⟩) a' w' hrel
            · cases hR
          obtain ⟨pl, hx⟩ := hr
          have hBl : B.live = true := by simp [Blk.live, hBk]
          have hMl : M.live = true := by simp [Blk.live, hMk]
          have he := relv_own (hx.ev (x := .tmp t') hs) hB rfl hBl
          have hb := hx.blks it B hB
          unfold BlkRel at hb
          rw [hBk] at hb
          obtain ⟨gi, r, i1, i0, i2, i3⟩ := hb
          have hm := relv_own i3 hM hMv hMl
          obtain ⟨g, es, e1, e0, e2, e3, e4⟩ := hx.mapAt hM hMk
          rw [e1] at hm
          simp only [Value.map.injEq, Option.some.injEq] at hm
          subst hm
          rw [i1] at he
          have hborn : ∀ (i : Nat) (x : MapEntry), es[i]? = some x → x.born = i ∧ i < rows.length := fun i x hx => by
            have hi' : i < rows.length := by rw [← e3]; exact (Array.getElem?_eq_some_iff.1 hx).1
            obtain ⟨_, _, e', _, p2, p3, _⟩ := e4 i rows[i] (List.getElem?_eq_getElem hi')
            rw [hx] at p2
            cases p2
            exact ⟨p3, hi'⟩
          have hdq : ∀ q, o.dst = some q → q < E.nt := fun q hq => by
            rw [hd] at hq
            cases hq
            rw [cx.hnt]
            simpa using hdn
          have hnx := run_next_at (P := P) w o.type gi r n n seen.toArray es rows.length i2 e2 (fun x hx => by
            obtain ⟨i, hi, rfl⟩ := List.mem_iff_getElem.1 hx
            have hi' : i < es.size := by simpa using hi
            have := hborn i es[i] (Array.getElem?_eq_getElem hi')
            have e0 : es.toList[i] = es[i] := rfl
            rw [e0]
            omega) (Nat.le_refl _)
          rcases hnx with ⟨q0, hrun⟩ | ⟨e, he', w1, hal, hrun⟩
          · have hall : ∀ j, j < rows.length → j ∈ seen := fun j hj => by
              obtain ⟨_, _, e, _, p2, p3, _⟩ := e4 j rows[j] (List.getElem?_eq_getElem hj)
              have := all_seen es seen.toArray q0 e (by simpa using Array.mem_of_getElem? p2)
              rw [p3] at this
              simpa using this
            have hop : (execOp a.eval o).run P w = .ok (.value (.tuple #[.bool false])) w := by simp [execOp, ho, he, hrun]
            refine .inl <| (Ok.value (σ' := nextSt σ d' it B (.own m mv) n seen none) hop ⟨pl, ?_⟩) _ _ fun a' w' h' => tail _ _ h0 (k0 hall) a' w' h'
            have := hx.put (some d') (fun q hq => hdq q (by rw [hd]; exact hq)) (av := .tup [.b false]) (v := .tuple #[.bool false]) (.pure _ _ (.tup [_] [_] rfl fun j c u hc hu => by
              match j with
              | 0 => simp at hc hu; subst hc hu; exact .b _
              | j + 1 => simp at hc))
            rw [hd]
            exact this
          · obtain ⟨hem, hes⟩ := mem_left he'
            obtain ⟨j, hj, hje⟩ := List.mem_iff_getElem.1 hem
            have hje' : es[j]? = some e := by rw [← hje]; simpa using Array.getElem?_eq_getElem (by simpa using hj)
            obtain ⟨b1, b2⟩ := hborn j e hje'
            have hns : j ∉ seen := by rw [b1] at hes; simpa using hes
            have hop : (execOp a.eval o).run P w = .ok (.value (.tuple #[.bool true, e.key, e.val])) (setB w1 gi (.mapIter (some r) n (seen.toArray.push e.born) n)) := by
              simp [execOp, ho, he, hrun, hn]
              rfl
            have hx1 : RelX E σ pl a w1 ∧ w1.heap = w.heap := by
              rcases hal with rfl | rfl
              · exact ⟨hx, rfl⟩
              · exact ⟨(hx.grow (w' := w.drew) ⟨rfl, rfl, rfl, Nat.le_refl _, fun _ _ => rfl⟩).1, rfl⟩
            obtain ⟨hx1, hh1⟩ := hx1
            have i2' : w1.heap[gi]? = some (.mapIter (some r) n seen.toArray n) := by rw [hh1]; exact i2
            have hblk : blkOf (pl it) = some gi := by rw [i1]; rfl
            have hb1 := hx1.blks it B hB
            unfold BlkRel at hb1
            rw [hBk] at hb1
            obtain ⟨gi', r', j1, _, j2, j3⟩ := hb1
            have egi : gi' = gi := by rw [i1] at j1; simpa using j1.symm
            subst egi
            rw [i2'] at j2
            simp only [Option.some.injEq, Obj.mapIter.injEq] at j2
            obtain ⟨rfl, _⟩ := j2
            have hS : ∀ k, SS E (look σ.hp) pl w1 k → (setB w1 gi' (.mapIter (some r) n (seen.toArray.push e.born) n)).heap[k]? = w1.heap[k]? := fun k hk => by
              rw [setB_other]
              intro e
              subst e
              rcases hk with hk | ⟨_, _, h3⟩
              · have := E.hS0 _ hk
                omega
              · exact h3 it B hB hBl hblk
            have hz := (hx1.chg (w' := setB w1 gi' (.mapIter (some r) n (seen.toArray.push e.born) n)) it { B with k := .iter (.own m mv) n (seen ++ [j]) } (pl it)
              (.inr ⟨B, hB, hBl, rfl, by funext r c; simp [Blk.off, hBk], rfl, by simp [Blk.len, hBk]⟩)
              (fun k hk' hne => by rw [setB_other]; intro e; subst e; exact hne B hB hBl hblk) rfl rfl rfl (by simp [setB]) (fun k hk' => .inr ⟨B, hB, hBl, hk'⟩)
              ⟨gi', r, i1, i0, by rw [setB_same i2', b1]; simp, j3.mono (HExt.refl _ _) (fun _ hk => by
                rcases hk with hk | ⟨q1, q2, q3⟩
                · exact .inl hk
                · exact .inr ⟨q1, q2, q3⟩) hS⟩).1
            have epl : setPl pl it (pl it) = pl := by funext i; unfold setPl; split <;> simp_all
            rw [epl] at hz
            refine .inl <| (Ok.value (σ' := nextSt σ d' it B (.own m mv) n seen (some j)) hop ⟨pl, ?_⟩) _ _ fun a' w' h' => tail _ _ (h1 j) (k1 j b2 hns) a' w' h'
            have := hz.put (some d') (fun q hq => hdq q (by rw [hd]; exact hq)) (av := .tup [.b true, .dead, .dead]) (v := .tuple #[.bool true, e.key, e.val]) (.pure _ _ (.tup [_, _, _] [_, _, _] rfl fun j c u hc hu => by
              match j with
              | 0 => simp at hc hu; subst hc hu; exact .b _
              | 1 => simp at hc hu; subst hc hu; exact .dead _
              | 2 => simp at hc hu; subst hc hu; exact .dead _
              | j + 3 => simp at hc))
            rw [hd]
            exact this
        · cases h
  | _ => simp [nextOf] at h
end
end Go.E
