/- EO: '==' of two structs or arrays of ints, bools and strings, in one step. Conditions: the type is 'flatT', the cells are of it. -/
import Derived.Test.YtjngmlkaijpbgaaEM
import Derived.ChangeKeysEq
set_option linter.unusedVariables false
set_option linter.unusedSimpArgs false
namespace Go.E
open Go.RowKit

/-- Types whose cells are ints, bools and strings; the names of the fields looked at. -/
def flatT (P : Program) (T : Tab) : Nat → Nat → Bool
  | 0, _ => false
  | n + 1, t => match look T t with
    | some ti => (match ti.desc with
      | .bool => ti.size == 1
      | .int _ => ti.size == 1
      | .string => ti.size == 1
      | .struct fs => contig T 0 fs.toList == some ti.size && (fs.toList.all fun f => f.name != "_" && flatT P T n f.type) && !P.stoodInHeld t
      | .array k e => k * sizeT T e == ti.size && flatT P T n e
      | _ => false)
    | none => false
/-- Cells of such a type. -/
def FlC (T : Tab) : Nat → Nat → List AV → Prop
  | 0, _, _ => False
  | n + 1, t, cs => match look T t with
    | some ti => (match ti.desc with
      | .bool => ∃ b, cs = [.b b]
      | .int k => ∃ x, cs = [.i k x]
      | .string => ∃ s, cs = [.s s]
      | .struct fs => TyFs (FlC T n) fs.toList cs
      | .array k e => ∃ rows : List (List AV), cs = rows.flatten ∧ rows.length = k ∧ ∀ r ∈ rows, FlC T n e r
      | _ => False)
    | none => False
def aggT (T : Tab) (t : Nat) : Bool := ((look T t).map TI.isAgg).getD false
def valT (T : Tab) (t : Nat) (cs : List AV) : Value := if aggT T t then .agg (cs.map valA).toArray else valA (cs.headD .dead)

theorem flen_fields {T : Tab} {C : Nat → List AV → Prop} : ∀ (fs : List Field) (off m : Nat) (cs : List AV), contig T off fs = some m → (∀ f ∈ fs, ∀ a, C f.type a → a.length = sizeT T f.type) → TyFs C fs cs → off + cs.length = m
  | [], off, m, cs, hc, _, h => by
    simp only [contig, Option.some.injEq] at hc
    simp only [TyFs] at h
    subst h
    simpa using hc
  | f :: fs, off, m, cs, hc, hl, h => by
    simp only [contig] at hc
    split at hc
    · obtain ⟨a, b, rfl, ha, hb⟩ := h
      have := flen_fields fs _ m b hc (fun g hg => hl g (List.mem_cons_of_mem _ hg)) hb
      have := hl f (by simp) a ha
      simp only [List.length_append]
      omega
    · cases hc
theorem flen_rows {n : Nat} : ∀ (rows : List (List AV)), (∀ r ∈ rows, r.length = n) → rows.flatten.length = rows.length * n
  | [], _ => by simp
  | r :: rows, h => by
    have := flen_rows rows fun q hq => h q (List.mem_cons_of_mem _ hq)
    simp only [List.flatten_cons, List.length_append, List.length_cons, this, h r (by simp), Nat.add_mul, Nat.one_mul]
    omega
theorem flat_len {P : Program} {T : Tab} : ∀ (n t : Nat) (cs : List AV), flatT P T n t = true → FlC T n t cs → cs.length = sizeT T t
  | 0, t, cs, h, _ => by simp [flatT] at h
  | n + 1, t, cs, h, hc => by
    unfold flatT at h
    unfold FlC at hc
    unfold sizeT
    cases hl : look T t with
    | none => rw [hl] at h; simp at h
    | some ti =>
      rw [hl] at h hc
      simp only [Option.map_some, Option.getD_some] at h hc ⊢
      cases hd : ti.desc with
      | bool => rw [hd] at h hc; obtain ⟨b, rfl⟩ := hc; simp at h; simp [h]
      | int k => rw [hd] at h hc; obtain ⟨b, rfl⟩ := hc; simp at h; simp [h]
      | string => rw [hd] at h hc; obtain ⟨b, rfl⟩ := hc; simp at h; simp [h]
      | struct fs =>
        rw [hd] at h hc
        simp only [Bool.and_eq_true, beq_iff_eq, List.all_eq_true] at h
        have := flen_fields fs.toList 0 _ cs h.1.1 (fun f hf a ha => flat_len n f.type a (h.1.2 f hf).2 ha) hc
        omega
      | array k e =>
        rw [hd] at h hc
        simp only [Bool.and_eq_true, beq_iff_eq] at h
        obtain ⟨rows, rfl, hk, hr⟩ := hc
        rw [flen_rows rows fun r hr' => flat_len n e r h.2 (hr r hr'), hk, h.1]
      | _ => rw [hd] at h; simp at h

section
variable {P : Program} {T : Tab}

theorem flat_lookT {n t : Nat} (h : flatT P T n t = true) : ∃ ti, look T t = some ti := by
  cases n with
  | zero => simp [flatT] at h
  | succ n =>
    unfold flatT at h
    cases hl : look T t with
    | none => rw [hl] at h; simp at h
    | some ti => exact ⟨ti, rfl⟩
theorem extract_mid (A cs B : List AV) : (((A ++ cs ++ B).map valA).toArray.extract A.length (A.length + cs.length)) = (cs.map valA).toArray := by
  apply Array.ext'
  rw [Array.toList_extract]
  simp [List.extract, List.map_append]
theorem part_ok (hT : TabOk P T) {n t : Nat} (hf : flatT P T n t = true) (A cs B : List AV) (hc : FlC T n t cs) (w : World) : (part t ((A ++ cs ++ B).map valA).toArray A.length).run P w = .ok (valT T t cs) w := by
  have hlen := flat_len n t cs hf hc
  cases n with
  | zero => simp [flatT] at hf
  | succ n =>
    obtain ⟨ti, hl⟩ := flat_lookT hf
    have hu := (hT t ti hl).1
    have hsz := cellsOf_sizeT hT hl
    obtain ⟨i, hi⟩ := info_of_underlying hu
    unfold flatT at hf
    unfold FlC at hc
    rw [hl] at hf hc
    simp only at hf hc
    have hg : aggT T t = ti.isAgg := by simp [aggT, hl]
    have one : ∀ a, cs = [a] → ((A ++ cs ++ B).map valA).toArray[A.length]? = some (valA a) := by
      intro a e; subst e; simp
    cases hd : ti.desc with
    | bool =>
      rw [hd] at hu hc; obtain ⟨b, hb⟩ := hc
      have := one _ hb
      subst hb
      simp only [part, isAgg, Sem.run_bind, run_underlying hu, Result.andThen_ok, this]
      simp [valT, hg, TI.isAgg, hd]
    | int k =>
      rw [hd] at hu hc; obtain ⟨b, hb⟩ := hc
      have := one _ hb
      subst hb
      simp only [part, isAgg, Sem.run_bind, run_underlying hu, Result.andThen_ok, this]
      simp [valT, hg, TI.isAgg, hd]
    | string =>
      rw [hd] at hu hc; obtain ⟨b, hb⟩ := hc
      have := one _ hb
      subst hb
      simp only [part, isAgg, Sem.run_bind, run_underlying hu, Result.andThen_ok, this]
      simp [valT, hg, TI.isAgg, hd]
    | struct fs =>
      rw [hd] at hu
      simp only [part, isAgg, Sem.run_bind, run_underlying hu, Result.andThen_ok, run_sizeOf w hi, hsz, ← hlen, extract_mid]
      simp [valT, hg, TI.isAgg, hd, run_sizeOf w hi, hsz, ← hlen]
    | array k e =>
      rw [hd] at hu
      simp only [part, isAgg, Sem.run_bind, run_underlying hu, Result.andThen_ok, run_sizeOf w hi, hsz, ← hlen, extract_mid]
      simp [valT, hg, TI.isAgg, hd, run_sizeOf w hi, hsz, ← hlen]
    | _ => rw [hd] at hf; simp at hf

def EqT (P : Program) (T : Tab) (d n t : Nat) : Prop := ∀ (cs ds : List AV), FlC T n t cs → FlC T n t ds → ∀ w, ∃ r : Bool, (Op.equalIn d t (valT T t cs) (valT T t ds)).run P w = .ok r w ∧ (r = true ↔ cs = ds)

theorem app_iff {a b c d : List AV} (h : a.length = c.length) : a ++ b = c ++ d ↔ a = c ∧ b = d :=
  ⟨fun e => List.append_inj e h, fun ⟨e1, e2⟩ => by rw [e1, e2]⟩

theorem eq_fields (hT : TabOk P T) {d n : Nat} (w : World) : ∀ (fs : List Field) (A A' cs ds : List AV) (m : Nat), contig T A.length fs = some m → A.length = A'.length →
    (∀ f ∈ fs, f.name ≠ "_" ∧ flatT P T n f.type = true ∧ EqT P T d n f.type) → TyFs (FlC T n) fs cs → TyFs (FlC T n) fs ds →
    ∃ r : Bool, (Op.eqFields d ((A ++ cs).map valA).toArray ((A' ++ ds).map valA).toArray fs).run P w = .ok r w ∧ (r = true ↔ cs = ds)
  | [], A, A', cs, ds, m, _, _, _, h1, h2 => by
    simp only [TyFs] at h1 h2
    subst h1 h2
    exact ⟨true, by simp [Op.eqFields], by simp⟩
  | f :: fs, A, A', cs, ds, m, hc, hA, hall, h1, h2 => by
    simp only [contig] at hc
    split at hc
    · rename_i hoff
      have hoff : f.offset = A.length := by simpa using hoff
      obtain ⟨a, b, rfl, ha, hb⟩ := h1
      obtain ⟨a', b', rfl, ha', hb'⟩ := h2
      obtain ⟨hn, hf, hE⟩ := hall f (by simp)
      have la := flat_len n f.type a hf ha
      have la' := flat_len n f.type a' hf ha'
      have p1 := part_ok hT hf A a b ha w
      have p2 := part_ok hT hf A' a' b' ha' w
      rw [← hA] at p2
      obtain ⟨r, hr, hiff⟩ := hE a a' ha ha' w
      obtain ⟨r', hr', hiff'⟩ := eq_fields hT w fs (A ++ a) (A' ++ a') b b' m (by rw [List.length_append, la]; exact hc) (by simp [hA, la, la']) (fun g hg => hall g (List.mem_cons_of_mem _ hg)) hb hb'
      rw [List.append_assoc] at hr' p1 p2
      rw [List.append_assoc] at hr'
      simp only [Op.eqFields, hn, ne_eq, not_false_eq_true, if_true, Sem.run_bind, hoff, p1, p2, hr, Result.andThen_ok, app_iff (la.trans la'.symm)]
      cases r
      · exact ⟨false, by simp, by simp; intro e; exact absurd (hiff.2 e) (by simp)⟩
      · refine ⟨r', by simpa using hr', ?_⟩
        rw [hiff']
        simp [hiff.1 rfl]
    · cases hc
theorem eq_items (hT : TabOk P T) {d n e : Nat} (w : World) (hf : flatT P T n e = true) (hE : EqT P T d n e) : ∀ (rows rows' A A' : List (List AV)), rows.length = rows'.length → A.length = A'.length →
    (∀ r ∈ rows, FlC T n e r) → (∀ r ∈ rows', FlC T n e r) → (∀ r ∈ A, FlC T n e r) → (∀ r ∈ A', FlC T n e r) →
    ∃ r : Bool, (Op.eqItems d e (P.cellsOf e) (((A ++ rows).flatten).map valA).toArray (((A' ++ rows').flatten).map valA).toArray (List.range' A.length rows.length)).run P w = .ok r w ∧ (r = true ↔ rows.flatten = rows'.flatten)
  | [], [], A, A', _, _, _, _, _, _ => ⟨true, by simp [Op.eqItems], by simp⟩
  | [], _ :: _, _, _, h, _, _, _, _, _ => by simp at h
  | _ :: _, [], _, _, h, _, _, _, _, _ => by simp at h
  | a :: rows, a' :: rows', A, A', hl, hA, h1, h2, h3, h4 => by
    obtain ⟨ti, hlook⟩ := flat_lookT hf
    have hsz := cellsOf_sizeT hT hlook
    have ha := h1 a (by simp)
    have ha' := h2 a' (by simp)
    have la := flat_len n e a hf ha
    have la' := flat_len n e a' hf ha'
    have lA := flen_rows A fun r hr => flat_len n e r hf (h3 r hr)
    have lA' := flen_rows A' fun r hr => flat_len n e r hf (h4 r hr)
    have p1 := part_ok hT hf A.flatten a rows.flatten ha w
    have p2 := part_ok hT hf A'.flatten a' rows'.flatten ha' w
    rw [lA] at p1
    rw [lA', ← hA] at p2
    obtain ⟨r, hr, hiff⟩ := hE a a' ha ha' w
    obtain ⟨r', hr', hiff'⟩ := eq_items hT w hf hE rows rows' (A ++ [a]) (A' ++ [a']) (by simpa using hl) (by simp [hA]) (fun q hq => h1 q (List.mem_cons_of_mem _ hq)) (fun q hq => h2 q (List.mem_cons_of_mem _ hq))
      (fun q hq => by rcases List.mem_append.1 hq with hq | hq; exact h3 q hq; rw [List.mem_singleton.1 hq]; exact ha) (fun q hq => by rcases List.mem_append.1 hq with hq | hq; exact h4 q hq; rw [List.mem_singleton.1 hq]; exact ha')
    have e1 : (A ++ a :: rows).flatten = A.flatten ++ a ++ rows.flatten := by simp
    have e2 : (A' ++ a' :: rows').flatten = A'.flatten ++ a' ++ rows'.flatten := by simp
    have e3 : (A ++ [a] ++ rows).flatten = A.flatten ++ a ++ rows.flatten := by simp
    have e4 : (A' ++ [a'] ++ rows').flatten = A'.flatten ++ a' ++ rows'.flatten := by simp
    have e5 : (A ++ [a]).length = A.length + 1 := by simp
    rw [e3, e4, e5] at hr'
    rw [e1, e2, List.length_cons, List.range'_succ, hsz]
    rw [hsz] at hr'
    simp only [Op.eqItems, Sem.run_bind, p1, p2, hr, Result.andThen_ok, List.flatten_cons, app_iff (la.trans la'.symm)]
    cases r
    · exact ⟨false, by simp, by simp; intro e; exact absurd (hiff.2 e) (by simp)⟩
    · refine ⟨r', by simpa using hr', ?_⟩
      rw [hiff']
      simp [hiff.1 rfl]
theorem eq_flat (hT : TabOk P T) : ∀ (n d t : Nat), flatT P T n t = true → EqT P T (d + n) n t
  | 0, d, t, h => by simp [flatT] at h
  | n + 1, d, t, h => by
    intro cs ds hc hd w
    obtain ⟨ti, hl⟩ := flat_lookT h
    have hu := (hT t ti hl).1
    unfold flatT at h
    unfold FlC at hc hd
    rw [hl] at h hc hd
    simp only at h hc hd
    have hg : aggT T t = ti.isAgg := by simp [aggT, hl]
    cases hdc : ti.desc with
    | bool =>
      rw [hdc] at hu hc hd
      obtain ⟨x, rfl⟩ := hc
      obtain ⟨y, rfl⟩ := hd
      refine ⟨x == y, ?_, by simp⟩
      simp only [valT, hg, TI.isAgg, hdc, Bool.false_eq_true, if_false, List.headD_cons, valA]
      exact run_equalIn_bool' w (d + n) t x y hu
    | int k =>
      rw [hdc] at hu hc hd
      obtain ⟨x, rfl⟩ := hc
      obtain ⟨y, rfl⟩ := hd
      refine ⟨x == y, ?_, by simp⟩
      simp only [valT, hg, TI.isAgg, hdc, Bool.false_eq_true, if_false, List.headD_cons, valA]
      exact run_equalIn_int w (d + n) t k k x y hu
    | string =>
      rw [hdc] at hu hc hd
      obtain ⟨x, rfl⟩ := hc
      obtain ⟨y, rfl⟩ := hd
      refine ⟨x.toList == y.toList, ?_, ?_⟩
      rotate_left
      · rw [beq_iff_eq]
        constructor
        · intro e
          rw [ByteArray.toList_eq, ByteArray.toList_eq] at e
          have : x = y := ByteArray.ext (Array.ext' e)
          rw [this]
        · intro e
          simp only [List.cons.injEq, AV.s.injEq, and_true] at e
          rw [e]
      simp only [valT, hg, TI.isAgg, hdc, Bool.false_eq_true, if_false, List.headD_cons, valA]
      exact run_equalIn_string w (d + n) t x y hu
    | struct fs =>
      rw [hdc] at hu hc hd h
      simp only [Bool.and_eq_true, beq_iff_eq, List.all_eq_true, bne_iff_ne, ne_eq, Bool.not_eq_true'] at h
      have hfs : P.fieldsOf t = fs := by simp [Program.fieldsOf, hu]
      have := eq_fields hT (d := d + n) (n := n) w fs.toList [] [] cs ds ti.size h.1.1 rfl (fun f hf => ⟨(h.1.2 f hf).1, (h.1.2 f hf).2, eq_flat hT n d f.type (h.1.2 f hf).2⟩) hc hd
      obtain ⟨r, hr, hiff⟩ := this
      refine ⟨r, ?_, hiff⟩
      simp only [valT, hg, TI.isAgg, hdc, if_true]
      rw [show d + (n + 1) = (d + n) + 1 from rfl, run_equalIn_struct w (d + n) t _ _ (by rw [hfs]; exact hu) h.2, hfs]
      exact hr
    | array k e =>
      rw [hdc] at hu hc hd h
      simp only [Bool.and_eq_true, beq_iff_eq] at h
      obtain ⟨rows, rfl, hk, hr⟩ := hc
      obtain ⟨rows', rfl, hk', hr'⟩ := hd
      obtain ⟨te, hle⟩ := flat_lookT h.2
      obtain ⟨i, hi⟩ := info_of_underlying (hT e te hle).1
      obtain ⟨r, hrun, hiff⟩ := eq_items hT (d := d + n) w h.2 (eq_flat hT n d e h.2) rows rows' [] [] (by omega) rfl hr hr' (fun r hr => by simp at hr) (fun r hr => by simp at hr)
      refine ⟨r, ?_, hiff⟩
      simp only [valT, hg, TI.isAgg, hdc, if_true]
      rw [show d + (n + 1) = (d + n) + 1 from rfl, run_equalIn_array w (d + n) _ _ hu hi, List.range_eq_range', ← hk]
      exact hrun
    | _ => rw [hdc] at h; simp at h

theorem flat_vals {n : Nat} (hT : TabOk P T) : ∀ (n t : Nat) (cs : List AV), flatT P T n t = true → FlC T n t cs → ∀ a ∈ cs, ∃ v, toV a = some v ∧ v = valA a
  | 0, t, cs, h, _ => by simp [flatT] at h
  | n + 1, t, cs, h, hc => by
    obtain ⟨ti, hl⟩ := flat_lookT h
    unfold flatT at h
    unfold FlC at hc
    rw [hl] at h hc
    simp only at h hc
    intro a ha
    cases hd : ti.desc with
    | bool => rw [hd] at hc; obtain ⟨x, rfl⟩ := hc; rw [List.mem_singleton.1 ha]; exact ⟨_, rfl, rfl⟩
    | int k => rw [hd] at hc; obtain ⟨x, rfl⟩ := hc; rw [List.mem_singleton.1 ha]; exact ⟨_, rfl, rfl⟩
    | string => rw [hd] at hc; obtain ⟨x, rfl⟩ := hc; rw [List.mem_singleton.1 ha]; exact ⟨_, rfl, rfl⟩
    | struct fs =>
      rw [hd] at hc h
      simp only [Bool.and_eq_true, beq_iff_eq, List.all_eq_true] at h
      have key : ∀ (fs : List Field) (cs : List AV), (∀ f ∈ fs, flatT P T n f.type = true) → TyFs (FlC T n) fs cs → ∀ a ∈ cs, ∃ v, toV a = some v ∧ v = valA a := by
        intro fs
        induction fs with
        | nil => intro cs _ h1 a ha; simp only [TyFs] at h1; subst h1; simp at ha
        | cons f fs ih =>
          intro cs h0 h1 a ha
          obtain ⟨x, y, rfl, hx, hy⟩ := h1
          rcases List.mem_append.1 ha with ha | ha
          · exact flat_vals (n := n) hT n f.type x (h0 f (by simp)) hx a ha
          · exact ih y (fun g hg => h0 g (List.mem_cons_of_mem _ hg)) hy a ha
      exact key fs.toList cs (fun f hf => (h.1.2 f hf).2) hc a ha
    | array k e =>
      rw [hd] at hc h
      simp only [Bool.and_eq_true] at h
      obtain ⟨rows, rfl, _, hr⟩ := hc
      obtain ⟨r, hr', ha'⟩ := List.mem_flatten.1 ha
      exact flat_vals (n := n) hT n e r h.2 (hr r hr') a ha'
    | _ => rw [hd] at h; simp at h
theorem flat_value (hT : TabOk P T) {n t : Nat} {cs : List AV} (h : flatT P T n t = true) (hc : FlC T n t cs) {S : Nat → Prop} {w : World} {v : Value} (hv : RelV0 S w (.agg cs) v) : v = .agg (cs.map valA).toArray := by
  cases hv with
  | agg _ vs hl h1 hr =>
    congr 2
    apply List.ext_getElem (by simpa using hl)
    intro j j1 j2
    have hj : j < cs.length := by omega
    have hrel := hr j _ _ (List.getElem?_eq_getElem hj) (List.getElem?_eq_getElem j1)
    obtain ⟨u, hu, he⟩ := flat_vals (n := n) hT n t cs h hc cs[j] (List.getElem_mem hj)
    rw [List.getElem_map]
    generalize cs[j] = q at hrel hu
    generalize vs[j] = y at hrel
    cases q with
    | b x => cases hrel; rfl
    | i k x => cases hrel; rfl
    | s x => cases hrel; rfl
    | _ => simp [toV] at hu

/-- '==' of two structs or arrays. -/
theorem aggEq_of (hT : TabOk P T) {n t : Nat} (hn : n ≤ 10000) (h : (flatT P T n t && aggT T t && !(P.eqGuardType P.depth t)) = true) {cs ds : List AV} (hc : FlC T n t cs) (hd : FlC T n t ds) {z : Bool} (hz : z = true ↔ cs = ds) : AggEq P t cs ds z := by
  simp only [Bool.and_eq_true, Bool.not_eq_true'] at h
  obtain ⟨⟨h1, h2⟩, h3⟩ := h
  intro S w v u hv hu
  rw [flat_value hT h1 hc hv, flat_value hT h1 hd hu]
  obtain ⟨r, hr, hiff⟩ := eq_flat hT n (10000 - n) t h1 cs ds hc hd w
  rw [show 10000 - n + n = 10000 by omega] at hr
  simp only [valT, h2, if_true] at hr
  rw [Sem.run_bind, run_eqGuard_agg w .eql t (.tmp 0) (.tmp 0) _ _ h3, Result.andThen_ok, run_eql_struct, hr, Result.andThen_ok]
  have : r = z := by
    cases r <;> cases z <;> simp_all
  rw [this]
end

theorem aggEq_true {P : Program} {t : Nat} {cs ds : List AV} {p : Prop} [Decidable p] (h : AggEq P t cs ds (decide p)) (hp : p) : AggEq P t cs ds true := by rw [decide_eq_true hp] at h; exact h
theorem aggEq_false {P : Program} {t : Nat} {cs ds : List AV} {p : Prop} [Decidable p] (h : AggEq P t cs ds (decide p)) (hp : ¬p) : AggEq P t cs ds false := by rw [decide_eq_false hp] at h; exact h
theorem aggNe_dec {P : Program} {t : Nat} {cs ds : List AV} {p : Prop} [Decidable p] (h : AggEq P t cs ds (decide p)) : AggEq P t cs ds (!decide (¬p)) := by
  have : (!decide (¬p)) = decide p := by by_cases hp : p <;> simp [hp]
  rw [this]; exact h
/-- Cells by one's own encoding. -/
theorem flc_cA {T : Tab} {n t e k : Nat} {ti te : TI} {kd : IntKind} (hl : look T t = some ti) (hd : ti.desc = .array k e) (hle : look T e = some te) (hde : te.desc = .int kd) (v : Vector Int k) : FlC T (n + 2) t (cA (AV.i kd) v) := by
  unfold FlC
  rw [hl]
  simp only [hd]
  refine ⟨v.toList.map fun x => [AV.i kd x], ?_, by simp, fun r hr => ?_⟩
  · simp only [cA]
    generalize v.toList = l
    induction l with
    | nil => rfl
    | cons x l ih => simp [ih]
  · obtain ⟨x, _, rfl⟩ := List.mem_map.1 hr
    unfold FlC
    rw [hle]
    simp only [hde]
    exact ⟨x, rfl⟩
theorem cA_inj {n : Nat} {k : IntKind} {v w : Vector Int n} : cA (AV.i k) v = cA (AV.i k) w ↔ v = w := by
  refine ⟨fun h => ?_, fun h => by rw [h]⟩
  have h' : v.toList = w.toList := by
    have key : ∀ (a b : List Int), a.map (AV.i k) = b.map (AV.i k) → a = b := by
      intro a
      induction a with
      | nil => intro b hb; cases b <;> simp_all
      | cons x a ih => intro b hb; cases b with
        | nil => simp at hb
        | cons y b => simp only [List.map_cons, List.cons.injEq, AV.i.injEq, true_and] at hb; rw [hb.1, ih b hb.2]
    exact key _ _ h
  exact Vector.toList_inj.1 h'
end Go.E
