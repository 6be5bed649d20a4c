/- EO: '==' of two structs or arrays of ints, bools and strings, in one step. Conditions: the type is 'flatT', the cells are of it. Ba: the values of the Go types, and some words on lists. Conditions: none. ES: the stable sort's pieces in plain words: rows turned round, runs swapped, two sorted runs merged by turning. Conditions: 'lt' a strict weak order. ET1: the worlds that a sort passes through: the row laid, new blocks behind, some draws on. Conditions: none. ET2: a row of one's own that has been put into another order: what the world keeps, what the row holds. Conditions: none. Pa: slices.SortFunc at runs: a row of one's own is put into the order of the beginnings. Conditions: each run begins between 1 and 1000000000. Pb: span: clip, and add (a row of the caller's own, handed back). Conditions: ends up to 1000000000; sizes. Pc: span: Union and Norm. Conditions: sizes. EV: slices.Clone at any element type: it hands back a row of the caller's own. Conditions: how its body is laid; sizes. Pd: span: Norm, Lead, and the library's Clone at runs. Conditions: sizes. Pn: span: the canonical form in plain words. Conditions: none. Pe: past: what the sets come to. Conditions: sizes. Pf: past: dots, and the set of dots. Conditions: sizes. Pg: past: the sets that pasts mean. Conditions: sizes. Ph: past: Norm. Conditions: sizes. Pi: past: the library's Equal, IsNorm. Conditions: sizes. Pj: past: Has. Conditions: none. Rh: the past in plain words: what is in a set in form. Conditions: none. Pp: span: what is in both, what is in neither, in plain words. Conditions: none. Pq: the total order of contexts, in plain words. Conditions: none. -/
import Derived.ChangeKeysEq
import Derived.Sort.LotA
import Derived.Shelf.SlSortFuncK.RowK2
import Derived.Below
import Derived.WalkKit
import Derived.Shelf.SlSortCmp.NoneTotal
import Derived.Lib.Walk
import Derived.Shelf.SlLaysE0
import Derived.Shelf.RegionOpenPlain
import Derived.Deep.LoopGhost
import Derived.Lib.SliceRun
import Derived.Test.YtaiepnaokhpmcaaK2
set_option linter.unusedVariables false
set_option linter.unusedSimpArgs false
set_option linter.unusedSectionVars false
namespace Go.E
open Go.RowKit
/-- Types whose cells are ints, bools and strings; the names of the fields looked at. -/
def flatT (P : Program) (T : Tab) : Nat → Nat → Bool
  | 0, _ => false
  | n + 1, t => match look T t with
    | some ti => (match ti.desc with
      | .bool => ti.size == 1
      | .int _ => ti.size == 1
      | .string => ti.size == 1
      | .struct fs => contig T 0 fs.toList == some ti.size && (fs.toList.all fun f => f.name != "_" && flatT P T n f.type) && !P.stoodInHeld t
      | .array k e => k * sizeT T e == ti.size && flatT P T n e
      | _ => false)
    | none => false
/-- Cells of such a type. -/
def FlC (T : Tab) : Nat → Nat → List AV → Prop
  | 0, _, _ => False
  | n + 1, t, cs => match look T t with
    | some ti => (match ti.desc with
      | .bool => ∃ b, cs = [.b b]
      | .int k => ∃ x, cs = [.i k x]
      | .string => ∃ s, cs = [.s s]
      | .struct fs => TyFs (FlC T n) fs.toList cs
      | .array k e => ∃ rows : List (List AV), cs = rows.flatten ∧ rows.length = k ∧ ∀ r ∈ rows, FlC T n e r
      | _ => False)
    | none => False
def aggT (T : Tab) (t : Nat) : Bool := ((look T t).map TI.isAgg).getD false
def valT (T : Tab) (t : Nat) (cs : List AV) : Value := if aggT T t then .agg (cs.map valA).toArray else valA (cs.headD .dead)
theorem flen_fields {T : Tab} {C : Nat → List AV → Prop} : ∀ (fs : List Field) (off m : Nat) (cs : List AV), contig T off fs = some m → (∀ f ∈ fs, ∀ a, C f.type a → a.length = sizeT T f.type) → TyFs C fs cs → off + cs.length = m
  | [], off, m, cs, hc, _, h => by
    simp only [contig, Option.some.injEq] at hc
    simp only [TyFs] at h
    subst h
    simpa using hc
  | f :: fs, off, m, cs, hc, hl, h => by
    simp only [contig] at hc
    split at hc
    · obtain ⟨a, b, rfl, ha, hb⟩ := h
      have := flen_fields fs _ m b hc (fun g hg => hl g (List.mem_cons_of_mem _ hg)) hb
      have := hl f (by simp) a ha
      simp only [List.length_append]
      omega
    · cases hc
theorem flen_rows {n : Nat} : ∀ (rows : List (List AV)), (∀ r ∈ rows, r.length = n) → rows.flatten.length = rows.length * n
  | [], _ => by simp
  | r :: rows, h => by
    have := flen_rows rows fun q hq => h q (List.mem_cons_of_mem _ hq)
    simp only [List.flatten_cons, List.length_append, List.length_cons, this, h r (by simp), Nat.add_mul, Nat.one_mul]
    omega
theorem flat_len {P : Program} {T : Tab} : ∀ (n t : Nat) (cs : List AV), flatT P T n t = true → FlC T n t cs → cs.length = sizeT T t
  | 0, t, cs, h, _ => by simp [flatT] at h
  | n + 1, t, cs, h, hc => by
    unfold flatT at h
    unfold FlC at hc
    unfold sizeT
    cases hl : look T t with
    | none => rw [hl] at h; simp at h
    | some ti =>
      rw [hl] at h hc
      simp only [Option.map_some, Option.getD_some] at h hc ⊢
      cases hd : ti.desc with
      | bool => rw [hd] at h hc; obtain ⟨b, rfl⟩ := hc; simp at h; simp [h]
      | int k => rw [hd] at h hc; obtain ⟨b, rfl⟩ := hc; simp at h; simp [h]
      | string => rw [hd] at h hc; obtain ⟨b, rfl⟩ := hc; simp at h; simp [h]
      | struct fs =>
        rw [hd] at h hc
        simp only [Bool.and_eq_true, beq_iff_eq, List.all_eq_true] at h
        have := flen_fields fs.toList 0 _ cs h.1.1 (fun f hf a ha => flat_len n f.type a (h.1.2 f hf).2 ha) hc
        omega
      | array k e =>
        rw [hd] at h hc
        simp only [Bool.and_eq_true, beq_iff_eq] at h
        obtain ⟨rows, rfl, hk, hr⟩ := hc
        rw [flen_rows rows fun r hr' => flat_len n e r h.2 (hr r hr'), hk, h.1]
      | _ => rw [hd] at h; simp at h
section
variable {P : Program} {T : Tab}
theorem flat_lookT {n t : Nat} (h : flatT P T n t = true) : ∃ ti, look T t = some ti := by
  cases n with
  | zero => simp [flatT] at h
  | succ n =>
    unfold flatT at h
    cases hl : look T t with
    | none => rw [hl] at h; simp at h
    | some ti => exact ⟨ti, rfl⟩
theorem extract_mid (A cs B : List AV) : (((A ++ cs ++ B).map valA).toArray.extract A.length (A.length + cs.length)) = (cs.map valA).toArray := by
  apply Array.ext'
  rw [Array.toList_extract]
  simp [List.extract, List.map_append]
theorem part_ok (hT : TabOk P T) {n t : Nat} (hf : flatT P T n t = true) (A cs B : List AV) (hc : FlC T n t cs) (w : World) : (part t ((A ++ cs ++ B).map valA).toArray A.length).run P w = .ok (valT T t cs) w := by
  have hlen := flat_len n t cs hf hc
  cases n with
  | zero => simp [flatT] at hf
  | succ n =>
    obtain ⟨ti, hl⟩ := flat_lookT hf
    have hu := (hT t ti hl).1
    have hsz := cellsOf_sizeT hT hl
    obtain ⟨i, hi⟩ := info_of_underlying hu
    unfold flatT at hf
    unfold FlC at hc
    rw [hl] at hf hc
    simp only at hf hc
    have hg : aggT T t = ti.isAgg := by simp [aggT, hl]
    have one : ∀ a, cs = [a] → ((A ++ cs ++ B).map valA).toArray[A.length]? = some (valA a) := by
      intro a e; subst e; simp
    cases hd : ti.desc with
    | bool =>
      rw [hd] at hu hc; obtain ⟨b, hb⟩ := hc
      have := one _ hb
      subst hb
      simp only [part, isAgg, Sem.run_bind, run_underlying hu, Result.andThen_ok, this]
      simp [valT, hg, TI.isAgg, hd]
    | int k =>
      rw [hd] at hu hc; obtain ⟨b, hb⟩ := hc
      have := one _ hb
      subst hb
      simp only [part, isAgg, Sem.run_bind, run_underlying hu, Result.andThen_ok, this]
      simp [valT, hg, TI.isAgg, hd]
    | string =>
      rw [hd] at hu hc; obtain ⟨b, hb⟩ := hc
      have := one _ hb
      subst hb
      simp only [part, isAgg, Sem.run_bind, run_underlying hu, Result.andThen_ok, this]
      simp [valT, hg, TI.isAgg, hd]
    | struct fs =>
      rw [hd] at hu
      simp only [part, isAgg, Sem.run_bind, run_underlying hu, Result.andThen_ok, run_sizeOf w hi, hsz, ← hlen, extract_mid]
      simp [valT, hg, TI.isAgg, hd, run_sizeOf w hi, hsz, ← hlen]
    | array k e =>
      rw [hd] at hu
      simp only [part, isAgg, Sem.run_bind, run_underlying hu, Result.andThen_ok, run_sizeOf w hi, hsz, ← hlen, extract_mid]
      simp [valT, hg, TI.isAgg, hd, run_sizeOf w hi, hsz, ← hlen]
    | _ => rw [hd] at hf; simp at hf
def EqT (P : Program) (T : Tab) (d n t : Nat) : Prop := ∀ (cs ds : List AV), FlC T n t cs → FlC T n t ds → ∀ w, ∃ r : Bool, (Op.equalIn d t (valT T t cs) (valT T t ds)).run P w = .ok r w ∧ (r = true ↔ cs = ds)
theorem app_iff {a b c d : List AV} (h : a.length = c.length) : a ++ b = c ++ d ↔ a = c ∧ b = d :=
  ⟨fun e => List.append_inj e h, fun ⟨e1, e2⟩ => by rw [e1, e2]⟩
theorem eq_fields (hT : TabOk P T) {d n : Nat} (w : World) : ∀ (fs : List Field) (A A' cs ds : List AV) (m : Nat), contig T A.length fs = some m → A.length = A'.length →
    (∀ f ∈ fs, f.name ≠ "_" ∧ flatT P T n f.type = true ∧ EqT P T d n f.type) → TyFs (FlC T n) fs cs → TyFs (FlC T n) fs ds →
    ∃ r : Bool, (Op.eqFields d ((A ++ cs).map valA).toArray ((A' ++ ds).map valA).toArray fs).run P w = .ok r w ∧ (r = true ↔ cs = ds)
  | [], A, A', cs, ds, m, _, _, _, h1, h2 => by
    simp only [TyFs] at h1 h2
    subst h1 h2
    exact ⟨true, by simp [Op.eqFields], by simp⟩
  | f :: fs, A, A', cs, ds, m, hc, hA, hall, h1, h2 => by
    simp only [contig] at hc
    split at hc
    · rename_i hoff
      have hoff : f.offset = A.length := by simpa using hoff
      obtain ⟨a, b, rfl, ha, hb⟩ := h1
      obtain ⟨a', b', rfl, ha', hb'⟩ := h2
      obtain ⟨hn, hf, hE⟩ := hall f (by simp)
      have la := flat_len n f.type a hf ha
      have la' := flat_len n f.type a' hf ha'
      have p1 := part_ok hT hf A a b ha w
      have p2 := part_ok hT hf A' a' b' ha' w
      rw [← hA] at p2
      obtain ⟨r, hr, hiff⟩ := hE a a' ha ha' w
      obtain ⟨r', hr', hiff'⟩ := eq_fields hT w fs (A ++ a) (A' ++ a') b b' m (by rw [List.length_append, la]; exact hc) (by simp [hA, la, la']) (fun g hg => hall g (List.mem_cons_of_mem _ hg)) hb hb'
      rw [List.append_assoc] at hr' p1 p2
      rw [List.append_assoc] at hr'
      simp only [Op.eqFields, hn, ne_eq, not_false_eq_true, if_true, Sem.run_bind, hoff, p1, p2, hr, Result.andThen_ok, app_iff (la.trans la'.symm)]
      cases r
      · exact ⟨false, by simp, by simp; intro e; exact absurd (hiff.2 e) (by simp)⟩
      · refine ⟨r', by simpa using hr', ?_⟩
        rw [hiff']
        simp [hiff.1 rfl]
    · cases hc
theorem eq_items (hT : TabOk P T) {d n e : Nat} (w : World) (hf : flatT P T n e = true) (hE : EqT P T d n e) : ∀ (rows rows' A A' : List (List AV)), rows.length = rows'.length → A.length = A'.length →
    (∀ r ∈ rows, FlC T n e r) → (∀ r ∈ rows', FlC T n e r) → (∀ r ∈ A, FlC T n e r) → (∀ r ∈ A', FlC T n e r) →
    ∃ r : Bool, (Op.eqItems d e (P.cellsOf e) (((A ++ rows).flatten).map valA).toArray (((A' ++ rows').flatten).map valA).toArray (List.range' A.length rows.length)).run P w = .ok r w ∧ (r = true ↔ rows.flatten = rows'.flatten)
  | [], [], A, A', _, _, _, _, _, _ => ⟨true, by simp [Op.eqItems], by simp⟩
  | [], _ :: _, _, _, h, _, _, _, _, _ => by simp at h
  | _ :: _, [], _, _, h, _, _, _, _, _ => by simp at h
  | a :: rows, a' :: rows', A, A', hl, hA, h1, h2, h3, h4 => by
    obtain ⟨ti, hlook⟩ := flat_lookT hf
    have hsz := cellsOf_sizeT hT hlook
    have ha := h1 a (by simp)
    have ha' := h2 a' (by simp)
    have la := flat_len n e a hf ha
    have la' := flat_len n e a' hf ha'
    have lA := flen_rows A fun r hr => flat_len n e r hf (h3 r hr)
    have lA' := flen_rows A' fun r hr => flat_len n e r hf (h4 r hr)
    have p1 := part_ok hT hf A.flatten a rows.flatten ha w
    have p2 := part_ok hT hf A'.flatten a' rows'.flatten ha' w
    rw [lA] at p1
    rw [lA', ← hA] at p2
    obtain ⟨r, hr, hiff⟩ := hE a a' ha ha' w
    obtain ⟨r', hr', hiff'⟩ := eq_items hT w hf hE rows rows' (A ++ [a]) (A' ++ [a']) (by simpa using hl) (by simp [hA]) (fun q hq => h1 q (List.mem_cons_of_mem _ hq)) (fun q hq => h2 q (List.mem_cons_of_mem _ hq))
      (fun q hq => by rcases List.mem_append.1 hq with hq | hq; exact h3 q hq; rw [List.mem_singleton.1 hq]; exact ha) (fun q hq => by rcases List.mem_append.1 hq with hq | hq; exact h4 q hq; rw [List.mem_singleton.1 hq]; exact ha')
    have e1 : (A ++ a :: rows).flatten = A.flatten ++ a ++ rows.flatten := by simp
    have e2 : (A' ++ a' :: rows').flatten = A'.flatten ++ a' ++ rows'.flatten := by simp
    have e3 : (A ++ [a] ++ rows).flatten = A.flatten ++ a ++ rows.flatten := by simp
    have e4 : (A' ++ [a'] ++ rows').flatten = A'.flatten ++ a' ++ rows'.flatten := by simp
    have e5 : (A ++ [a]).length = A.length + 1 := by simp
    rw [e3, e4, e5] at hr'
    rw [e1, e2, List.length_cons, List.range'_succ, hsz]
    rw [hsz] at hr'
    simp only [Op.eqItems, Sem.run_bind, p1, p2, hr, Result.andThen_ok, List.flatten_cons, app_iff (la.trans la'.symm)]
    cases r
    · exact ⟨false, by simp, by simp; intro e; exact absurd (hiff.2 e) (by simp)⟩
    · refine ⟨r', by simpa using hr', ?_⟩
      rw [hiff']
      simp [hiff.1 rfl]
theorem eq_flat (hT : TabOk P T) : ∀ (n d t : Nat), flatT P T n t = true → EqT P T (d + n) n t
  | 0, d, t, h => by simp [flatT] at h
  | n + 1, d, t, h => by
    intro cs ds hc hd w
    obtain ⟨ti, hl⟩ := flat_lookT h
    have hu := (hT t ti hl).1
    unfold flatT at h
    unfold FlC at hc hd
    rw [hl] at h hc hd
    simp only at h hc hd
    have hg : aggT T t = ti.isAgg := by simp [aggT, hl]
    cases hdc : ti.desc with
    | bool =>
      rw [hdc] at hu hc hd
      obtain ⟨x, rfl⟩ := hc
      obtain ⟨y, rfl⟩ := hd
      refine ⟨x == y, ?_, by simp⟩
      simp only [valT, hg, TI.isAgg, hdc, Bool.false_eq_true, if_false, List.headD_cons, valA]
      exact run_equalIn_bool' w (d + n) t x y hu
    | int k =>
      rw [hdc] at hu hc hd
      obtain ⟨x, rfl⟩ := hc
      obtain ⟨y, rfl⟩ := hd
      refine ⟨x == y, ?_, by simp⟩
      simp only [valT, hg, TI.isAgg, hdc, Bool.false_eq_true, if_false, List.headD_cons, valA]
      exact run_equalIn_int w (d + n) t k k x y hu
    | string =>
      rw [hdc] at hu hc hd
      obtain ⟨x, rfl⟩ := hc
      obtain ⟨y, rfl⟩ := hd
      refine ⟨x.toList == y.toList, ?_, ?_⟩
      rotate_left
      · rw [beq_iff_eq]
        constructor
        · intro e
          rw [ByteArray.toList_eq, ByteArray.toList_eq] at e
          have : x = y := ByteArray.ext (Array.ext' e)
          rw [this]
        · intro e
          simp only [List.cons.injEq, AV.s.injEq, and_true] at e
          rw [e]
      simp only [valT, hg, TI.isAgg, hdc, Bool.false_eq_true, if_false, List.headD_cons, valA]
      exact run_equalIn_string w (d + n) t x y hu
    | struct fs =>
      rw [hdc] at hu hc hd h
      simp only [Bool.and_eq_true, beq_iff_eq, List.all_eq_true, bne_iff_ne, ne_eq, Bool.not_eq_true'] at h
      have hfs : P.fieldsOf t = fs := by simp [Program.fieldsOf, hu]
      have := eq_fields hT (d := d + n) (n := n) w fs.toList [] [] cs ds ti.size h.1.1 rfl (fun f hf => ⟨(h.1.2 f hf).1, (h.1.2 f hf).2, eq_flat hT n d f.type (h.1.2 f hf).2⟩) hc hd
      obtain ⟨r, hr, hiff⟩ := this
      refine ⟨r, ?_, hiff⟩
      simp only [valT, hg, TI.isAgg, hdc, if_true]
      rw [show d + (n + 1) = (d + n) + 1 from rfl, run_equalIn_struct w (d + n) t _ _ (by rw [hfs]; exact hu) h.2, hfs]
      exact hr
    | array k e =>
      rw [hdc] at hu hc hd h
      simp only [Bool.and_eq_true, beq_iff_eq] at h
      obtain ⟨rows, rfl, hk, hr⟩ := hc
      obtain ⟨rows', rfl, hk', hr'⟩ := hd
      obtain ⟨te, hle⟩ := flat_lookT h.2
      obtain ⟨i, hi⟩ := info_of_underlying (hT e te hle).1
      obtain ⟨r, hrun, hiff⟩ := eq_items hT (d := d + n) w h.2 (eq_flat hT n d e h.2) rows rows' [] [] (by omega) rfl hr hr' (fun r hr => by simp at hr) (fun r hr => by simp at hr)
      refine ⟨r, ?_, hiff⟩
      simp only [valT, hg, TI.isAgg, hdc, if_true]
      rw [show d + (n + 1) = (d + n) + 1 from rfl, run_equalIn_array w (d + n) _ _ hu hi, List.range_eq_range', ← hk]
      exact hrun
    | _ => rw [hdc] at h; simp at h
theorem flat_vals {n : Nat} (hT : TabOk P T) : ∀ (n t : Nat) (cs : List AV), flatT P T n t = true → FlC T n t cs → ∀ a ∈ cs, ∃ v, toV a = some v ∧ v = valA a
  | 0, t, cs, h, _ => by simp [flatT] at h
  | n + 1, t, cs, h, hc => by
    obtain ⟨ti, hl⟩ := flat_lookT h
    unfold flatT at h
    unfold FlC at hc
    rw [hl] at h hc
    simp only at h hc
    intro a ha
    cases hd : ti.desc with
    | bool => rw [hd] at hc; obtain ⟨x, rfl⟩ := hc; rw [List.mem_singleton.1 ha]; exact ⟨_, rfl, rfl⟩
    | int k => rw [hd] at hc; obtain ⟨x, rfl⟩ := hc; rw [List.mem_singleton.1 ha]; exact ⟨_, rfl, rfl⟩
    | string => rw [hd] at hc; obtain ⟨x, rfl⟩ := hc; rw [List.mem_singleton.1 ha]; exact ⟨_, rfl, rfl⟩
    | struct fs =>
      rw [hd] at hc h
      simp only [Bool.and_eq_true, beq_iff_eq, List.all_eq_true] at h
      have key : ∀ (fs : List Field) (cs : List AV), (∀ f ∈ fs, flatT P T n f.type = true) → TyFs (FlC T n) fs cs → ∀ a ∈ cs, ∃ v, toV a = some v ∧ v = valA a := by
        intro fs
        induction fs with
        | nil => intro cs _ h1 a ha; simp only [TyFs] at h1; subst h1; simp at ha
        | cons f fs ih =>
          intro cs h0 h1 a ha
          obtain ⟨x, y, rfl, hx, hy⟩ := h1
          rcases List.mem_append.1 ha with ha | ha
          · exact flat_vals (n := n) hT n f.type x (h0 f (by simp)) hx a ha
          · exact ih y (fun g hg => h0 g (List.mem_cons_of_mem _ hg)) hy a ha
      exact key fs.toList cs (fun f hf => (h.1.2 f hf).2) hc a ha
    | array k e =>
      rw [hd] at hc h
      simp only [Bool.and_eq_true] at h
      obtain ⟨rows, rfl, _, hr⟩ := hc
      obtain ⟨r, hr', ha'⟩ := List.mem_flatten.1 ha
      exact flat_vals (n := n) hT n e r h.2 (hr r hr') a ha'
    | _ => rw [hd] at h; simp at h
theorem flat_value (hT : TabOk P T) {n t : Nat} {cs : List AV} (h : flatT P T n t = true) (hc : FlC T n t cs) {S : Nat → Prop} {w : World} {v : Value} (hv : RelV0 S w (.agg cs) v) : v = .agg (cs.map valA).toArray := by
  cases hv with
  | agg _ vs hl h1 hr =>
    congr 2
    apply List.ext_getElem (by simpa using hl)
    intro j j1 j2
    have hj : j < cs.length := by omega
    have hrel := hr j _ _ (List.getElem?_eq_getElem hj) (List.getElem?_eq_getElem j1)
    obtain ⟨u, hu, he⟩ := flat_vals (n := n) hT n t cs h hc cs[j] (List.getElem_mem hj)
    rw [List.getElem_map]
    generalize cs[j] = q at hrel hu
    generalize vs[j] = y at hrel
    cases q with
    | b x => cases hrel; rfl
    | i k x => cases hrel; rfl
    | s x => cases hrel; rfl
    | _ => simp [toV] at hu
/-- '==' of two structs or arrays. -/
theorem aggEq_of (hT : TabOk P T) {n t : Nat} (hn : n ≤ 10000) (h : (flatT P T n t && aggT T t && !(P.eqGuardType P.depth t)) = true) {cs ds : List AV} (hc : FlC T n t cs) (hd : FlC T n t ds) {z : Bool} (hz : z = true ↔ cs = ds) : AggEq P t cs ds z := by
  simp only [Bool.and_eq_true, Bool.not_eq_true'] at h
  obtain ⟨⟨h1, h2⟩, h3⟩ := h
  intro S w v u hv hu
  rw [flat_value hT h1 hc hv, flat_value hT h1 hd hu]
  obtain ⟨r, hr, hiff⟩ := eq_flat hT n (10000 - n) t h1 cs ds hc hd w
  rw [show 10000 - n + n = 10000 by omega] at hr
  simp only [valT, h2, if_true] at hr
  rw [Sem.run_bind, run_eqGuard_agg w .eql t (.tmp 0) (.tmp 0) _ _ h3, Result.andThen_ok, run_eql_struct, hr, Result.andThen_ok]
  have : r = z := by
    cases r <;> cases z <;> simp_all
  rw [this]
end
theorem aggEq_true {P : Program} {t : Nat} {cs ds : List AV} {p : Prop} [Decidable p] (h : AggEq P t cs ds (decide p)) (hp : p) : AggEq P t cs ds true := by rw [decide_eq_true hp] at h; exact h
theorem aggEq_false {P : Program} {t : Nat} {cs ds : List AV} {p : Prop} [Decidable p] (h : AggEq P t cs ds (decide p)) (hp : ¬p) : AggEq P t cs ds false := by rw [decide_eq_false hp] at h; exact h
theorem aggNe_dec {P : Program} {t : Nat} {cs ds : List AV} {p : Prop} [Decidable p] (h : AggEq P t cs ds (decide p)) : AggEq P t cs ds (!decide (¬p)) := by
  have : (!decide (¬p)) = decide p := by by_cases hp : p <;> simp [hp]
  rw [this]; exact h
/-- Cells by one's own encoding. -/
theorem flc_cA {T : Tab} {n t e k : Nat} {ti te : TI} {kd : IntKind} (hl : look T t = some ti) (hd : ti.desc = .array k e) (hle : look T e = some te) (hde : te.desc = .int kd) (v : Vector Int k) : FlC T (n + 2) t (cA (AV.i kd) v) := by
  unfold FlC
  rw [hl]
  simp only [hd]
  refine ⟨v.toList.map fun x => [AV.i kd x], ?_, by simp, fun r hr => ?_⟩
  · simp only [cA]
    generalize v.toList = l
    induction l with
    | nil => rfl
    | cons x l ih => simp [ih]
  · obtain ⟨x, _, rfl⟩ := List.mem_map.1 hr
    unfold FlC
    rw [hle]
    simp only [hde]
    exact ⟨x, rfl⟩
theorem cA_inj {n : Nat} {k : IntKind} {v w : Vector Int n} : cA (AV.i k) v = cA (AV.i k) w ↔ v = w := by
  refine ⟨fun h => ?_, fun h => by rw [h]⟩
  have h' : v.toList = w.toList := by
    have key : ∀ (a b : List Int), a.map (AV.i k) = b.map (AV.i k) → a = b := by
      intro a
      induction a with
      | nil => intro b hb; cases b <;> simp_all
      | cons x a ih => intro b hb; cases b with
        | nil => simp at hb
        | cons y b => simp only [List.map_cons, List.cons.injEq, AV.i.injEq, true_and] at hb; rw [hb.1, ih b hb.2]
    exact key _ _ h
  exact Vector.toList_inj.1 h'
end Go.E
namespace Go.Proofs.Ytaiepnaokhpmcaa
open Go.E
set_option maxRecDepth 100000
set_option maxHeartbeats 4000000
structure Dot where
  rep : Int
  num : Int
  deriving Inhabited, DecidableEq
structure Span where
  rep : Int
  lo : Int
  hi : Int
  deriving Inhabited, DecidableEq
def c3 (n : Int) : List AV := [.i .i64 n]
def c22 (v : List Int) : List AV := [.sl (v.map c3)]
def c29 (d : Dot) : List AV := [.i .i64 d.rep, .i .i64 d.num]
def c50 (s : Span) : List AV := [.i .i64 s.rep, .i .i64 s.lo, .i .i64 s.hi]
theorem getD_bang {v : List Int} {n : Nat} : v.getD n 0 = v[n]! := by
  simp [List.getD_eq_getElem?_getD]
theorem fl29 (x : Dot) : FlC tab 3 29 (c29 x) := ⟨[_], [_], rfl, ⟨_, rfl⟩, [_], [], rfl, ⟨_, rfl⟩, rfl⟩
theorem eq29 (x y : Dot) : AggEq Try.prog 29 (c29 x) (c29 y) (decide (x = y)) := by
  refine aggEq_of tab_ok (n := 3) (by decide) (by kernel_rfl) (fl29 x) (fl29 y) ?_
  cases x; cases y; simp [c29]
theorem fl50 (x : Span) : FlC tab 3 50 (c50 x) := ⟨[_], [_, _], rfl, ⟨_, rfl⟩, [_], [_], rfl, ⟨_, rfl⟩, [_], [], rfl, ⟨_, rfl⟩, rfl⟩
theorem eq50 (x y : Span) : AggEq Try.prog 50 (c50 x) (c50 y) (decide (x = y)) := by
  refine aggEq_of tab_ok (n := 3) (by decide) (by kernel_rfl) (fl50 x) (fl50 y) ?_
  cases x; cases y; simp [c50]
def sgn (b : Bool) : Int := if b then -1 else 1
def inv30 {α : Type} [Inhabited α] (a b : List α) (i : Int) : Prop := 0 ≤ i ∧ i ≤ a.length ∧ ∀ j : Nat, (j : Int) < i → a[j]! = b[j]!
def dec30 {α : Type} (a : List α) (i : Int) : Nat := (a.length - i).toNat
theorem bang_eq {α : Type} [Inhabited α] {a b : List α} (hl : (a.length : Int) = b.length) (h : ∀ j : Nat, (j : Int) < a.length → a[j]! = b[j]!) : a = b := by
  apply List.ext_getElem (by omega)
  intro j h1 h2
  have := h j (by omega)
  simpa [h1, h2] using this
def inv29 {α : Type} (vs : List α) (i : Int) (l : List α) : Prop := 0 ≤ i ∧ i ≤ vs.length ∧ l = vs.take i.toNat
def dec29 {α : Type} (vs : List α) (i : Int) (l : List α) : Nat := (vs.length - i).toNat
def sz22 (v : List Int) : Prop := v.length * 8 ≤ 140737488351232
def sz38 (vs : List (List Int)) : Prop := vs.length * 24 ≤ 140737488351232 ∧ ∀ v ∈ vs, sz22 v
theorem bang_mem {α : Type} [Inhabited α] {a : List α} {i : Nat} (h : i < a.length) : a[i]! ∈ a := by
  rw [getElem!_pos a i h]; exact List.getElem_mem h
theorem take_step {α : Type} [Inhabited α] {a : List α} {i : Int} (h0 : 0 ≤ i) (h : i < a.length) : a.take i.toNat ++ [a[i.toNat]!] = a.take (i + 1).toNat := by
  have e : (i + 1).toNat = i.toNat + 1 := by omega
  have hl : i.toNat < a.length := by omega
  rw [e, List.take_succ_eq_append_getElem hl, getElem!_pos a _ hl]
structure Entry where
  dot : Dot
  sku : ByteArray
  qty : Int
  deriving Inhabited, DecidableEq
structure Run where
  lo : Int
  hi : Int
  deriving Inhabited, DecidableEq
structure Past where
  vec : List Int
  cloud : List Span
  deriving Inhabited, DecidableEq
structure Line where
  sku : ByteArray
  qty : Int
  parts : Int
  deriving Inhabited, DecidableEq
def c5 (n : Int) : List AV := [.i .u8 n]
def c9 (s : ByteArray) : List AV := [.s s]
def c40 (e : Entry) : List AV := [.i .i64 e.dot.rep, .i .i64 e.dot.num, .s e.sku, .i .i64 e.qty]
def c82 (r : Run) : List AV := [.i .i64 r.lo, .i .i64 r.hi]
def c25 (p : Past) : List AV := [.sl (p.vec.map c3), .sl (p.cloud.map c50)]
theorem fl40 (x : Entry) : FlC tab 4 40 (c40 x) := ⟨[_, _], [_, _], rfl, ⟨[_], [_], rfl, ⟨_, rfl⟩, [_], [], rfl, ⟨_, rfl⟩, rfl⟩, [_], [_], rfl, ⟨_, rfl⟩, [_], [], rfl, ⟨_, rfl⟩, rfl⟩
theorem eq40 (x y : Entry) : AggEq Try.prog 40 (c40 x) (c40 y) (decide (x = y)) := by
  refine aggEq_of tab_ok (n := 4) (by decide) (by kernel_rfl) (fl40 x) (fl40 y) ?_
  obtain ⟨⟨a, b⟩, c, d⟩ := x; obtain ⟨⟨a', b'⟩, c', d'⟩ := y; simp [c40, and_assoc]
structure Case where
  a : List Entry
  b : List Entry
  p : Past
  d : Dot
  rep : Int
  sku : ByteArray
  deriving Inhabited
structure Record where
  sku : ByteArray
  past : Past
  deriving Inhabited, DecidableEq
structure Facts where
  adds : List Entry
  gone : Past
  recs : List Record
  deriving Inhabited, DecidableEq
structure Actn where
  kind : Int
  sku : ByteArray
  qty : Int
  past : Past
  deriving Inhabited, DecidableEq
structure Limits where
  lines : Int
  count : Int
  deriving Inhabited, DecidableEq
structure Wish where
  live : List Entry
  seen : Past
  rep : Int
  lim : Limits
  act : Actn
  deriving Inhabited, DecidableEq
def c78 (r : Record) : List AV := [.s r.sku, .sl (r.past.vec.map c3), .sl (r.past.cloud.map c50)]
def c38 (f : Facts) : List AV := [.sl (f.adds.map c40), .sl (f.gone.vec.map c3), .sl (f.gone.cloud.map c50), .sl (f.recs.map c78)]
def c27 (a : Actn) : List AV := [.i .i64 a.kind, .s a.sku, .i .i64 a.qty, .sl (a.past.vec.map c3), .sl (a.past.cloud.map c50)]
end Go.Proofs.Ytaiepnaokhpmcaa
namespace Go.E
open Go.Sort
variable {α : Type} [Inhabited α]
/-- Where what lies at k comes from, behind a swap of the runs of n at a and at b. -/
def swIx (a b n k : Nat) : Nat := if a ≤ k ∧ k < a + n then k - a + b else if b ≤ k ∧ k < b + n then k - b + a else k
/-- .. and behind a turn of [a, m) and [m, b). -/
def rotIx (a m b k : Nat) : Nat := if a ≤ k ∧ k < a + (b - m) then k - a + m else if a + (b - m) ≤ k ∧ k < b then k - (b - m) else k
theorem swIx_zero (a b k : Nat) : swIx a b 0 k = k := by unfold swIx; rw [if_neg (by omega), if_neg (by omega)]
theorem sw_step {d dk : Array α} {a b n : Nat} (hab : a + (n + 1) ≤ b) (hb : b + (n + 1) ≤ d.size) (hs : dk.size = d.size) (h : ∀ k, dk[k]! = d[swIx a b n k]!) :
    ∀ k, (swp dk (a + n) (b + n))[k]! = d[swIx a b (n + 1) k]! := by
  intro k
  rw [swp_get dk (by omega) (by omega), h, h, h]
  by_cases e1 : k = b + n
  · rw [if_pos e1]
    congr 1
    unfold swIx
    rw [if_neg (by omega), if_neg (by omega), if_neg (by omega), if_pos (by omega)]; omega
  · rw [if_neg e1]
    by_cases e2 : k = a + n
    · rw [if_pos e2]
      congr 1
      unfold swIx
      rw [if_neg (by omega), if_neg (by omega), if_pos (by omega)]; omega
    · rw [if_neg e2]
      congr 1
      unfold swIx
      by_cases h1 : a ≤ k ∧ k < a + n
      · rw [if_pos h1, if_pos (by omega)]
      · rw [if_neg h1, if_neg (show ¬ (a ≤ k ∧ k < a + (n + 1)) by omega)]
        by_cases h2 : b ≤ k ∧ k < b + n
        · rw [if_pos h2, if_pos (by omega)]
        · rw [if_neg h2, if_neg (by omega)]
/-- The left run is longer: its head and the right run change places. -/
theorem rot_left {m i j k : Nat} (hi : i ≤ m) (hj : 0 < j) (h : j < i) : swIx (m - i) m j (rotIx (m - (i - j)) m (m + j) k) = rotIx (m - i) m (m + j) k := by
  unfold rotIx
  by_cases c1 : m - i ≤ k ∧ k < m - i + j
  · rw [if_neg (by omega), if_neg (by omega), if_pos (by omega)]
    unfold swIx; rw [if_pos (by omega)]
  · by_cases c2 : m - (i - j) ≤ k ∧ k < m - (i - j) + j
    · rw [if_pos (by omega), if_neg (by omega), if_pos (by omega)]
      unfold swIx; rw [if_neg (by omega), if_pos (by omega)]; omega
    · by_cases c3 : m - (i - j) + j ≤ k ∧ k < m + j
      · rw [if_neg (by omega), if_pos (by omega), if_neg (by omega), if_pos (by omega)]
        unfold swIx; rw [if_neg (by omega), if_neg (by omega)]
      · rw [if_neg (by omega), if_neg (by omega), if_neg (by omega), if_neg (by omega)]
        unfold swIx; rw [if_neg (by omega), if_neg (by omega)]
/-- The right run is longer: the left run and its tail change places. -/
theorem rot_right {m i j k : Nat} (hi : i ≤ m) (h0 : 0 < i) (h : i < j) : swIx (m - i) (m + j - i) i (rotIx (m - i) m (m + (j - i)) k) = rotIx (m - i) m (m + j) k := by
  unfold rotIx
  by_cases c1 : m - i ≤ k ∧ k < m - i + (j - i)
  · rw [if_pos (by omega), if_pos (by omega)]
    unfold swIx; rw [if_neg (by omega)]
    by_cases c : m + j - i ≤ k - (m - i) + m
    · omega
    · rw [if_neg (by omega)]
  · by_cases c2 : m - i + (j - i) ≤ k ∧ k < m + (j - i)
    · rw [if_neg (by omega), if_pos (by omega), if_pos (by omega)]
      unfold swIx; rw [if_pos (by omega)]; omega
    · by_cases c3 : m + (j - i) ≤ k ∧ k < m + j
      · rw [if_neg (by omega), if_neg (by omega), if_neg (by omega), if_pos (by omega)]
        unfold swIx; rw [if_neg (by omega), if_pos (by omega)]; omega
      · rw [if_neg (by omega), if_neg (by omega), if_neg (by omega), if_neg (by omega)]
        unfold swIx; rw [if_neg (by omega), if_neg (by omega)]
/-- Runs of one length: the turn is the swap. -/
theorem rot_same {m i k : Nat} (hi : i ≤ m) : swIx (m - i) m i k = rotIx (m - i) m (m + i) k := by
  unfold swIx rotIx
  by_cases c1 : m - i ≤ k ∧ k < m - i + i
  · rw [if_pos c1, if_pos (show m - i ≤ k ∧ k < m - i + (m + i - m) by omega)]
  · rw [if_neg c1]
    by_cases c2 : m ≤ k ∧ k < m + i
    · rw [if_pos c2, if_neg (show ¬ (m - i ≤ k ∧ k < m - i + (m + i - m)) by omega), if_pos (show m - i + (m + i - m) ≤ k ∧ k < m + i by omega)]; omega
    · rw [if_neg c2, if_neg (show ¬ (m - i ≤ k ∧ k < m - i + (m + i - m)) by omega), if_neg (show ¬ (m - i + (m + i - m) ≤ k ∧ k < m + i) by omega)]
theorem rotIx_one (a k : Nat) : rotIx a (a + 1) (a + 1) k = k := by unfold rotIx; rw [if_neg (by omega)]; split <;> omega
/-- The element at a wanders up by one place. -/
theorem up_step {d dk : Array α} {a c : Nat} (hac : a ≤ c) (hb : c + 1 < d.size) (hs : dk.size = d.size) (h : ∀ k, dk[k]! = d[rotIx a (a + 1) (c + 1) k]!) :
    ∀ k, (swp dk c (c + 1))[k]! = d[rotIx a (a + 1) (c + 2) k]! := by
  intro k
  rw [swp_get dk (by omega) (by omega), h, h, h]
  unfold rotIx
  by_cases e1 : k = c + 1
  · rw [if_pos e1]; congr 1
    rw [if_neg (by omega), if_pos (by omega), if_neg (by omega), if_pos (by omega)]; omega
  · rw [if_neg e1]
    by_cases e2 : k = c
    · rw [if_pos e2]; congr 1
      rw [if_neg (by omega), if_neg (by omega), if_pos (by omega)]; omega
    · rw [if_neg e2]; congr 1
      by_cases h1 : a ≤ k ∧ k < a + (c + 1 - (a + 1))
      · rw [if_pos h1, if_pos (by omega)]
      · rw [if_neg h1, if_neg (show ¬ (a ≤ k ∧ k < a + (c + 2 - (a + 1))) by omega), if_neg (by omega), if_neg (by omega)]
/-- The element at m wanders down by one place: it lies at c + 1 and comes to c. -/
theorem down_step {d dk : Array α} {c m : Nat} (hcm : c + 1 ≤ m) (hb : m < d.size) (hs : dk.size = d.size) (h : ∀ k, dk[k]! = d[rotIx (c + 1) m (m + 1) k]!) :
    ∀ k, (swp dk (c + 1) c)[k]! = d[rotIx c m (m + 1) k]! := by
  intro k
  rw [swp_get dk (by omega) (by omega), h, h, h]
  unfold rotIx
  by_cases e1 : k = c
  · rw [if_pos e1]; congr 1
    rw [if_pos (by omega), if_pos (by omega)]; omega
  · rw [if_neg e1]
    by_cases e2 : k = c + 1
    · rw [if_pos e2]; congr 1
      rw [if_neg (by omega), if_neg (by omega), if_neg (by omega), if_pos (by omega)]; omega
    · rw [if_neg e2]; congr 1
      by_cases h1 : c + 1 + (m + 1 - m) ≤ k ∧ k < m + 1
      · rw [if_neg (by omega), if_pos h1, if_neg (by omega), if_pos (by omega)]
      · rw [if_neg (by omega), if_neg h1, if_neg (by omega), if_neg (by omega)]
theorem rotIx_end (m k : Nat) : rotIx m m (m + 1) k = k := by unfold rotIx; split <;> (try split) <;> omega
variable {lt : α → α → Bool}
/-- One element ahead of a sorted run, put where it belongs. -/
theorem merge_one_left (hO : SWO lt) {d d' : Array α} {a i b : Nat} (hs : SortedIn lt (a + 1) b d) (h1 : a + 1 ≤ i) (h2 : i ≤ b) (hl : ∀ h, a + 1 ≤ h → h < i → lt d[h]! d[a]! = true) (hr : ∀ h, i ≤ h → h < b → lt d[h]! d[a]! = false)
    (hd : ∀ k, d'[k]! = d[rotIx a (a + 1) i k]!) : SortedIn lt a b d' := by
  intro p q hp hpq hq
  rw [hd, hd]
  unfold rotIx
  by_cases cq : q < i - 1
  · rw [if_pos (by omega), if_pos (by omega)]
    exact hs _ _ (by omega) (by omega) (by omega)
  · by_cases cq2 : q = i - 1
    · rw [if_neg (by omega), if_pos (by omega), if_pos (by omega)]
      have e : q - (i - (a + 1)) = a := by omega
      rw [e]
      exact hO.asymmA (hl _ (by omega) (by omega))
    · rw [if_neg (by omega), if_neg (show ¬ (a + (i - (a + 1)) ≤ q ∧ q < i) by omega)]
      by_cases cp : p < i - 1
      · rw [if_pos (by omega)]
        exact hs _ _ (by omega) (by omega) (by omega)
      · by_cases cp2 : p = i - 1
        · rw [if_neg (by omega), if_pos (by omega)]
          have e : p - (i - (a + 1)) = a := by omega
          rw [e]
          exact hr _ (by omega) hq
        · rw [if_neg (by omega), if_neg (by omega)]
          exact hs _ _ (by omega) (by omega) (by omega)
/-- One element behind a sorted run. -/
theorem merge_one_right (hO : SWO lt) {d d' : Array α} {a i m : Nat} (hs : SortedIn lt a m d) (h1 : a ≤ i) (h2 : i ≤ m) (hl : ∀ h, a ≤ h → h < i → lt d[m]! d[h]! = false) (hr : ∀ h, i ≤ h → h < m → lt d[m]! d[h]! = true)
    (hd : ∀ k, d'[k]! = d[rotIx i m (m + 1) k]!) : SortedIn lt a (m + 1) d' := by
  intro p q hp hpq hq
  rw [hd, hd]
  unfold rotIx
  by_cases cp : p < i
  · rw [if_neg (show ¬ (i ≤ p ∧ p < i + (m + 1 - m)) by omega), if_neg (show ¬ (i + (m + 1 - m) ≤ p ∧ p < m + 1) by omega)]
    by_cases cq : q < i
    · rw [if_neg (by omega), if_neg (by omega)]; exact hs _ _ hp hpq (by omega)
    · by_cases cq2 : q = i
      · rw [if_pos (by omega)]
        have e : q - i + m = m := by omega
        rw [e]; exact hl _ hp cp
      · rw [if_neg (by omega), if_pos (by omega)]; exact hs _ _ hp (by omega) (by omega)
  · by_cases cp2 : p = i
    · rw [if_pos (show i ≤ p ∧ p < i + (m + 1 - m) by omega), if_neg (show ¬ (i ≤ q ∧ q < i + (m + 1 - m)) by omega), if_pos (show i + (m + 1 - m) ≤ q ∧ q < m + 1 by omega)]
      have e : p - i + m = m := by omega
      rw [e]; exact hO.asymmA (hr _ (by omega) (by omega))
    · rw [if_neg (show ¬ (i ≤ p ∧ p < i + (m + 1 - m)) by omega), if_pos (show i + (m + 1 - m) ≤ p ∧ p < m + 1 by omega), if_neg (show ¬ (i ≤ q ∧ q < i + (m + 1 - m)) by omega), if_pos (show i + (m + 1 - m) ≤ q ∧ q < m + 1 by omega)]
      exact hs _ _ (by omega) (by omega) (by omega)
/-- What symMerge's search finds: 'start': below it the left run stays, from it on it goes over to the right. n = mid + m, p = n - 1. -/
structure Cut (lt : α → α → Bool) (a m b start : Nat) (d : Array α) : Prop where
  lo : a ≤ start
  lo2 : (a + b) / 2 + m - start ≤ b
  hi : start ≤ m
  hi2 : start ≤ (a + b) / 2
  below : ∀ c, a ≤ c → (a + b) / 2 + m ≤ b + c → c < start → lt d[(a + b) / 2 + m - 1 - c]! d[c]! = false
  above : ∀ c, start ≤ c → c < m → c < (a + b) / 2 → lt d[(a + b) / 2 + m - 1 - c]! d[c]! = true
/-- Behind the turn each half is two sorted runs, and nothing in the right half is less than anything in the left. -/
theorem cut_parts (hO : SWO lt) {d d' : Array α} {a m b start : Nat} (h1 : SortedIn lt a m d) (h2 : SortedIn lt m b d) (ham : a < m) (hmb : m < b) (hc : Cut lt a m b start d)
    (hd : ∀ k, d'[k]! = d[rotIx start m ((a + b) / 2 + m - start) k]!) :
    SortedIn lt a start d' ∧ SortedIn lt start ((a + b) / 2) d' ∧ SortedIn lt ((a + b) / 2) ((a + b) / 2 + m - start) d' ∧ SortedIn lt ((a + b) / 2 + m - start) b d' ∧
      ∀ p q, a ≤ p → p < (a + b) / 2 → (a + b) / 2 ≤ q → q < b → lt d'[q]! d'[p]! = false := by
  obtain ⟨c1, c2, c3, c4, c5, c6⟩ := hc
  have hmid : a ≤ (a + b) / 2 ∧ (a + b) / 2 ≤ b ∧ a + b ≤ 2 * ((a + b) / 2) + 1 ∧ 2 * ((a + b) / 2) ≤ a + b := by omega
  generalize (a + b) / 2 = mid at *
  -- where the four pieces come from
  have g1 : ∀ k, k < start → d'[k]! = d[k]! := fun k hk => by rw [hd]; unfold rotIx; rw [if_neg (by omega), if_neg (by omega)]
  have g2 : ∀ k, start ≤ k → k < mid → d'[k]! = d[k - start + m]! := fun k hk hk2 => by rw [hd]; unfold rotIx; rw [if_pos (by omega)]
  have g3 : ∀ k, mid ≤ k → k < mid + m - start → d'[k]! = d[k - (mid - start)]! := fun k hk hk2 => by
    rw [hd]; unfold rotIx; rw [if_neg (by omega), if_pos (by omega)]; congr 1; omega
  have g4 : ∀ k, mid + m - start ≤ k → d'[k]! = d[k]! := fun k hk => by rw [hd]; unfold rotIx; rw [if_neg (by omega), if_neg (by omega)]
  refine ⟨fun p q hp hpq hq => ?_, fun p q hp hpq hq => ?_, fun p q hp hpq hq => ?_, fun p q hp hpq hq => ?_, fun p q hp hpm hqm hq => ?_⟩
  · rw [g1 q hq, g1 p (by omega)]; exact h1 _ _ hp hpq (by omega)
  · rw [g2 q (by omega) hq, g2 p hp (by omega)]; exact h2 _ _ (by omega) (by omega) (by omega)
  · rw [g3 q (by omega) hq, g3 p hp (by omega)]; exact h1 _ _ (by omega) (by omega) (by omega)
  · rw [g4 q (by omega), g4 p hp]; exact h2 _ _ (by omega) hpq hq
  · by_cases cp : p < start
    · rw [g1 p cp]
      by_cases cq : q < mid + m - start
      · rw [g3 q hqm cq]
        by_cases e : p < q - (mid - start)
        · exact h1 _ _ hp e (by omega)
        · omega
      · rw [g4 q (by omega)]
        -- p <= start - 1; d[n - start] not less than d[start - 1]; q from n - start on
        have k1 := c5 (start - 1) (by omega) (by omega) (by omega)
        have e : mid + m - 1 - (start - 1) = mid + m - start := by omega
        rw [e] at k1
        have k2 : lt d[q]! d[start - 1]! = false := by
          by_cases eq : q = mid + m - start
          · rw [eq]; exact k1
          · exact hO.ntrans _ _ _ (h2 _ _ (by omega) (by omega) hq) k1
        by_cases ep : p = start - 1
        · rw [ep]; exact k2
        · exact hO.ntrans _ _ _ k2 (h1 _ _ hp (by omega) (by omega))
    · rw [g2 p (by omega) hpm]
      by_cases cq : q < mid + m - start
      · rw [g3 q hqm cq]
        -- d[p'] <= d[n - start - 1] < d[start] <= d[q']
        have hsm : start < m := by omega
        have k1 := c6 start (Nat.le_refl _) hsm (by omega)
        have e : mid + m - 1 - start = mid - 1 - start + m := by omega
        rw [e] at k1
        have k2 : lt d[mid - 1 - start + m]! d[q - (mid - start)]! = true ∨ lt d[q - (mid - start)]! d[mid - 1 - start + m]! = false := by
          by_cases eq : q - (mid - start) = start
          · rw [eq]; exact .inl k1
          · right
            exact hO.ntrans _ _ _ (h1 start _ c1 (by omega) (by omega)) (hO.asymmA k1)
        have k3 : lt d[q - (mid - start)]! d[mid - 1 - start + m]! = false := k2.elim hO.asymmA id
        by_cases ep : p - start + m = mid - 1 - start + m
        · rw [ep]; exact k3
        · exact hO.ntrans _ _ _ k3 (h2 _ _ (by omega) (by omega) (by omega))
      · rw [g4 q (by omega)]
        exact h2 _ _ (by omega) (by omega) hq
/-- Two sorted halves, nothing in the right less than anything in the left. -/
theorem sorted_halves {d : Array α} {a mid b : Nat} (h1 : SortedIn lt a mid d) (h2 : SortedIn lt mid b d) (h3 : ∀ p q, a ≤ p → p < mid → mid ≤ q → q < b → lt d[q]! d[p]! = false) : SortedIn lt a b d := by
  intro p q hp hpq hq
  by_cases c1 : q < mid
  · exact h1 p q hp hpq c1
  · by_cases c2 : p < mid
    · exact h3 p q hp c2 (by omega) hq
    · exact h2 p q (by omega) hpq hq
theorem sorted_same {d d' : Array α} {a b : Nat} (h : SortedIn lt a b d) (he : ∀ i, a ≤ i → i < b → d'[i]! = d[i]!) : SortedIn lt a b d' := fun p q hp hpq hq => by
  rw [he p hp (by omega), he q (by omega) hq]; exact h p q hp hpq hq
/-- What is said of each of one half and each of the other stays so, where each half is put in another order. -/
theorem cross_perm {d d' : Array α} {a mid b : Nat} (ham : a ≤ mid) (hmb : mid ≤ b) (hb : b ≤ d.size) (h1 : PermIn a mid d d') (h3 : ∀ p q, a ≤ p → p < mid → mid ≤ q → q < b → lt d[q]! d[p]! = false) :
    ∀ p q, a ≤ p → p < mid → mid ≤ q → q < b → lt d'[q]! d'[p]! = false := fun p q hp hpm hmq hq => by
  rw [h1.2.1 q (by omega)]
  exact permIn_all d d' a mid (fun x => lt d[q]! x = false) (by omega) h1 (fun i hi him => h3 i q hi him hmq hq) p hp hpm
theorem cross_perm' {d d' : Array α} {a mid b : Nat} (ham : a ≤ mid) (hmb : mid ≤ b) (hb : b ≤ d.size) (h1 : PermIn mid b d d') (h3 : ∀ p q, a ≤ p → p < mid → mid ≤ q → q < b → lt d[q]! d[p]! = false) :
    ∀ p q, a ≤ p → p < mid → mid ≤ q → q < b → lt d'[q]! d'[p]! = false := fun p q hp hpm hmq hq => by
  rw [h1.2.1 p (by omega)]
  exact permIn_all d d' mid b (fun x => lt x d[p]! = false) hb h1 (fun i hi him => h3 p i hp hpm hi him) q hmq hq
theorem perm_mono {d d' : Array α} {a b a' b' : Nat} (h1 : a' ≤ a) (h2 : b ≤ b') (hb : b' ≤ d.size) (h : PermIn a b d d') : PermIn a' b' d d' := permIn_mono d d' a b a' b' h1 h2 hb h
end Go.E
namespace Go.E
open Go.Sort Go.RowKit
/-- A fact kept from the walk. -/
structure Box (p : Prop) : Prop where
  out : p
def wDr (w : World) (q : Nat) : World := { w with drawn := q }
section
variable {α : Type} [Inhabited α] {enc : α → List Value} {k : Nat} {w0 W W' : World} {blk off : Nat} {d d' : Array α}
/-- W is w0 with the row laid with d; new blocks behind; some draws on. -/
def Fam (enc : α → List Value) (k blk off : Nat) (w0 : World) (d : Array α) (W : World) : Prop := ∃ q os, W = wDr (grow (putRowK enc k w0 blk off d) os) q
theorem putRowK_wDr (w : World) (q : Nat) (d : Array α) : putRowK enc k (wDr w q) blk off d = wDr (putRowK enc k w blk off d) q := rfl
theorem grow_wDr (w : World) (q : Nat) (os : Array Obj) : grow (wDr w q) os = wDr (grow w os) q := rfl
theorem wDr_wDr (w : World) (q p : Nat) : wDr (wDr w q) p = wDr w p := rfl
theorem wDr_self (w : World) : wDr w w.drawn = w := rfl
theorem holdsK_wDr (w : World) (q : Nat) (d : Array α) (h : HoldsK enc k w blk off d) : HoldsK enc k (wDr w q) blk off d := h
theorem Fam.start (h : HoldsK enc k w0 blk off d) : Fam enc k blk off w0 d w0 := ⟨w0.drawn, #[], by rw [putRowK_self enc k w0 blk off d h, grow_empty, wDr_self]⟩
theorem Fam.size (h : Fam enc k blk off w0 d W) : w0.heap.size ≤ W.heap.size := by
  obtain ⟨q, os, rfl⟩ := h
  show w0.heap.size ≤ (grow (putRowK enc k w0 blk off d) os).heap.size
  rw [size_grow, size_putRowK]; omega
theorem Fam.grown (h : Fam enc k blk off w0 d W) (q : Nat) (os : Array Obj) : Fam enc k blk off w0 d (wDr (grow W os) q) := by
  obtain ⟨p, os', rfl⟩ := h
  exact ⟨q, os' ++ os, by rw [grow_wDr, wDr_wDr, grow_grow]⟩
theorem Fam.alloc (h : Fam enc k blk off w0 d W) (o : Obj) : Fam enc k blk off w0 d (W.alloc o) := by
  have := h.grown W.drawn #[o]
  rw [← alloc_eq_grow] at this
  exact this
theorem Fam.drewN (h : Fam enc k blk off w0 d W) (n : Nat) : Fam enc k blk off w0 d (W.drewN n) := by
  have := h.grown (W.drewN n).drawn #[]
  rw [grow_empty] at this
  have e : wDr W (W.drewN n).drawn = W.drewN n := by
    have : W.drewN n = Sort.ahead W n := by
      clear this h
      induction n with
      | zero => rfl
      | succ n ih =>
        show (W.drewN n).drew = _
        rw [ih, drew_eq_ahead, ahead_ahead]
    rw [this]; rfl
  rw [e] at this
  exact this
theorem Fam.trans (h : Fam enc k blk off w0 d W) (hb : blk < w0.heap.size) (h' : Fam enc k blk off W d' W') (hs : d'.size = d.size) : Fam enc k blk off w0 d' W' := by
  obtain ⟨q, os, rfl⟩ := h
  obtain ⟨q', os', rfl⟩ := h'
  refine ⟨q', os ++ os', ?_⟩
  have := grow_step_growK (enc := enc) (k := k) w0 os os' 0 0 blk off d d' hb hs
  simp only [ahead_zero, Nat.add_zero] at this
  rw [putRowK_wDr, grow_wDr, wDr_wDr, this]
theorem Fam.cell (h : Fam enc k blk off w0 d W) {a : Addr} (ha : a.block < w0.heap.size) (hne : a.block ≠ blk) : W.cell? a = w0.cell? a := by
  obtain ⟨q, os, rfl⟩ := h
  show (grow (putRowK enc k w0 blk off d) os).cell? a = _
  rw [cell?_grow _ _ _ (by rw [size_putRowK]; exact ha), cell?_putRowK_other _ _ _ _ _ _ _ hne]
theorem Fam.holds {d0 : Array α} (h : Fam enc k blk off w0 d W) (hb : blk < w0.heap.size) (h0 : HoldsK enc k w0 blk off d0) (hs : d.size = d0.size) : HoldsK enc k W blk off d := by
  obtain ⟨q, os, rfl⟩ := h
  exact holdsK_wDr _ q d (holdsK_grow enc k _ os blk off d (by rw [size_putRowK]; exact hb) (holdsK_putRowK enc k w0 blk off d0 d h0 hs))
theorem Fam.swap (h : Fam enc k blk off w0 d W) (hk : ∀ x, (enc x).length = k) (hb : blk < w0.heap.size) (i j : Nat) (hi : i < d.size) (hj : j < d.size) :
    Fam enc k blk off w0 (swp d i j) ((W.setCells blk (off + i * k) (enc d[j]!)).setCells blk (off + j * k) (enc d[i]!)) := by
  obtain ⟨q, os, rfl⟩ := h
  refine ⟨q, os, ?_⟩
  have e : ∀ (w : World) (o : Nat) (vs : List Value), (wDr w q).setCells blk o vs = wDr (w.setCells blk o vs) q := by
    intro w o vs
    induction vs generalizing w o with
    | nil => rfl
    | cons v vs ih => show ((wDr w q).setCell ⟨blk, o, none⟩ v).setCells blk (o + 1) vs = _
                      rw [show (wDr w q).setCell ⟨blk, o, none⟩ v = wDr (w.setCell ⟨blk, o, none⟩ v) q from rfl, ih]; rfl
  rw [e, e, ← putRowK_grow enc k w0 os blk off d hb, putRowK_swp enc k hk _ blk off d i j hi hj, putRowK_grow enc k w0 os blk off _ hb]
/-- Behind a call by whose contract nothing that was there has turned. -/
theorem Fam.below (h : Fam enc k blk off w0 d W) (hb : Below W.heap.size W W') : Fam enc k blk off w0 d W' := by
  have e : W' = wDr (grow W (W'.heap.extract W.heap.size W'.heap.size)) W'.drawn := by
    have hh : W'.heap = W.heap ++ W'.heap.extract W.heap.size W'.heap.size := by
      apply Array.ext'
      rw [Array.toList_append, Array.toList_extract]
      apply List.ext_getElem?
      intro i
      by_cases hi : i < W.heap.size
      · rw [List.getElem?_append_left (by simpa using hi)]
        have := hb.block i hi
        simpa using this
      · rw [List.getElem?_append_right (by simpa using hi)]
        simp only [List.extract, Array.length_toList, List.getElem?_take, List.getElem?_drop]
        have hs := hb.size
        have e2 : W.heap.size + (i - W.heap.size) = i := by omega
        rw [e2]
        split
        · rfl
        · rw [List.getElem?_eq_none (by simp; omega)]
    have h1 := hb.os
    have h2 := hb.tape
    have h3 := hb.output
    cases W' with
    | mk heap tape drawn os output =>
      simp only [wDr, grow] at *
      subst h1 h2 h3
      rw [← hh]
  rw [e]
  exact h.grown _ _
end
end Go.E
namespace Go.E
open Go.Sort Go.RowKit
section
variable {α : Type} [Inhabited α] {enc : α → List Value} {k : Nat} {w0 W W' : World} {blk off : Nat} {d d' : Array α}
theorem flatK_list (hk : ∀ x, (enc x).length = k) (d : Array α) : (flatK enc k d).toList = (d.toList.map enc).flatten := by
  have hsz : ∀ r ∈ d.toList.map enc, r.length = k := by
    intro r hr
    obtain ⟨x, _, rfl⟩ := List.mem_map.1 hr
    exact hk x
  apply List.ext_getElem?
  intro t
  by_cases ht : t < d.size * k
  · have k0 : 0 < k := by
      rcases Nat.eq_zero_or_pos k with h | h
      · subst h; simp at ht
      · exact h
    have hq : t % k < k := Nat.mod_lt _ k0
    have hj : t / k < d.size := (Nat.div_lt_iff_lt_mul k0).2 ht
    have hr : (d.toList.map enc)[t / k]? = some (enc d[t / k]) := by simp [hj]
    have := flatten_get hsz hr hq
    rw [show t / k * k + t % k = t by rw [Nat.mul_comm]; exact Nat.div_add_mod t k] at this
    rw [this, Array.getElem?_toList, getElem?_pos _ t (by simpa using ht)]
    have e := get_flatK enc k d t ht
    rw [getElem!_pos _ t (by simpa using ht)] at e
    rw [e, getElem!_pos d _ hj, getElem?_pos _ (t % k) (by rw [hk]; exact hq), getElem!_pos _ (t % k) (by rw [hk]; exact hq)]
  · rw [List.getElem?_eq_none (by simp; omega), List.getElem?_eq_none (by rw [flatten_len hsz]; simp; omega)]
theorem Fam.facts (h : Fam enc k blk off w0 d W) : W.os = w0.os ∧ W.tape = w0.tape ∧ W.output = w0.output ∧ ∀ j, j < w0.heap.size → j ≠ blk → W.heap[j]? = w0.heap[j]? := by
  obtain ⟨q, os, rfl⟩ := h
  refine ⟨rfl, rfl, rfl, fun j hj hne => ?_⟩
  show ((w0.heap.modify blk _) ++ os)[j]? = _
  rw [Array.getElem?_append_left (by simpa using hj), Array.getElem?_modify, if_neg (Ne.symm hne)]
theorem Fam.block (h : Fam enc k blk off w0 d W) {cur : Array Value} {e : TypeId} {fz : Nat × Nat} (hc : w0.heap[blk]? = some (.cells cur e fz)) : ∃ cur', cur'.size = cur.size ∧ W.heap[blk]? = some (.cells cur' e fz) := by
  obtain ⟨q, os, rfl⟩ := h
  have hb : blk < w0.heap.size := (Array.getElem?_eq_some_iff.1 hc).1
  refine ⟨putCells id off (flatK enc k d) cur, by simp [putCells], ?_⟩
  show ((w0.heap.modify blk _) ++ os)[blk]? = _
  rw [Array.getElem?_append_left (by simpa using hb), Array.getElem?_modify, if_pos rfl, hc]
  rfl
theorem holds_of_owns (hk : ∀ x, (enc x).length = k) {base ty n cap : Nat} {xs : List Value} (ho : w0.ownsRow base ty k (.slice (some ⟨blk, 0, none⟩) n cap) n xs) (hn : n = d.size) (hx : xs = (d.toList.map enc).flatten) : HoldsK enc k w0 blk 0 d := by
  obtain ⟨_, h⟩ := ho
  rcases h with ⟨h, _⟩ | ⟨g, cap', cur, e1, hb, hh, h1, h2, h3, h4⟩
  · cases h
  · simp only [Value.slice.injEq, Option.some.injEq, Addr.mk.injEq] at e1
    obtain ⟨⟨rfl, _, _⟩, _, rfl⟩ := e1
    intro j hj
    rw [← flatK_list hk] at hx
    rw [hx] at h4
    have hj' : j < n * k := by rw [hn]; simpa using hj
    have e : cur[j]? = some (flatK enc k d)[j]! := by
      have := congrArg (fun l => l[j]?) h4
      simp only [List.getElem?_take, hj', if_true, Array.getElem?_toList] at this
      rw [this, getElem?_pos _ j hj, getElem!_pos _ j hj]
    refine ⟨?_, ?_⟩
    · simp [World.cell?, hh, e]
    · simp [World.frozen?, hh]
theorem owns_of_holds (hk : ∀ x, (enc x).length = k) {base ty n cap : Nat} {cur : Array Value} (hH : HoldsK enc k W blk 0 d) (hn : n = d.size) (hb : base ≤ blk) (hh : W.heap[blk]? = some (.cells cur ty (0, 0))) (h1 : n ≤ cap) (h2 : cap ≤ maxLen) (h3 : cur.size = cap * k) :
    W.ownsRow base ty k (.slice (some ⟨blk, 0, none⟩) n cap) n (d.toList.map enc).flatten := by
  rw [← flatK_list hk]
  refine ⟨by simp [hn], .inr ⟨blk, cap, cur, rfl, hb, hh, h1, h2, h3, ?_⟩⟩
  have hle : n * k ≤ cur.size := by rw [h3]; exact Nat.mul_le_mul_right _ h1
  apply List.ext_getElem?
  intro j
  by_cases hj : j < n * k
  · have := (hH j (by simpa [hn] using hj)).1
    simp only [World.cell?, Nat.zero_add, hh, Option.isSome_none, Bool.false_eq_true, if_false, id] at this
    rw [List.getElem?_take, if_pos hj, Array.getElem?_toList, this, Array.getElem?_toList, getElem?_pos _ j (by simpa [hn] using hj), getElem!_pos _ j (by simpa [hn] using hj)]
  · rw [List.getElem?_eq_none (by simp; omega), List.getElem?_eq_none (by simp [← hn]; omega)]
theorem Fam.owns (hk : ∀ x, (enc x).length = k) (h : Fam enc k blk 0 w0 d' W) (hs : d'.size = d.size) {base ty n cap : Nat} {xs : List Value} (hx : xs = (d.toList.map enc).flatten) (hn : n = d.size) (ho : w0.ownsRow base ty k (.slice (some ⟨blk, 0, none⟩) n cap) n xs) :
    W.ownsRow base ty k (.slice (some ⟨blk, 0, none⟩) n cap) n (d'.toList.map enc).flatten := by
  have hH := holds_of_owns hk ho hn hx
  obtain ⟨_, h0⟩ := ho
  rcases h0 with ⟨h0, _⟩ | ⟨g, cap', cur, e1, hb, hh, h1, h2, h3, h4⟩
  · cases h0
  · simp only [Value.slice.injEq, Option.some.injEq, Addr.mk.injEq] at e1
    obtain ⟨⟨rfl, _, _⟩, _, rfl⟩ := e1
    have hlt : blk < w0.heap.size := (Array.getElem?_eq_some_iff.1 hh).1
    obtain ⟨cur', c1, c2⟩ := h.block hh
    exact owns_of_holds hk (h.holds hlt hH hs) (by rw [hn, hs]) hb c2 h1 h2 (by rw [c1, h3])
end
end Go.E
namespace Go.Proofs.Ytaiepnaokhpmcaa
open Go.E
set_option maxRecDepth 100000
set_option maxHeartbeats 4000000
open Go Go.Sort Go.RowKit Go.Lib Go.Shelf Go.Proofs
def renSr : Go.Shelf.Ren := ⟨fun
  | 6 => 78 | 14 => 81 | 15 => 82 | 20 => 83 | 21 => 84 | 22 => 85
  | 23 => 86 | 24 => 87 | 25 => 88 | 26 => 89 | 27 => 90 | 28 => 91 | 29 => 92
  | 46 => 93 | 47 => 94 | 48 => 95 | 49 => 96 | 50 => 97 | 57 => 98 | n => n,
  fun | 0 => 0 | 3 => 3 | 4 => 4 | 5 => 5 | 9 => 9 | 22 => 64 | 24 => 82 | 25 => 105 | 39 => 109 | 45 => 111 | 46 => 112 | 50 => 116 | 53 => 119 | 55 => 121 | 66 => 122 | 70 => 126 | 76 => 128 | 77 => 54 | n => n,
  fun n => n⟩
theorem laysSr : Go.Proofs.SlLaysF0.n6 Try.prog renSr := {
  mixed := (by kernel_rfl),
  f6 := ⟨Try.f78.name, by decide, Try.func78.trans (congrArg some (by kernel_rfl))⟩,
  f14 := ⟨Try.f81.name, by decide, Try.func81.trans (congrArg some (by kernel_rfl))⟩,
  f15 := Try.func82.trans (congrArg some (by kernel_rfl)),
  f20 := ⟨Try.f83.name, by decide, Try.func83.trans (congrArg some (by kernel_rfl))⟩,
  f21 := ⟨Try.f84.name, by decide, Try.func84.trans (congrArg some (by kernel_rfl))⟩,
  f22 := ⟨Try.f85.name, by decide, Try.func85.trans (congrArg some (by kernel_rfl))⟩,
  f23 := ⟨Try.f86.name, by decide, Try.func86.trans (congrArg some (by kernel_rfl))⟩,
  f24 := ⟨Try.f87.name, by decide, Try.func87.trans (congrArg some (by kernel_rfl))⟩,
  f25 := ⟨Try.f88.name, by decide, Try.func88.trans (congrArg some (by kernel_rfl))⟩,
  f26 := ⟨Try.f89.name, by decide, Try.func89.trans (congrArg some (by kernel_rfl))⟩,
  f27 := ⟨Try.f90.name, by decide, Try.func90.trans (congrArg some (by kernel_rfl))⟩,
  f28 := Try.func91.trans (congrArg some (by kernel_rfl)),
  f29 := Try.func92.trans (congrArg some (by kernel_rfl)),
  f46 := ⟨Try.f93.name, by decide, Try.func93.trans (congrArg some (by kernel_rfl))⟩,
  f47 := Try.func94.trans (congrArg some (by kernel_rfl)),
  f48 := Try.func95.trans (congrArg some (by kernel_rfl)),
  f49 := ⟨Try.f96.name, by decide, Try.func96.trans (congrArg some (by kernel_rfl))⟩,
  f50 := ⟨Try.f97.name, by decide, Try.func97.trans (congrArg some (by kernel_rfl))⟩,
  f57 := ⟨Try.f98.name, by decide, Try.func98.trans (congrArg some (by kernel_rfl))⟩,
  t0 := Try.underlying0, a0 := Try.isAgg0, z0 := Try.sizeOf0, v0 := Try.zeroValue0,
  t3 := Try.underlying3, a3 := Try.isAgg3, z3 := Try.sizeOf3, v3 := Try.zeroValue3,
  t4 := Try.underlying4, a4 := Try.isAgg4, z4 := Try.sizeOf4, v4 := Try.zeroValue4,
  t5 := Try.underlying5, a5 := Try.isAgg5, z5 := Try.sizeOf5, v5 := Try.zeroValue5,
  t9 := Try.underlying9, a9 := Try.isAgg9, z9 := Try.sizeOf9, v9 := Try.zeroValue9,
  t22 := Try.underlying64, a22 := Try.isAgg64, z22 := Try.sizeOf64, v22 := Try.zeroValue64,
  t25 := Try.underlying105, a25 := Try.isAgg105, z25 := Try.sizeOf105, v25 := Try.zeroValue105,
  t39 := Try.underlying109, a39 := Try.isAgg109, z39 := Try.sizeOf109, v39 := Try.zeroValue109,
  t45 := Try.underlying111, a45 := Try.isAgg111, z45 := Try.sizeOf111, v45 := Try.zeroValue111,
  t46 := Try.underlying112, a46 := Try.isAgg112, z46 := Try.sizeOf112, v46 := Try.zeroValue112,
  t50 := Try.underlying116, a50 := Try.isAgg116, z50 := Try.sizeOf116, v50 := Try.zeroValue116,
  t53 := Try.underlying119, a53 := Try.isAgg119, z53 := Try.sizeOf119, v53 := Try.zeroValue119,
  t55 := Try.underlying121, a55 := Try.isAgg121, z55 := Try.sizeOf121, v55 := Try.zeroValue121,
  t66 := Try.underlying122, a66 := Try.isAgg122, z66 := Try.sizeOf122, v66 := Try.zeroValue122,
  t70 := Try.underlying126, a70 := Try.isAgg126, z70 := Try.sizeOf126, v70 := Try.zeroValue126,
  t76 := Try.underlying128, a76 := Try.isAgg128, z76 := Try.sizeOf128, v76 := Try.zeroValue128,
  t77 := Try.underlying54, a77 := Try.isAgg54, z77 := Try.sizeOf54, v77 := Try.zeroValue54 }
section
variable {α : Type} {encA : α → List AV}
def encW (encA : α → List AV) (x : α) : List Value := (encA x).map valA
theorem encW_flat (d : List α) : (d.map (encW encA)).flatten = ((d.map encA).flatten).map valA := by
  induction d with
  | nil => rfl
  | cons x d ih => simp only [List.map_cons, List.flatten_cons, List.map_append, ih, encW]
end
def okR (r : Run) : Prop := 1 ≤ r.lo ∧ r.lo ≤ 1000000000
instance (r : Run) : Decidable (okR r) := by unfold okR; infer_instance
def RunB : Type := {r : Run // okR r}
instance : Inhabited RunB := ⟨⟨⟨1, 1⟩, by unfold okR; decide⟩⟩
def toB (r : Run) : RunB := if h : okR r then ⟨r, h⟩ else default
def encB (r : RunB) : List AV := c82 r.1
def cfB (x y : RunB) : Int := x.1.lo - y.1.lo
theorem ltB (x y : RunB) : ltOf cfB x y = decide (x.1.lo < y.1.lo) := by
  unfold ltOf cfB
  congr 1
  exact propext ⟨fun h => by omega, fun h => by omega⟩
theorem swoB : SWO (ltOf cfB) := by
  refine ⟨fun x => ?_, fun x y z h1 h2 => ?_, fun x y z h1 h2 => ?_⟩ <;> simp only [ltB, decide_eq_true_eq, decide_eq_false_iff_not] at * <;> omega
def pdqB (l : List RunB) : List RunB := (pdq (ltOf cfB) l.toArray 0 l.toArray.size (Lib.bitLen l.toArray.size) true true).toList
def pdqR (l : List Run) : List Run := (pdqB (l.map toB)).map (·.1)
theorem toB_val {l : List Run} (h : ∀ r ∈ l, okR r) : (l.map toB).map (·.1) = l := by
  rw [List.map_map]
  conv => rhs; rw [← List.map_id l]
  refine List.map_congr_left fun r hr => ?_
  simp [toB, h r hr]
theorem pdqB_perm (l : List RunB) : (pdqB l).Perm l := by
  have h := (pdq_sorts (ltOf cfB) swoB l.toArray 0 l.toArray.size (Lib.bitLen l.toArray.size) true true (Nat.zero_le _) (Nat.le_refl _) (Or.inl rfl)).1
  obtain ⟨hsz, _, hp⟩ := h
  unfold pdqB
  generalize pdq (ltOf cfB) l.toArray 0 l.toArray.size (Lib.bitLen l.toArray.size) true true = d at hsz hp ⊢
  have e1 : d.extract 0 l.toArray.size = d := by rw [← hsz]; exact Array.extract_size
  rw [e1, Array.extract_size] at hp
  exact hp
theorem pdqR_perm {l : List Run} (h : ∀ r ∈ l, okR r) : (pdqR l).Perm l := by
  have := (pdqB_perm (l.map toB)).map (·.1)
  rw [toB_val h] at this
  exact this
theorem pdqR_rises (l : List Run) : (pdqR l).Pairwise fun x y => x.lo ≤ y.lo := by
  have h := pdq_sorts (ltOf cfB) swoB (l.map toB).toArray 0 (l.map toB).toArray.size (Lib.bitLen (l.map toB).toArray.size) true true (Nat.zero_le _) (Nat.le_refl _) (Or.inl rfl)
  have hs := h.1.1
  have h2 := h.2
  unfold pdqR pdqB
  rw [List.pairwise_map, List.pairwise_iff_getElem]
  intro i j hi hj hij
  rw [Array.length_toList] at hi hj
  have := h2 i j (Nat.zero_le _) hij (by omega)
  rw [ltB, decide_eq_false_iff_not, getElem!_pos _ j hj, getElem!_pos _ i hi] at this
  rw [Array.getElem_toList, Array.getElem_toList]
  omega
set_option maxHeartbeats 4000000 in
theorem cmpB (x y : RunB) (W : World) : Calls Try.prog 79 #[.agg (encW encB x).toArray, .agg (encW encB y).toArray] W fun e w' => e = .returned (.int .i64 (cfB x y)) ∧ ∃ q os, w' = grow (W.drewN q) os := by
  have hx := x.2
  have hy := y.2
  unfold okR at hx hy
  have wr : IntKind.i64.wrap (x.1.lo - y.1.lo) = x.1.lo - y.1.lo := by rw [IntKind.wrap_i64]; omega
  unfold cfB encW encB c82
  generalize x.1 = p at hx wr ⊢
  generalize y.1 = q at hy wr ⊢
  obtain ⟨a, b⟩ := p
  obtain ⟨c, d⟩ := q
  simp only [List.map_cons, List.map_nil, valA] at wr ⊢
  go_enter Try.func79, Try.ntmps79
  go_wp2
  go_ret
  exact ⟨rfl, 0, #[_, _], by rw [alloc_eq_grow, alloc_eq_grow, grow_grow]; rfl⟩
theorem encB_len (x : RunB) : (encW encB x).length = 2 := rfl
theorem encB_plain (x : RunB) : ∀ a ∈ encB x, plainA a = true := by
  intro a ha
  simp only [encB, c82, List.mem_cons, List.not_mem_nil, or_false] at ha
  rcases ha with rfl | rfl <;> rfl
/-- slices.SortFunc at a row of runs of one's own. -/
theorem io78 (l : List Run) (hok : ∀ r ∈ l, okR r) (hlen : l.length < 4611686018427387904) :
    IOConG Try.prog 78 79 none false 82 2 (l.map c82) ((pdqR l).map c82) := by
  have hpm := pdqR_perm hok
  have hone : ∀ x, ∀ v ∈ encW encB x, v.oneCell' = true := by
    intro x v hv
    obtain ⟨a, ha, rfl⟩ := List.mem_map.1 hv
    exact plain_one (encB_plain x a ha)
  have hpl : ∀ m : List Run, ∀ a ∈ (m.map c82).flatten, plainA a = true := by
    intro m a ha
    obtain ⟨r, hr, har⟩ := List.mem_flatten.1 ha
    obtain ⟨x, _, rfl⟩ := List.mem_map.1 hr
    simp only [c82, List.mem_cons, List.not_mem_nil, or_false] at har
    rcases har with rfl | rfl <;> rfl
  have hsz : ∀ r ∈ l.map c82, r.length = 2 := fun r hr => by obtain ⟨x, _, rfl⟩ := List.mem_map.1 hr; rfl
  have hB : (l.map toB).map encB = l.map c82 := by
    conv => rhs; rw [← toB_val hok, List.map_map]
    rfl
  have hBp : (pdqB (l.map toB)).map encB = (pdqR l).map c82 := by
    unfold pdqR
    rw [List.map_map]
    rfl
  refine ⟨⟨_, Try.func78, by kernel_rfl, by kernel_rfl⟩, by rw [List.length_map, List.length_map, hpm.length_eq], fun r hr => by obtain ⟨x, _, rfl⟩ := List.mem_map.1 hr; rfl, fun w base v cv S xs hS hb ho hx1 hxr _ => ?_⟩
  have hxs : xs = (l.map c82).flatten.map valA := by
    apply List.ext_getElem?
    intro j
    by_cases hj : j < xs.length
    · have hj' : j < (l.map c82).flatten.length := by rw [flatten_len hsz, ← ho.1]; exact hj
      rw [List.getElem?_eq_getElem hj, List.getElem?_map, List.getElem?_eq_getElem hj', Option.map_some]
      have := hxr j _ _ (List.getElem?_eq_getElem hj') (List.getElem?_eq_getElem hj)
      rw [plain_val (hpl _ _ (List.getElem_mem hj')) this]
    · rw [List.getElem?_eq_none (by omega), List.getElem?_eq_none (by rw [List.length_map, flatten_len hsz, ← ho.1]; omega)]
  rw [hxs, List.length_map] at ho
  rw [List.length_map]
  simp only [Bool.false_eq_true, if_false, ioVal]
  have hout : ∀ (w' : World), ∀ (j : Nat) (a : AV) (u : Value), ((pdqR l).map c82).flatten[j]? = some a → (((pdqR l).map c82).flatten.map valA)[j]? = some u → RelV0 S w' a u := by
    intro w' j a u ha hu
    rw [List.getElem?_map, ha, Option.map_some, Option.some.injEq] at hu
    rw [← hu]
    exact plain_rel (hpl _ a (List.mem_of_getElem? ha))
  have hout1 : ∀ u ∈ ((pdqR l).map c82).flatten.map valA, u.oneCell' = true := by
    intro u hu
    obtain ⟨x, hx, rfl⟩ := List.mem_map.1 hu
    exact plain_one (hpl _ x hx)
  rcases ho.2 with ⟨rfl, h0⟩ | ⟨b, cap, cur, rfl, hb', hh, h1, h2, h3, h4⟩
  · have : l = [] := List.eq_nil_of_length_eq_zero h0
    subst this
    refine (AnyF.slices_SortFunc_none (P := Try.prog) (ρ := renSr) laysSr none 0 _ w).mono ?_
    rintro e' w' ⟨rfl, rfl⟩
    have e0 : pdqR [] = [] := List.eq_nil_of_length_eq_zero (by rw [hpm.length_eq]; rfl)
    refine ⟨rfl, [], ⟨by simp, .inl ⟨rfl, rfl⟩⟩, fun u hu => by simp at hu, fun j a u ha hu => by simp at hu, fun j _ _ => rfl, rfl, rfl, rfl, Nat.le_refl _⟩
  · have hbl : b < w.heap.size := (Array.getElem?_eq_some_iff.1 hh).1
    have hflat : (l.map c82).flatten.map valA = ((l.map toB).map (encW encB)).flatten := by rw [← hB, ← encW_flat]
    rw [hflat] at ho
    have hHd : HoldsK (encW encB) 2 w b 0 (l.map toB).toArray := holds_of_owns encB_len ho (by simp) (by simp)
    have hw := AnyQ.slices_SortFunc_eq (P := Try.prog) (ρ := renSr) laysSr 2 (fun _ => by kernel_rfl) (fun _ => by kernel_rfl) (encW encB) encB_len hone cfB swoB 79 #[] b 0 cap (l.map toB).toArray w
      (enters_of Try.func79 (by kernel_rfl) rfl) (fun m os dk hs x y => cmpB x y _) hHd hbl (by simpa using hlen)
    have hsize : (l.map toB).toArray.size = l.length := by simp
    rw [hsize] at hw
    refine hw.mono ?_
    rintro e' w' ⟨rfl, n, os, hw'⟩
    have hF : Fam (encW encB) 2 b 0 w (pdqB (l.map toB)).toArray w' := ⟨w.drawn + n, os, by rw [hw']; unfold pdqB; rw [hsize]; rfl⟩
    have f := hF.facts
    have ow := hF.owns (d := (l.map toB).toArray) encB_len (by simpa using (pdqB_perm (l.map toB)).length_eq) (by simp) (by simp) ho
    refine ⟨rfl, ((pdqR l).map c82).flatten.map valA, ?_, hout1, hout w', fun j hj hjb => f.2.2.2 j hj (fun e => hjb (by rw [e]; rfl)), f.1, f.2.1, f.2.2.1, hF.size⟩
    have e2 : ((pdqR l).map c82).flatten.map valA = ((pdqB (l.map toB)).map (encW encB)).flatten := by rw [← hBp, ← encW_flat]
    rw [e2]
    simpa using ow
end Go.Proofs.Ytaiepnaokhpmcaa
namespace Go.Proofs.Ytaiepnaokhpmcaa
open Go.E
set_option maxRecDepth 100000
set_option maxHeartbeats 4000000
def lastR (out : List Run) : Run := out[((out.length : Int) - 1).toNat]!
def addR (out : List Run) (r : Run) : List Run :=
  if 0 < (out.length : Int) ∧ r.lo ≤ (lastR out).hi + 1 then out.set ((out.length : Int) - 1).toNat ⟨(lastR out).lo, max (lastR out).hi r.hi⟩ else out ++ [r]
theorem bang_in {α : Type} [Inhabited α] {l : List α} {i : Nat} (h : i < l.length) : l[i]! ∈ l := by
  rw [getElem!_pos l i h]
  exact List.getElem_mem h
def clipR (r : Run) : Run := ⟨max r.lo 1, min r.hi 1000000000⟩
def hiOk (out : List Run) : Prop := ∀ x ∈ out, x.hi ≤ 1000000000 ∧ 0 ≤ x.hi
theorem con52 (r : Run) : Con Try.prog 52 [.agg (c82 r)] (.tup [.agg (c82 (clipR r)), .b (decide ((clipR r).lo ≤ (clipR r).hi))]) :=
  by
  refine st_con tab_ok (by kernel_rfl) [.cell 2 82, .tmp 3] 18 Go.Proofs.Try.func52 (by kernel_rfl) (by kernel_rfl) ?_
  intro e0 cx
  refine sq ?_
  refine rg (A := True) cx [] [1, 2] [1, 2] trivial ?_
  refine sn ?_
  refine sq ?_
  refine rg (A := (AV.i IntKind.i64 (if (1 : Int) > r.lo then (1 : Int) else r.lo) = AV.i IntKind.i64 (max r.lo (1 : Int))) ∧ (AV.i IntKind.i64 (if (1000000000 : Int) < r.hi then (1000000000 : Int) else r.hi) = AV.i IntKind.i64 (min r.hi (1000000000 : Int)))) cx [(2, { tell := some (.i .i64 (max r.lo (1 : Int))) }), (5, { tell := some (.i .i64 (min r.hi (1000000000 : Int))) })] [1, 2] [1, 2] ⟨(told_max), (told_min)⟩ ?_
  refine sn ?_
  refine sq ?_
  refine ra (A := (AV.b (decide (max r.lo (1 : Int) ≤ min r.hi (1000000000 : Int))) = AV.b (decide (max r.lo (1 : Int) ≤ min r.hi (1000000000 : Int))))) cx [(5, { tell := some (.b (decide (max r.lo (1 : Int) ≤ min r.hi (1000000000 : Int)))) })] [2, 3] [2] (by kernel_rfl) ?_
  refine sn ?_
  refine st_ret (by kernel_rfl) ?_
  refine q_ret (r := .tup [.agg [.i .i64 (max r.lo (1 : Int)), .i .i64 (min r.hi (1000000000 : Int))], .b (decide (max r.lo (1 : Int) ≤ min r.hi (1000000000 : Int)))]) (obl := []) (by kernel_rfl) trivial (AVle.tup (ZLe.cons (AVle.eq (show AV.agg [AV.i IntKind.i64 (max r.lo (1 : Int)), AV.i IntKind.i64 (min r.hi (1000000000 : Int))] = AV.agg [AV.i IntKind.i64 (clipR r).lo, AV.i IntKind.i64 (clipR r).hi] from ?g1)) (ZLe.cons (AVle.eq (show AV.b (decide (max r.lo (1 : Int) ≤ min r.hi (1000000000 : Int))) = AV.b (decide ((clipR r).lo ≤ (clipR r).hi)) from ?g0)) ZLe.nil))); rotate_left 2
  case g0 => exact rfl
  case g1 => exact rfl
theorem con80 (out : List Run) (r : Run) (hh : hiOk out) (hb : (out.length + 1) * 16 ≤ 140737488351232) : ConU Try.prog 80 82 2 (out.map c82) [.agg (c82 r)] ((addR out r).map c82) :=
  by
  have hlast : 0 < (out.length : Int) → out[((out.length : Int) - 1).toNat]!.hi ≤ 1000000000 ∧ 0 ≤ out[((out.length : Int) - 1).toNat]!.hi := fun h => hh _ (bang_in (by omega))
  refine st_conU tab_ok (by kernel_rfl) (.tmp 4) 41 Go.Proofs.Try.func80 (by kernel_rfl) (by kernel_rfl) (by (with_reducible refine len_map (fun _ => ?_) _); kernel_rfl) (by (with_reducible refine len_map (fun _ => ?_) _); kernel_rfl) (plain_flat (fun _ => by kernel_rfl) _) ?_
  intro e0 cx
  refine sq ?_
  refine rg (A := True) cx [] [0, 3] [0, 3] trivial ?_
  refine sn ?_
  refine sq ?_
  refine sq ?_
  refine rg (A := _) cx [(1, { tell := some (.i .i64 ((↑out.length : Int))) })] [0, 3, 5] [0, 3] (told_len c82 out) ?_
  refine sn ?_
  refine sq ?_
  refine st_join (σ' := ⟨[(0, .own 0 0), (3, .ptr (3) (0) (0) (0)), (5, .i .i64 ((↑out.length : Int))), (21, .b (decide ((0 : Int) < (↑out.length : Int) ∧ r.lo ≤ out[((↑out.length : Int) - (1 : Int)).toNat]!.hi + (1 : Int))))], [(0, ⟨0, 82, .row 2 (List.map c82 out)⟩), (3, ⟨0, 82, .var [.i .i64 (r.lo), .i .i64 (r.hi)]⟩)]⟩) ?_ ?_
  refine st_split ((0 : Int) < (↑out.length : Int)) (fun h_1 => ?_) (fun h_1 => ?_)
  refine ra (A := _ ∧ (AV.i IntKind.i64 (IntKind.i64.wrap ((↑out.length : Int) - (1 : Int))) = AV.i IntKind.i64 ((↑out.length : Int) - (1 : Int))) ∧ ((0 : Int) ≤ (↑out.length : Int) - (1 : Int)) ∧ (((↑out.length : Int) - (1 : Int)).toNat < (List.map c82 out).length) ∧ ((2 : Nat) = 2) ∧ (E.rowAt { ver := 0, ty := 82, k := BK.row (2) (List.map c82 out) : Blk } ((↑out.length : Int) - (1 : Int)).toNat (c82 out[((↑out.length : Int) - (1 : Int)).toNat]!)) ∧ (AV.i IntKind.i64 (IntKind.i64.wrap (out[((↑out.length : Int) - (1 : Int)).toNat]!.hi + (1 : Int))) = AV.i IntKind.i64 (out[((↑out.length : Int) - (1 : Int)).toNat]!.hi + (1 : Int))) ∧ (AV.b (decide (r.lo ≤ out[((↑out.length : Int) - (1 : Int)).toNat]!.hi + (1 : Int))) = AV.b (decide (r.lo ≤ out[((↑out.length : Int) - (1 : Int)).toNat]!.hi + (1 : Int)))) ∧ (AV.b (decide (r.lo ≤ out[((↑out.length : Int) - (1 : Int)).toNat]!.hi + (1 : Int))) = AV.b (decide ((0 : Int) < (↑out.length : Int) ∧ r.lo ≤ out[((↑out.length : Int) - (1 : Int)).toNat]!.hi + (1 : Int))))) cx [(1, { tell := some (.b (true)) }), (7, { tell := some (.i .i64 ((↑out.length : Int) - (1 : Int))) }), (10, { row := (c82 out[((↑out.length : Int) - (1 : Int)).toNat]!) }), (11, { tell := some (.i .i64 (out[((↑out.length : Int) - (1 : Int)).toNat]!.hi + (1 : Int))) }), (12, { tell := some (.b (decide (r.lo ≤ out[((↑out.length : Int) - (1 : Int)).toNat]!.hi + (1 : Int)))) }), (13, { tell := some (.b (decide ((0 : Int) < (↑out.length : Int) ∧ r.lo ≤ out[((↑out.length : Int) - (1 : Int)).toNat]!.hi + (1 : Int)))) })] [0, 3, 5, 21] [0, 3] ⟨(told_true h_1), (told_i64 (by omega) (by omega)), (by omega), (by (first | omega | (simp only [List.length_map]; omega))), (by kernel_rfl), ?g0, (told_i64 ?g1 ?g2), (by kernel_rfl), (by simp only [eq_true h_1, told_simp1, told_simp2, and_true, true_and, and_false, false_and, or_true, true_or, or_false, false_or, not_true_eq_false, not_false_eq_true, decide_true, decide_false, Bool.decide_eq_true])⟩ ?_; rotate_left 3
  exact ⟨rfl, by kernel_rfl⟩
  refine ra (A := _ ∧ (AV.b false = AV.b (decide ((0 : Int) < (↑out.length : Int) ∧ r.lo ≤ out[((↑out.length : Int) - (1 : Int)).toNat]!.hi + (1 : Int))))) cx [(1, { tell := some (.b (false)) }), (13, { tell := some (.b (decide ((0 : Int) < (↑out.length : Int) ∧ r.lo ≤ out[((↑out.length : Int) - (1 : Int)).toNat]!.hi + (1 : Int)))) })] [0, 3, 5, 21] [0, 3] ⟨(told_false h_1), (by simp only [eq_false h_1, told_simp1, told_simp2, and_true, true_and, and_false, false_and, or_true, true_or, or_false, false_or, not_true_eq_false, not_false_eq_true, decide_true, decide_false, Bool.decide_eq_true])⟩ ?_
  exact ⟨rfl, by kernel_rfl⟩
  refine sn ?_
  refine st_dec ((0 : Int) < (↑out.length : Int) ∧ r.lo ≤ out[((↑out.length : Int) - (1 : Int)).toNat]!.hi + (1 : Int)) (by kernel_rfl) (by kernel_rfl) (fun h_2 => ?_) (fun h_2 => ?_)
  refine sq ?_
  refine ra (A := (AV.i IntKind.i64 (IntKind.i64.wrap ((↑out.length : Int) - (1 : Int))) = AV.i IntKind.i64 ((↑out.length : Int) - (1 : Int))) ∧ (AV.i IntKind.i64 (IntKind.i64.wrap ((↑out.length : Int) - (1 : Int))) = AV.i IntKind.i64 ((↑out.length : Int) - (1 : Int))) ∧ ((0 : Int) ≤ (↑out.length : Int) - (1 : Int)) ∧ (((↑out.length : Int) - (1 : Int)).toNat < (List.map c82 out).length) ∧ ((2 : Nat) = 2) ∧ (E.rowAt { ver := 0, ty := 82, k := BK.row (2) (List.map c82 out) : Blk } ((↑out.length : Int) - (1 : Int)).toNat (c82 out[((↑out.length : Int) - (1 : Int)).toNat]!)) ∧ (AV.i IntKind.i64 (if r.hi > out[((↑out.length : Int) - (1 : Int)).toNat]!.hi then r.hi else out[((↑out.length : Int) - (1 : Int)).toNat]!.hi) = AV.i IntKind.i64 (max out[((↑out.length : Int) - (1 : Int)).toNat]!.hi r.hi)) ∧ ((0 : Int) ≤ (↑out.length : Int) - (1 : Int)) ∧ (((↑out.length : Int) - (1 : Int)).toNat < (List.map c82 out).length) ∧ ((2 : Nat) = 2) ∧ ((List.map c82 out)[((↑out.length : Int) - (1 : Int)).toNat]? = some (c82 out[((↑out.length : Int) - (1 : Int)).toNat]!)) ∧ ((cellsA (AV.i IntKind.i64 (max out[((↑out.length : Int) - (1 : Int)).toNat]!.hi r.hi))).length = (1 : Nat)) ∧ (1 + (1 : Nat) ≤ 2) ∧ ((List.map c82 out).set ((↑out.length : Int) - (1 : Int)).toNat (List.take (1) (c82 out[((↑out.length : Int) - (1 : Int)).toNat]!) ++ cellsA (AV.i IntKind.i64 (max out[((↑out.length : Int) - (1 : Int)).toNat]!.hi r.hi)) ++ List.drop (1 + (1 : Nat)) (c82 out[((↑out.length : Int) - (1 : Int)).toNat]!)) = List.map c82 (out.set ((↑out.length : Int) - (1 : Int)).toNat { lo := out[((↑out.length : Int) - (1 : Int)).toNat]!.lo, hi := max out[((↑out.length : Int) - (1 : Int)).toNat]!.hi r.hi : Run }))) cx [(2, { tell := some (.i .i64 ((↑out.length : Int) - (1 : Int))) }), (5, { tell := some (.i .i64 ((↑out.length : Int) - (1 : Int))) }), (8, { row := (c82 out[((↑out.length : Int) - (1 : Int)).toNat]!) }), (11, { tell := some (.i .i64 (max out[((↑out.length : Int) - (1 : Int)).toNat]!.hi r.hi)) }), (14, { row := (c82 out[((↑out.length : Int) - (1 : Int)).toNat]!), rows := some (List.map c82 (out.set ((↑out.length : Int) - (1 : Int)).toNat { lo := out[((↑out.length : Int) - (1 : Int)).toNat]!.lo, hi := max out[((↑out.length : Int) - (1 : Int)).toNat]!.hi r.hi : Run })) })] [0] [0] ⟨(told_i64 (by omega) (by omega)), (told_i64 (by omega) (by omega)), (by omega), (by (first | omega | (simp only [List.length_map]; omega))), (by kernel_rfl), ?g3, (told_max), (by omega), (by (first | omega | (simp only [List.length_map]; omega))), (by kernel_rfl), (by (with_reducible refine get_map ?_; omega)), (by kernel_rfl), (by (first | omega | (simp only [List.length_map]; omega))), (by (with_reducible refine set_map ?_; kernel_rfl))⟩ ?_; rotate_left 1
  refine sn ?_
  refine sq ?_
  refine rg (A := True) cx [] [4] [0] trivial ?_
  refine sn ?_
  refine st_ret (by kernel_rfl) ?_
  refine q_seq_ret ?_
  refine qb_own (rows' := (List.map c82 (out.set ((↑out.length : Int) - (1 : Int)).toNat { lo := out[((↑out.length : Int) - (1 : Int)).toNat]!.lo, hi := max out[((↑out.length : Int) - (1 : Int)).toNat]!.hi r.hi : Run }))) .ret (.inr rfl) 4 0 0 (by kernel_rfl) (by kernel_rfl) (by kernel_rfl) ?g4; rotate_left 1
  refine st_skip (by kernel_rfl) ?_
  refine sn ?_
  refine sq ?_
  refine rg (A := (82 = (82 : Nat)) ∧ ((2 : Nat) = 2) ∧ ([AV.i IntKind.i64 (0 : Int), AV.i IntKind.i64 (0 : Int)].length = (2 : Nat)) ∧ (∀ (r_1 : List AV), r_1 ∈ List.map c82 [r] → r_1.length = 2) ∧ ((List.map c82 out).length + (List.map c82 [r]).length ≤ maxLen) ∧ (((List.map c82 out).length + (List.map c82 [r]).length) * (16 : Nat) ≤ (140737488355328 : Nat)) ∧ (List.map c82 out ++ List.map c82 [r] = List.map c82 (out ++ [r]))) cx [(3, { rows := some (List.map c82 (out ++ [r])) })] [4] [0] ⟨(by kernel_rfl), (by kernel_rfl), (by kernel_rfl), (by (with_reducible refine len_map (fun _ => ?_) _; kernel_rfl)), (by (simp only [Go.maxLen, List.length_map, List.length_append, List.length_cons, List.length_nil]; omega)), (by (simp only [Go.maxLen, List.length_map, List.length_append, List.length_cons, List.length_nil]; omega)), (by (with_reducible refine app_map ?_; kernel_rfl))⟩ ?_
  refine sn ?_
  refine st_ret (by kernel_rfl) ?_
  refine qb_own (rows' := (List.map c82 (out ++ [r]))) .ret (.inr rfl) 4 0 0 (by kernel_rfl) (by kernel_rfl) (by kernel_rfl) ?g5; rotate_left 1
  revert h_1; rotate_left
  revert h_1; rotate_left
  revert h_1; rotate_left
  revert h_2; rotate_left
  revert h_2; rotate_left
  revert h_2; rotate_left
  case g0 => intro h; exact get_map (by omega)
  case g1 => intro h; have := hlast h; omega
  case g2 => intro h; have := hlast h; omega
  case g3 => intro h; exact get_map (by omega)
  case g4 => intro h; unfold addR lastR; rw [if_pos h]
  case g5 => intro h; unfold addR lastR; rw [if_neg h]
end Go.Proofs.Ytaiepnaokhpmcaa
namespace Go.Proofs.Ytaiepnaokhpmcaa
open Go.E
set_option maxRecDepth 100000
set_option maxHeartbeats 4000000
def c64 (l : List Run) : List AV := [.sl (l.map c82)]
def keepR (l : List Run) : List Run := (l.map clipR).filter (fun r => decide (r.lo ≤ r.hi))
def foldR (l : List Run) : List Run := l.foldl addR []
def unR (ss : List (List Run)) : List Run := foldR (pdqR (keepR ss.flatten))
def isKept (ss : List (List Run)) (i : Int) (all : List Run) : Prop := all = keepR (ss.take i.toNat).flatten
def isKept2 (ss : List (List Run)) (i j : Int) (all : List Run) : Prop := all = keepR ((ss.take i.toNat).flatten ++ (ss[i.toNat]!).take j.toNat)
def isFold (l : List Run) (i : Int) (out : List Run) : Prop := out = foldR (l.take i.toNat)
def inv133a (ss : List (List Run)) (i : Int) (all : List Run) : Prop := 0 ≤ i ∧ i ≤ ss.length ∧ isKept ss i all
def dec133a (ss : List (List Run)) (i : Int) (all : List Run) : Nat := (ss.length - i).toNat
def inv133b (ss : List (List Run)) (i : Int) (j : Int) (all : List Run) : Prop := 0 ≤ j ∧ j ≤ (ss[i.toNat]!).length ∧ isKept2 ss i j all
def dec133b (ss : List (List Run)) (i : Int) (j : Int) (all : List Run) : Nat := ((ss[i.toNat]!).length - j).toNat
def inv133c (s : List Run) (i : Int) (l out : List Run) : Prop := l = s ∧ 0 ≤ i ∧ i ≤ l.length ∧ (out.length : Int) ≤ i ∧ hiOk out ∧ isFold l i out
def dec133c (s : List Run) (i : Int) (l out : List Run) : Nat := (s.length - i).toNat
theorem keepR_app (a b : List Run) : keepR (a ++ b) = keepR a ++ keepR b := by simp [keepR]
theorem keepR_len (l : List Run) : (keepR l).length ≤ l.length := by
  unfold keepR
  exact Nat.le_trans (List.length_filter_le _ _) (by simp)
def good1 (r : Run) : Prop := okR r ∧ r.lo ≤ r.hi ∧ r.hi ≤ 1000000000
theorem keep_good {l : List Run} : ∀ r ∈ keepR l, good1 r := by
  intro r hr
  unfold keepR at hr
  obtain ⟨h1, h2⟩ := List.mem_filter.1 hr
  obtain ⟨x, _, rfl⟩ := List.mem_map.1 h1
  simp only [decide_eq_true_eq] at h2
  unfold good1 okR
  simp only [clipR] at *
  omega
theorem flatR_le {α : Type} (ss : List (List α)) (i : Nat) : (ss.take i).flatten.length ≤ ss.flatten.length := by
  have h : (ss.take i).flatten ++ (ss.drop i).flatten = ss.flatten := by rw [← List.flatten_append, List.take_append_drop]
  rw [← h, List.length_append]
  omega
theorem flatR_step {α : Type} {ss : List (List α)} {i : Int} (h0 : 0 ≤ i) (h : i < ss.length) : (ss.take (i + 1).toNat).flatten = (ss.take i.toNat).flatten ++ ss[i.toNat]! := by
  rw [← take_step h0 h, List.flatten_append]
  simp
theorem part_le {α : Type} {ss : List (List α)} {i : Int} (j : Nat) (h0 : 0 ≤ i) (h : i < ss.length) : ((ss.take i.toNat).flatten ++ (ss[i.toNat]!).take j).length ≤ ss.flatten.length := by
  have h1 := flatR_le ss (i + 1).toNat
  rw [flatR_step h0 h, List.length_append] at h1
  rw [List.length_append, List.length_take]
  omega
theorem kept2_len {ss : List (List Run)} {i j : Int} {all : List Run} (h0 : 0 ≤ i) (h : i < ss.length) (hk : isKept2 ss i j all) : all.length ≤ ((ss.take i.toNat).flatten ++ (ss[i.toNat]!).take j.toNat).length := by
  unfold isKept2 at hk
  rw [hk]
  exact keepR_len _
theorem keepR_one (r : Run) : keepR [r] = if (clipR r).lo ≤ (clipR r).hi then [clipR r] else [] := by
  unfold keepR
  by_cases h : (clipR r).lo ≤ (clipR r).hi <;> simp [List.filter_cons, h]
theorem kept2_next {ss : List (List Run)} {i j : Int} {all : List Run} (j0 : 0 ≤ j) (jl : j < (ss[i.toNat]!).length) (hk : isKept2 ss i j all) :
    isKept2 ss i (j + 1) (if (clipR (ss[i.toNat]!)[j.toNat]!).lo ≤ (clipR (ss[i.toNat]!)[j.toNat]!).hi then all ++ [clipR (ss[i.toNat]!)[j.toNat]!] else all) := by
  unfold isKept2 at *
  rw [← take_step j0 jl, ← List.append_assoc, keepR_app, ← hk]
  by_cases h : (clipR (ss[i.toNat]!)[j.toNat]!).lo ≤ (clipR (ss[i.toNat]!)[j.toNat]!).hi
  · rw [if_pos h, keepR_one, if_pos h]
  · rw [if_neg h, keepR_one, if_neg h, List.append_nil]
theorem kept2_room {ss : List (List Run)} {i j : Int} {all : List Run} (hb : ss.flatten.length * 16 ≤ 140737488351232) (h0 : 0 ≤ i) (h : i < ss.length) (j0 : 0 ≤ j) (jl : j < (ss[i.toNat]!).length) (hk : isKept2 ss i j all) : (all.length + 1) * 16 ≤ 140737488351232 ∧ j + 1 ≤ 9223372036854775807 := by
  have h1 := kept2_len h0 h hk
  have h2 := part_le (j + 1).toNat h0 h
  have h3 := part_le (ss[i.toNat]!).length h0 h
  rw [List.length_append, List.length_take] at h1 h2 h3
  omega
theorem kept_start {ss : List (List Run)} {i : Int} {all : List Run} (hk : isKept ss i all) : isKept2 ss i 0 all := by
  unfold isKept isKept2 at *
  simpa using hk
theorem kept_next {ss : List (List Run)} {i j : Int} {all : List Run} (h0 : 0 ≤ i) (h : i < ss.length) (jl : ¬ j < (ss[i.toNat]!).length) (hk : isKept2 ss i j all) : isKept ss (i + 1) all := by
  unfold isKept isKept2 at *
  rw [flatR_step h0 h, hk, List.take_of_length_le (l := ss[i.toNat]!) (by omega)]
theorem kept_end {ss : List (List Run)} {i : Int} {all : List Run} (h : ¬ i < ss.length) (hk : isKept ss i all) : all = keepR ss.flatten := by
  unfold isKept at hk
  rw [hk, List.take_of_length_le (by omega)]
theorem addR_len (out : List Run) (r : Run) : (addR out r).length ≤ out.length + 1 := by
  unfold addR
  split <;> simp
theorem addR_hi {out : List Run} {r : Run} (h : hiOk out) (h1 : r.hi ≤ 1000000000 ∧ 0 ≤ r.hi) : hiOk (addR out r) := by
  unfold addR
  split
  · rename_i hc
    intro x hx
    rcases List.mem_or_eq_of_mem_set hx with hx | rfl
    · exact h x hx
    · have := h _ (bang_in (l := out) (i := ((out.length : Int) - 1).toNat) (by omega))
      unfold lastR
      simp only
      omega
  · intro x hx
    rcases List.mem_append.1 hx with hx | hx
    · exact h x hx
    · have : x = r := by simpa using hx
      subst this
      exact h1
theorem fold_next {l out : List Run} {i : Int} (h0 : 0 ≤ i) (h : i < l.length) (hf : isFold l i out) : isFold l (i + 1) (addR out l[i.toNat]!) := by
  unfold isFold foldR at *
  rw [← take_step h0 h, List.foldl_append, ← hf]
  rfl
theorem sorted_good {l : List Run} (hl : ∀ r ∈ l, good1 r) : ∀ r ∈ pdqR l, good1 r := fun r hr => hl r ((pdqR_perm fun r hr => (hl r hr).1).subset hr)
theorem con75 (ss : List (List Run)) (hb : ss.flatten.length * 16 ≤ 140737488351232) : ConB Try.prog 75 [.sl (ss.map c64)] 82 (.row 2 ((unR ss).map c82)) :=
  by
  refine conB_lens 0 (c64) (ss) (by kernel_rfl) Go.Proofs.Try.func75 (by kernel_rfl) fun hl_0 => ?_
  refine st_conB tab_ok (by kernel_rfl) (.tmp 2) 50 Go.Proofs.Try.func75 (by kernel_rfl) (by kernel_rfl) ?_
  intro e0 cx
  refine sq ?_
  refine rg (A := True) cx [] [0] [] trivial ?_
  refine sn ?_
  refine sq ?_
  refine rg (A := True) cx [] [0, 3] [] trivial ?_
  refine sn ?_
  refine sq ?_
  refine sq ?_
  refine rg (A := _) cx [(1, { tell := some (.i .i64 ((↑ss.length : Int))) })] [3, 13, 14, 15] [] (told_len c64 ss) ?_
  refine sn ?_
  refine st_block 0 (by kernel_rfl) ?_
  refine awp_adopt 3 1003 82 2 (σ' := ⟨[(3, .own 1003 0), (13, .sl (List.map c64 ss)), (14, .i .i64 ((↑ss.length : Int))), (15, .i .i64 ((0 : Int)))], [(1003, ⟨0, 82, .row 2 (List.map c82 [])⟩)]⟩) (by kernel_rfl) ?_
  refine st_loop (X := Int × List Run) (fun x => ⟨[(3, .own 1003 0), (13, .sl (List.map c64 ss)), (14, .i .i64 ((↑ss.length : Int))), (15, .i .i64 (x.fst))], [(1003, ⟨0, 82, .row 2 (List.map c82 x.snd)⟩)]⟩) (fun x ↦ dec133a ss x.fst x.snd) (fun x ↦ inv133a ss x.fst x.snd) [3, 13, 14, 15] [1003] (((0 : Int), [])) (by kernel_rfl) (by kernel_rfl) (show inv133a ss (0 : Int) [] from ?g0) ?_; rotate_left 1
  rintro ⟨i_0, all_1⟩ h_2
  obtain ⟨h_3, h_4, h_5⟩ : (0 : Int) ≤ i_0 ∧ i_0 ≤ (↑ss.length : Int) ∧ isKept ss i_0 all_1 := h_2
  refine sq ?_
  refine rg (A := (AV.b (decide (i_0 < (↑ss.length : Int))) = AV.b (decide (i_0 < (↑ss.length : Int))))) cx [(0, { tell := some (.b (decide (i_0 < (↑ss.length : Int)))) })] [3, 13, 14, 15, 16] [1003] (by kernel_rfl) ?_
  refine sn ?_
  refine sq ?_
  refine st_dec (i_0 < (↑ss.length : Int)) (by kernel_rfl) (by kernel_rfl) (fun h_6 => ?_) (fun h_6 => ?_)
  refine st_skip (by kernel_rfl) ?_
  refine sn ?_
  refine sq ?_
  refine st_block 1 (by kernel_rfl) ?_
  refine sq ?_
  refine rg (A := ((0 : Int) ≤ i_0) ∧ ((List.map c64 ss)[i_0.toNat]? = some (c64 ss[i_0.toNat]!)) ∧ ((c64 ss[i_0.toNat]!).length = (1 : Nat))) cx [(0, { row := (c64 ss[i_0.toNat]!) })] [3, 13, 14, 15, 5] [1003] ⟨(by (with_reducible assumption)), (by (with_reducible refine get_map ?_; omega)), (by kernel_rfl)⟩ ?_
  refine sn ?_
  refine sq ?_
  refine rg (A := _) cx [(1, { tell := some (.i .i64 ((↑ss[i_0.toNat]!.length : Int))) })] [3, 13, 14, 15, 19, 20, 21] [1003] (told_len c82 ss[i_0.toNat]!) ?_
  refine sn ?_
  refine st_block 2 (by kernel_rfl) ?_
  refine st_loop (X := Int × List Run) (fun x => ⟨[(3, .own 1003 0), (13, .sl (List.map c64 ss)), (14, .i .i64 ((↑ss.length : Int))), (15, .i .i64 (i_0)), (19, .sl (List.map c82 ss[i_0.toNat]!)), (20, .i .i64 ((↑ss[i_0.toNat]!.length : Int))), (21, .i .i64 (x.fst))], [(1003, ⟨0, 82, .row 2 (List.map c82 x.snd)⟩)]⟩) (fun x ↦ dec133b ss i_0 x.fst x.snd) (fun x ↦ inv133b ss i_0 x.fst x.snd) [3, 13, 14, 15, 19, 20, 21] [1003] (((0 : Int), all_1)) (by kernel_rfl) (by kernel_rfl) (show inv133b ss i_0 (0 : Int) all_1 from ?g1) ?_; rotate_left 1
  rintro ⟨j_7, all_8⟩ h_9
  obtain ⟨h_10, h_11, h_12⟩ : (0 : Int) ≤ j_7 ∧ j_7 ≤ (↑ss[i_0.toNat]!.length : Int) ∧ isKept2 ss i_0 j_7 all_8 := h_9
  refine sq ?_
  refine rg (A := (AV.b (decide (j_7 < (↑ss[i_0.toNat]!.length : Int))) = AV.b (decide (j_7 < (↑ss[i_0.toNat]!.length : Int))))) cx [(0, { tell := some (.b (decide (j_7 < (↑ss[i_0.toNat]!.length : Int)))) })] [3, 13, 14, 15, 19, 20, 21, 22] [1003] (by kernel_rfl) ?_
  refine sn ?_
  refine sq ?_
  refine st_dec (j_7 < (↑ss[i_0.toNat]!.length : Int)) (by kernel_rfl) (by kernel_rfl) (fun h_13 => ?_) (fun h_13 => ?_)
  refine st_skip (by kernel_rfl) ?_
  refine sn ?_
  refine sq ?_
  refine st_block 3 (by kernel_rfl) ?_
  refine sq ?_
  refine rg (A := ((0 : Int) ≤ j_7) ∧ ((List.map c82 ss[i_0.toNat]!)[j_7.toNat]? = some (c82 ss[i_0.toNat]![j_7.toNat]!)) ∧ ((c82 ss[i_0.toNat]![j_7.toNat]!).length = (2 : Nat)) ∧ ((2 : Nat) ≤ [AV.i IntKind.i64 ss[i_0.toNat]![j_7.toNat]!.lo, AV.i IntKind.i64 ss[i_0.toNat]![j_7.toNat]!.hi].length)) cx [(0, { row := (c82 ss[i_0.toNat]![j_7.toNat]!) })] [3, 13, 14, 15, 19, 20, 21, 7] [1003, 7] ⟨(by (with_reducible assumption)), (by (with_reducible refine get_map ?_; omega)), (by kernel_rfl), (by (simp only [List.length_append, List.length_cons, List.length_nil]; omega))⟩ ?_
  refine sn ?_
  refine sq ?_
  refine rg (A := _) cx [(1, { val := some (resC (con52 (ss[i_0.toNat]![j_7.toNat]!))) })] [3, 13, 14, 15, 19, 20, 21, 8, 9] [1003, 8] (con52 (ss[i_0.toNat]![j_7.toNat]!)) ?_
  refine sn ?_
  refine sq ?_
  refine rg (A := True) cx [] [3, 13, 14, 15, 19, 20, 21, 8, 30] [1003, 8] trivial ?_
  refine sn ?_
  refine st_dec ((clipR ss[i_0.toNat]![j_7.toNat]!).lo ≤ (clipR ss[i_0.toNat]![j_7.toNat]!).hi) (by kernel_rfl) (by kernel_rfl) (fun h_14 => ?_) (fun h_14 => ?_)
  refine rg (A := (82 = (82 : Nat)) ∧ ((2 : Nat) = 2) ∧ ([AV.i IntKind.i64 (0 : Int), AV.i IntKind.i64 (0 : Int)].length = (2 : Nat)) ∧ (∀ (r : List AV), r ∈ List.map c82 [clipR ss[i_0.toNat]![j_7.toNat]!] → r.length = 2) ∧ ((List.map c82 all_8).length + (List.map c82 [clipR ss[i_0.toNat]![j_7.toNat]!]).length ≤ maxLen) ∧ (((List.map c82 all_8).length + (List.map c82 [clipR ss[i_0.toNat]![j_7.toNat]!]).length) * (16 : Nat) ≤ (140737488355328 : Nat)) ∧ (List.map c82 all_8 ++ List.map c82 [clipR ss[i_0.toNat]![j_7.toNat]!] = List.map c82 (all_8 ++ [clipR ss[i_0.toNat]![j_7.toNat]!]))) cx [(3, { rows := some (List.map c82 (all_8 ++ [clipR ss[i_0.toNat]![j_7.toNat]!])) })] [3, 13, 14, 15, 19, 20, 21] [1003] ⟨(by kernel_rfl), (by kernel_rfl), (by kernel_rfl), (by (with_reducible refine len_map (fun _ => ?_) _; kernel_rfl)), ?g2, ?g3, (by (with_reducible refine app_map ?_; kernel_rfl))⟩ ?_; rotate_left 2
  refine q_blk_normal ?_
  refine sn ?_
  refine rg (A := (AV.i IntKind.i64 (IntKind.i64.wrap (j_7 + (1 : Int))) = AV.i IntKind.i64 (j_7 + (1 : Int)))) cx [(0, { tell := some (.i .i64 (j_7 + (1 : Int))) })] [3, 13, 14, 15, 19, 20, 21] [1003] (told_i64 (by omega) ?g4) ?_; rotate_left 1
  refine sn ?_
  refine loop_next ((j_7 + (1 : Int), all_8 ++ [clipR ss[i_0.toNat]![j_7.toNat]!])) (by kernel_rfl) (show ((↑ss[i_0.toNat]!.length : Int) - (j_7 + (1 : Int))).toNat < ((↑ss[i_0.toNat]!.length : Int) - j_7).toNat from (by omega)) (show inv133b ss i_0 (j_7 + (1 : Int)) (all_8 ++ [clipR ss[i_0.toNat]![j_7.toNat]!]) from ?g5); rotate_left 1
  refine st_skip (by kernel_rfl) ?_
  refine q_blk_normal ?_
  refine sn ?_
  refine rg (A := (AV.i IntKind.i64 (IntKind.i64.wrap (j_7 + (1 : Int))) = AV.i IntKind.i64 (j_7 + (1 : Int)))) cx [(0, { tell := some (.i .i64 (j_7 + (1 : Int))) })] [3, 13, 14, 15, 19, 20, 21] [1003] (told_i64 (by omega) ?g6) ?_; rotate_left 1
  refine sn ?_
  refine loop_next ((j_7 + (1 : Int), all_8)) (by kernel_rfl) (show ((↑ss[i_0.toNat]!.length : Int) - (j_7 + (1 : Int))).toNat < ((↑ss[i_0.toNat]!.length : Int) - j_7).toNat from (by omega)) (show inv133b ss i_0 (j_7 + (1 : Int)) all_8 from ?g7); rotate_left 1
  refine st_exit 2 (by kernel_rfl) ?_
  refine q_seq_exit ?_
  refine q_seq_exit ?_
  refine q_blk_hit ?_
  refine q_blk_normal ?_
  refine sn ?_
  refine rg (A := (AV.i IntKind.i64 (IntKind.i64.wrap (i_0 + (1 : Int))) = AV.i IntKind.i64 (i_0 + (1 : Int)))) cx [(0, { tell := some (.i .i64 (i_0 + (1 : Int))) })] [3, 13, 14, 15] [1003] (told_i64 (by omega) (by omega)) ?_
  refine sn ?_
  refine loop_next ((i_0 + (1 : Int), all_8)) (by kernel_rfl) (show ((↑ss.length : Int) - (i_0 + (1 : Int))).toNat < ((↑ss.length : Int) - i_0).toNat from (by omega)) (show inv133a ss (i_0 + (1 : Int)) all_8 from ?g8); rotate_left 1
  refine st_exit 0 (by kernel_rfl) ?_
  refine q_seq_exit ?_
  refine q_seq_exit ?_
  refine q_blk_hit ?_
  refine sn ?_
  refine sq ?_
  refine rg (A := (IOConG Try.prog (78 : FuncId) (79 : FuncId) none false (82 : Nat) (2 : Nat) (List.map c82 all_1) (List.map c82 (pdqR all_1)))) cx [(1, { rows := some (List.map c82 (pdqR all_1)) })] [3] [1003] (io78 (all_1) ?g9 ?g10) ?_; rotate_left 2
  refine sn ?_
  refine sq ?_
  refine rg (A := True) cx [] [3, 10] [1003] trivial ?_
  refine sn ?_
  refine sq ?_
  refine sq ?_
  refine rg (A := _) cx [(1, { tell := some (.i .i64 ((↑(pdqR all_1).length : Int))) })] [10, 39, 40, 41] [1003] (told_len c82 (pdqR all_1)) ?_
  refine sn ?_
  refine st_block 4 (by kernel_rfl) ?_
  refine awp_adopt 10 1010 82 2 (σ' := ⟨[(10, .own 1010 0), (39, .own 1003 0), (40, .i .i64 ((↑(pdqR all_1).length : Int))), (41, .i .i64 ((0 : Int)))], [(1003, ⟨0, 82, .row 2 (List.map c82 (pdqR all_1))⟩), (1010, ⟨0, 82, .row 2 (List.map c82 [])⟩)]⟩) (by kernel_rfl) ?_
  refine st_loop (X := Int × List Run × List Run) (fun x => ⟨[(10, .own 1010 0), (39, .own 1003 0), (40, .i .i64 ((↑(pdqR all_1).length : Int))), (41, .i .i64 (x.fst))], [(1003, ⟨0, 82, .row 2 (List.map c82 x.snd.fst)⟩), (1010, ⟨0, 82, .row 2 (List.map c82 x.snd.snd)⟩)]⟩) (fun x ↦ dec133c (pdqR all_1) x.fst x.snd.fst x.snd.snd) (fun x ↦ inv133c (pdqR all_1) x.fst x.snd.fst x.snd.snd) [10, 39, 40, 41] [1003, 1010] (((0 : Int), pdqR all_1, [])) (by kernel_rfl) (by kernel_rfl) (show inv133c (pdqR all_1) (0 : Int) (pdqR all_1) [] from ?g11) ?_; rotate_left 1
  rintro ⟨i_15, l_16, out_17⟩ h_18
  obtain ⟨h_19, h_20, h_21, h_22, h_23, h_24⟩ : l_16 = pdqR all_1 ∧ (0 : Int) ≤ i_15 ∧ i_15 ≤ (↑l_16.length : Int) ∧ (↑out_17.length : Int) ≤ i_15 ∧ hiOk out_17 ∧ isFold l_16 i_15 out_17 := h_18
  refine sq ?_
  refine rg (A := (AV.b (decide (i_15 < (↑(pdqR all_1).length : Int))) = AV.b (decide (i_15 < (↑(pdqR all_1).length : Int))))) cx [(0, { tell := some (.b (decide (i_15 < (↑(pdqR all_1).length : Int)))) })] [10, 39, 40, 41, 42] [1003, 1010] (by kernel_rfl) ?_
  refine sn ?_
  refine sq ?_
  refine st_dec (i_15 < (↑(pdqR all_1).length : Int)) (by kernel_rfl) (by kernel_rfl) (fun h_25 => ?_) (fun h_25 => ?_)
  refine st_skip (by kernel_rfl) ?_
  refine sn ?_
  refine sq ?_
  refine st_block 5 (by kernel_rfl) ?_
  refine sq ?_
  refine rg (A := ((0 : Int) ≤ i_15) ∧ (i_15.toNat < (List.map c82 l_16).length) ∧ ((2 : Nat) = 2) ∧ (E.rowAt { ver := 0, ty := 82, k := BK.row (2) (List.map c82 l_16) : Blk } i_15.toNat (c82 l_16[i_15.toNat]!)) ∧ (0 + (2 : Nat) ≤ (c82 l_16[i_15.toNat]!).length)) cx [(1, { row := (c82 l_16[i_15.toNat]!) })] [10, 39, 40, 41, 12] [1003, 1010, 12] ⟨(by (with_reducible assumption)), ?g12, (by kernel_rfl), ?g13, ?g14⟩ ?_; rotate_left 3
  refine sn ?_
  refine rg (A := _) cx [(2, { val := some (.vw (0) (0) (0) (0)), rows := some (List.map c82 (addR out_17 l_16[i_15.toNat]!)) })] [10, 39, 40, 41] [1003, 1010] (con80 (out_17) (l_16[i_15.toNat]!) (by (with_reducible assumption)) ?g15) ?_; rotate_left 1
  refine q_blk_normal ?_
  refine sn ?_
  refine rg (A := (AV.i IntKind.i64 (IntKind.i64.wrap (i_15 + (1 : Int))) = AV.i IntKind.i64 (i_15 + (1 : Int)))) cx [(0, { tell := some (.i .i64 (i_15 + (1 : Int))) })] [10, 39, 40, 41] [1003, 1010] (told_i64 (by omega) ?g16) ?_; rotate_left 1
  refine sn ?_
  refine loop_next ((i_15 + (1 : Int), l_16, addR out_17 l_16[i_15.toNat]!)) (by kernel_rfl) (show ((↑(pdqR all_1).length : Int) - (i_15 + (1 : Int))).toNat < ((↑(pdqR all_1).length : Int) - i_15).toNat from (by omega)) (show inv133c (pdqR all_1) (i_15 + (1 : Int)) l_16 (addR out_17 l_16[i_15.toNat]!) from ?g17); rotate_left 1
  refine st_exit 4 (by kernel_rfl) ?_
  refine q_seq_exit ?_
  refine q_seq_exit ?_
  refine q_blk_hit ?_
  refine sn ?_
  refine sq ?_
  refine rg (A := True) cx [] [2] [1010] trivial ?_
  refine sn ?_
  refine st_ret (by kernel_rfl) ?_
  refine qb_own (rows' := (List.map c82 out_17)) .ret (.inr rfl) 2 1010 0 (by kernel_rfl) (by kernel_rfl) (by kernel_rfl) ?g18; rotate_left 1
  rotate_left
  revert i_0 all_1 h_3 h_4 h_5 h_6; rotate_left
  revert i_0 all_1 h_3 h_4 h_5 h_6 j_7 all_8 h_10 h_11 h_12 h_13 h_14; rotate_left
  revert i_0 all_1 h_3 h_4 h_5 h_6 j_7 all_8 h_10 h_11 h_12 h_13 h_14; rotate_left
  revert i_0 all_1 h_3 h_4 h_5 h_6 j_7 all_8 h_10 h_11 h_12 h_13 h_14; rotate_left
  revert i_0 all_1 h_3 h_4 h_5 h_6 j_7 all_8 h_10 h_11 h_12 h_13 h_14; rotate_left
  revert i_0 all_1 h_3 h_4 h_5 h_6 j_7 all_8 h_10 h_11 h_12 h_13 h_14; rotate_left
  revert i_0 all_1 h_3 h_4 h_5 h_6 j_7 all_8 h_10 h_11 h_12 h_13 h_14; rotate_left
  revert i_0 all_1 h_3 h_4 h_5 h_6 j_7 all_8 h_10 h_11 h_12 h_13; rotate_left
  revert i_0 all_1 h_3 h_4 h_5 h_6; rotate_left
  revert i_0 all_1 h_3 h_4 h_5 h_6; rotate_left
  revert i_0 all_1 h_3 h_4 h_5 h_6; rotate_left
  revert i_0 all_1 h_3 h_4 h_5 h_6 i_15 l_16 out_17 h_19 h_20 h_21 h_22 h_23 h_24 h_25; rotate_left
  revert i_0 all_1 h_3 h_4 h_5 h_6 i_15 l_16 out_17 h_19 h_20 h_21 h_22 h_23 h_24 h_25; rotate_left
  revert i_0 all_1 h_3 h_4 h_5 h_6 i_15 l_16 out_17 h_19 h_20 h_21 h_22 h_23 h_24 h_25; rotate_left
  revert i_0 all_1 h_3 h_4 h_5 h_6 i_15 l_16 out_17 h_19 h_20 h_21 h_22 h_23 h_24 h_25; rotate_left
  revert i_0 all_1 h_3 h_4 h_5 h_6 i_15 l_16 out_17 h_19 h_20 h_21 h_22 h_23 h_24 h_25; rotate_left
  revert i_0 all_1 h_3 h_4 h_5 h_6 i_15 l_16 out_17 h_19 h_20 h_21 h_22 h_23 h_24 h_25; rotate_left
  revert i_0 all_1 h_3 h_4 h_5 h_6 i_15 l_16 out_17 h_19 h_20 h_21 h_22 h_23 h_24 h_25; rotate_left
  case g0 => exact ⟨by omega, by omega, rfl⟩
  case g1 => intro i a h0 h1 h2 h3; exact ⟨by omega, by omega, kept_start h2⟩
  case g2 => intro i a h0 h1 h2 h3 j b k0 k1 k2 k3 k4; have := kept2_room hb h0 h3 k0 k3 k2; simp only [List.length_map, List.length_cons, List.length_nil, Go.maxLen]; omega
  case g3 => intro i a h0 h1 h2 h3 j b k0 k1 k2 k3 k4; have := kept2_room hb h0 h3 k0 k3 k2; simp only [List.length_map, List.length_cons, List.length_nil]; omega
  case g4 => intro i a h0 h1 h2 h3 j b k0 k1 k2 k3 k4; exact (kept2_room hb h0 h3 k0 k3 k2).2
  case g5 => intro i a h0 h1 h2 h3 j b k0 k1 k2 k3 k4; have := kept2_next k0 k3 k2; rw [if_pos k4] at this; exact ⟨by omega, by omega, this⟩
  case g6 => intro i a h0 h1 h2 h3 j b k0 k1 k2 k3 k4; exact (kept2_room hb h0 h3 k0 k3 k2).2
  case g7 => intro i a h0 h1 h2 h3 j b k0 k1 k2 k3 k4; have := kept2_next k0 k3 k2; rw [if_neg k4] at this; exact ⟨by omega, by omega, this⟩
  case g8 => intro i a h0 h1 h2 h3 j b k0 k1 k2 k3; exact ⟨by omega, by omega, kept_next h0 h3 k3 k2⟩
  case g9 => intro i a h0 h1 h2 h3 r hr; rw [kept_end h3 h2] at hr; exact (keep_good r hr).1
  case g10 => intro i a h0 h1 h2 h3; rw [kept_end h3 h2]; have := keepR_len ss.flatten; omega
  case g11 => intro i a h0 h1 h2 h3; exact ⟨rfl, by omega, by omega, by simp, fun x hx => by simp at hx, rfl⟩
  case g12 => intro i a h0 h1 h2 h3 j l o k0 k1 k2 k3 k4 k5 k6; subst k0; simp only [List.length_map]; omega
  case g13 => intro i a h0 h1 h2 h3 j l o k0 k1 k2 k3 k4 k5 k6; subst k0; exact get_map (by omega)
  case g14 => intros; exact Nat.le_of_ble_eq_true rfl
  case g15 =>
    intro i a h0 h1 h2 h3 j l o k0 k1 k2 k3 k4 k5 k6
    subst k0
    have e := kept_end h3 h2
    have hg : ∀ r ∈ a, okR r := fun r hr => by rw [e] at hr; exact (keep_good r hr).1
    have := (pdqR_perm hg).length_eq
    have h5 := keepR_len ss.flatten
    rw [← e] at h5
    omega
  case g16 =>
    intro i a h0 h1 h2 h3 j l o k0 k1 k2 k3 k4 k5 k6
    subst k0
    have e := kept_end h3 h2
    have hg : ∀ r ∈ a, okR r := fun r hr => by rw [e] at hr; exact (keep_good r hr).1
    have := (pdqR_perm hg).length_eq
    have h5 := keepR_len ss.flatten
    rw [← e] at h5
    omega
  case g17 =>
    intro i a h0 h1 h2 h3 j l o k0 k1 k2 k3 k4 k5 k6
    subst k0
    have e := kept_end h3 h2
    have hg : ∀ r ∈ a, good1 r := fun r hr => by rw [e] at hr; exact keep_good r hr
    have hr := sorted_good hg _ (bang_in (l := pdqR a) (i := j.toNat) (by omega))
    have hlo := addR_len o (pdqR a)[j.toNat]!
    unfold good1 okR at hr
    exact ⟨rfl, by omega, by omega, by omega, addR_hi k4 (by omega), fold_next k1 k6 k5⟩
  case g18 =>
    intro i a h0 h1 h2 h3 j l o k0 k1 k2 k3 k4 k5 k6
    subst k0
    unfold isFold at k5
    rw [k5, kept_end h3 h2, List.take_of_length_le (by rw [← kept_end h3 h2]; omega)]
    rfl
end Go.Proofs.Ytaiepnaokhpmcaa
namespace Go.E
open Go Go.Proofs Go.Shelf Go.RowKit Go.Lib
variable {P : Program} {ρ : Ren}
set_option maxHeartbeats 2000000 in
set_option maxRecDepth 100000 in
theorem clone_some (L : SlLaysE0.n41 P ρ) (i0 : TypeInfo) (z : Value) (size bytes : Nat) (hi : P.info? (ρ.t 23) = some i0) (hz0 : i0.zero = some z) (hz1 : i0.size = size) (hz2 : i0.bytes = bytes) (hzs : z.cells.size = size) (hsz : 0 < size) (z23 : ∀ w, (Go.sizeOf (ρ.t 23)).run P w = .ok size w)
    (ad : Addr) (n c : Nat) (news : List Value) (w : World) (hl : news.length = n * size) (hn : n ≤ maxLen) (hbig : n * bytes ≤ 140737488355328)
    (hc : ∀ j u, news[j]? = some u → w.cell? (ad.add j) = some u) (h1 : ∀ u ∈ news, u.oneCell' = true) :
    Calls P (ρ.f 41) #[.slice (some ad) n c] w fun e w' => ∃ v', e = .returned v' ∧ w'.ownsRow w.heap.size (ρ.t 23) size v' n news ∧ Below w.heap.size w w' := by
  have mixed := L.mixed; have t4 := L.t4; have a4 := L.a4; have z4 := L.z4; have v4 := L.v4; have t22 := L.t22; have a22 := L.a22; have z22 := L.z22; have v22 := L.v22
  have q22 : ∀ (w : World) (a : Option Addr) (n c n' c' : Nat), (binOp .eql (ρ.t 22) (.slice a n c) (.slice none n' c')).run P w = .ok (.bool a.isNone) w := fun w a n c n' c' => Lib.run_eql_slice_nil w _ _ a n c n' c' L.t22
  have u22 : ∀ w, Sem.run P (underlying (ρ.t 22)) w = .ok (TypeDesc.slice (ρ.t 23)) w := run_underlying t22
  have A : Aside (∀ j u, news[j]? = some u → w.cell? (ad.add j) = some u) := hc
  clear hc
  obtain ⟨_, _, FG⟩ := L.f41
  go_enter FG, SlBodyN.n41_ntmps ρ
  go_wp2_with (at_builtin; refine wpList_append_own _ rfl _ _ (ρ.t 22) rfl w.heap.size (ρ.t 23) i0 z size bytes t22 hi hz0 hz1 hz2 hzs hsz _ _ _ rfl (World.ownsRow_made w #[] 0 (Nat.le_refl _) (Nat.zero_le _) (by simp)) ad n c news rfl ?qc1 ?qc2 ?qc3 ?qc4 ?qc5 ?qc6 ?_)
  case qc1 => exact hl
  case qc2 =>
    intro j u hj
    exact Lib.cell?_alloc_some _ (A.out j u hj)
  case qc3 => exact h1
  case qc4 => rw [Nat.zero_add]; exact hn
  case qc5 => rw [Nat.zero_add]; exact hbig
  case qc6 => simp
  intro v' w1 hown hgrow hnil
  go_wp2
  go_ret
  refine ⟨v', rfl, by simpa using hown, ?_⟩
  exact ((Below.refl _ w).alloc (Nat.le_refl _) _).grown hgrow (by simp) (by intro k hk; simp [Value.ownBlock] at hk; omega)
set_option maxHeartbeats 1000000 in
theorem clone_none (L : SlLaysE0.n41 P ρ) (n c : Nat) (w : World) :
    Calls P (ρ.f 41) #[.slice none n c] w fun e w' => e = .returned (.slice none 0 0) ∧ w' = w := by
  have mixed := L.mixed; have t4 := L.t4; have a4 := L.a4; have z4 := L.z4; have v4 := L.v4; have t22 := L.t22; have a22 := L.a22; have z22 := L.z22; have v22 := L.v22
  have q22 : ∀ (w : World) (a : Option Addr) (n c n' c' : Nat), (binOp .eql (ρ.t 22) (.slice a n c) (.slice none n' c')).run P w = .ok (.bool a.isNone) w := fun w a n c n' c' => Lib.run_eql_slice_nil w _ _ a n c n' c' L.t22
  obtain ⟨_, _, FG⟩ := L.f41
  go_enter FG, SlBodyN.n41_ntmps ρ
  go_wp2
  go_ret
  exact ⟨rfl, rfl⟩
/-- slices.Clone: a row of the caller's own, of the same elements. -/
theorem conB_clone (L : SlLaysE0.n41 P ρ) {T : Tab} (hT : TabOk P T) {te : TI} (hte : look T (ρ.t 23) = some te) (hcl : Callable P (ρ.f 41)) (hz : te.zero.length = te.size) (h0 : 0 < te.size) {rows : List (List AV)} (hsz : ∀ r ∈ rows, r.length = te.size)
    (hbig : rows.length * te.bytes ≤ 140737488355328) : ConB P (ρ.f 41) [.sl rows] (ρ.t 23) (.row te.size rows) := by
  refine ⟨hcl, fun w S0 vs hS hl hv => ?_⟩
  obtain ⟨v, rfl⟩ : ∃ v, vs = [v] := by
    match vs, hl with
    | [v], _ => exact ⟨v, rfl⟩
  have hr := hv 0 _ v rfl rfl
  have hm : rows.length ≤ maxLen := by cases hr with | sl _ A cap sz u hc hm => exact hm
  obtain ⟨i, zv, i1, i2, i3, i4, i5⟩ := inf hT hte
  rcases (shows_sl hr).flat hsz with ⟨rfl, rfl⟩ | ⟨ad, cap, xs, rfl, x1, x2, x3, x4⟩
  · refine (clone_none L 0 0 w).mono ?_
    rintro e w' ⟨rfl, rfl⟩
    exact ⟨_, rfl, ⟨fun r hr => by simp at hr, [], World.ownsRow_nil _ _ _ _, fun u hu => by simp at hu, fun j b u hb => by simp at hb⟩, Below.refl _ _⟩
  · have hzl : zv.cells.size = te.size := by
      have := congrArg List.length i5
      simpa [hz] using this
    refine (clone_some L i zv te.size te.bytes i1 i4 i2 i3 hzl h0 (szOf hT hte) ad rows.length cap xs w x1 hm hbig x2 x3).mono ?_
    rintro e w' ⟨v', rfl, ho, hb⟩
    refine ⟨v', rfl, ⟨hsz, xs, ho, x3, fun j b u hb' hu => (x4 j b u hb' hu).mono (fun k hk => ⟨.inl hk, fun e => ?_⟩) (fun k hk => hb.block k (hS k hk))⟩, hb⟩
    have := hS k hk
    rcases ho.2 with ⟨rfl, _⟩ | ⟨g, cap', cur, rfl, g1, _⟩
    · simp [blkOf] at e
    · simp [blkOf] at e; omega
end Go.E
namespace Go.Proofs.Ytaiepnaokhpmcaa
open Go.E
set_option maxRecDepth 100000
set_option maxHeartbeats 4000000
open Go Go.Shelf Go.Proofs
def renClR : Go.Shelf.Ren := ⟨fun | 41 => 68 | n => n, fun | 4 => 4 | 22 => 64 | 23 => 82 | n => n, fun n => n⟩
theorem laysClR : Go.Proofs.SlLaysE0.n41 Try.prog renClR := { mixed := by kernel_rfl, f41 := ⟨Try.f68.name, by decide, Try.func68.trans (congrArg some (by kernel_rfl))⟩, t4 := Try.underlying4, a4 := Try.isAgg4, z4 := Try.sizeOf4, v4 := Try.zeroValue4, t22 := Try.underlying64, a22 := Try.isAgg64, z22 := Try.sizeOf64, v22 := Try.zeroValue64 }
theorem con68 (es : List Run) (hl : es.length * 16 ≤ 140737488355328) : ConB Try.prog 68 [.sl (es.map c82)] 82 (.row 2 (es.map c82)) :=
  conB_clone (T := tab) laysClR tab_ok (te := _) rfl ⟨_, Try.func68, by kernel_rfl, by kernel_rfl⟩ (by kernel_rfl) (by decide +kernel) (fun r hr => by obtain ⟨x, _, rfl⟩ := List.mem_map.1 hr; kernel_rfl) (by rw [List.length_map]; exact hl)
def renClI : Go.Shelf.Ren := ⟨fun | 41 => 58 | n => n, fun | 4 => 4 | 22 => 22 | 23 => 3 | n => n, fun n => n⟩
theorem laysClI : Go.Proofs.SlLaysE0.n41 Try.prog renClI := { mixed := by kernel_rfl, f41 := ⟨Try.f58.name, by decide, Try.func58.trans (congrArg some (by kernel_rfl))⟩, t4 := Try.underlying4, a4 := Try.isAgg4, z4 := Try.sizeOf4, v4 := Try.zeroValue4, t22 := Try.underlying22, a22 := Try.isAgg22, z22 := Try.sizeOf22, v22 := Try.zeroValue22 }
theorem con58 (es : List Int) (hl : es.length * 8 ≤ 140737488355328) : ConB Try.prog 58 [.sl (es.map c3)] 3 (.row 1 (es.map c3)) :=
  conB_clone (T := tab) laysClI tab_ok (te := _) rfl ⟨_, Try.func58, by kernel_rfl, by kernel_rfl⟩ (by kernel_rfl) (by decide +kernel) (fun r hr => by obtain ⟨x, _, rfl⟩ := List.mem_map.1 hr; kernel_rfl) (by rw [List.length_map]; exact hl)
def nrm (a : List Run) : List Run := unR [a]
def leadR (n : List Run) : Int × List Run := if n.length = 0 ∨ ¬ n[0]!.lo = 1 then (0, n) else (n[0]!.hi, n.drop 1)
theorem foldR_len (l : List Run) : (foldR l).length ≤ l.length := by
  have : ∀ (l out : List Run), (l.foldl addR out).length ≤ out.length + l.length := by
    intro l
    induction l with
    | nil => intro out; simp
    | cons r l ih =>
      intro out
      have h1 := ih (addR out r)
      have h2 := addR_len out r
      simp only [List.foldl_cons, List.length_cons]
      omega
  have h := this l []
  simpa [foldR] using h
theorem rng_nrm (a : List Run) : (nrm a).length ≤ a.length := by
  have h1 := foldR_len (pdqR (keepR [a].flatten))
  have h2 := (pdqR_perm (l := keepR [a].flatten) fun r hr => (keep_good r hr).1).length_eq
  have h3 := keepR_len [a].flatten
  unfold nrm unR
  simp only [List.flatten_cons, List.flatten_nil, List.append_nil] at *
  omega
theorem con65 (a : List Run) (hb : a.length * 16 ≤ 140737488351232) : Con Try.prog 65 [.sl (a.map c82)] (.sl ((nrm a).map c82)) :=
  by
  refine con_lens 0 (c82) (a) (by kernel_rfl) Go.Proofs.Try.func65 (by kernel_rfl) fun hl_0 => ?_
  refine st_con tab_ok (by kernel_rfl) [.tmp 2] 6 Go.Proofs.Try.func65 (by kernel_rfl) (by kernel_rfl) ?_
  intro e0 cx
  refine sq ?_
  refine rg (A := True) cx [] [0] [] trivial ?_
  refine sn ?_
  refine sq ?_
  refine rg (A := _) cx [(2, { val := some (.own (82 : Nat) (2 : Nat)), rows := some (List.map c82 (unR [a])) })] [2] [5] (con75 ([a]) ?g0) ?_; rotate_left 1
  refine sn ?_
  refine st_ret (by kernel_rfl) ?_
  refine q_ret (r := .sl (((E.look [(2, { val := some (AV.own (82 : Nat) (2 : Nat)), rows := some (List.map c82 (unR [a])) : Ov })] (2)).getD { : Ov }).rows.getD [])) (obl := []) (by kernel_rfl) trivial (AVle.eq (show AV.sl (((E.look [(2, { val := some (AV.own (82 : Nat) (2 : Nat)), rows := some (List.map c82 (unR [a])) : Ov })] (2)).getD { : Ov }).rows.getD []) = AV.sl (List.map c82 (nrm a)) from ?g1)); rotate_left 1
  case g0 => exact (by simpa using hb)
  case g1 => exact rfl
theorem con57 (a : List Run) (hb : a.length * 16 ≤ 140737488351232) : Con Try.prog 57 [.sl (a.map c82)] (.tup [.i .i64 (leadR (nrm a)).1, .sl ((leadR (nrm a)).2.map c82)]) :=
  by
  have hn := rng_nrm a
  refine con_lens 0 (c82) (a) (by kernel_rfl) Go.Proofs.Try.func57 (by kernel_rfl) fun hl_0 => ?_
  refine st_con tab_ok (by kernel_rfl) [.tmp 2, .tmp 3] 25 Go.Proofs.Try.func57 (by kernel_rfl) (by kernel_rfl) ?_
  intro e0 cx
  refine sq ?_
  refine rg (A := True) cx [] [0] [] trivial ?_
  refine sn ?_
  refine sq ?_
  have hl_0 := (rng_nrm a)
  refine rg (A := _) cx [(1, { val := some (.sl (List.map c82 (nrm a))) })] [4] [] (con65 (a) (by (with_reducible assumption))) ?_
  refine sn ?_
  refine sq ?_
  refine sq ?_
  refine st_join (σ' := ⟨[(4, .sl (List.map c82 (nrm a))), (16, .b (decide ((↑(nrm a).length : Int) = (0 : Int) ∨ ¬(nrm a)[(0 : Nat)]!.lo = (1 : Int))))], []⟩) ?_ ?_
  refine st_split ((↑(nrm a).length : Int) = (0 : Int)) (fun h_2 => ?_) (fun h_2 => ?_)
  refine rg (A := _ ∧ _ ∧ (AV.b true = AV.b (decide ((↑(nrm a).length : Int) = (0 : Int) ∨ ¬(nrm a)[(0 : Nat)]!.lo = (1 : Int))))) cx [(1, { tell := some (.i .i64 ((↑(nrm a).length : Int))) }), (2, { tell := some (.b (true)) }), (9, { tell := some (.b (decide ((↑(nrm a).length : Int) = (0 : Int) ∨ ¬(nrm a)[(0 : Nat)]!.lo = (1 : Int)))) })] [4, 16] [] ⟨(told_len c82 (nrm a)), (told_true h_2), (by simp only [eq_true h_2, told_simp1, told_simp2, and_true, true_and, and_false, false_and, or_true, true_or, or_false, false_or, not_true_eq_false, not_false_eq_true, decide_true, decide_false, Bool.decide_eq_true])⟩ ?_
  exact ⟨rfl, by kernel_rfl⟩
  refine rg (A := _ ∧ _ ∧ ((0 : Int) ≤ (0 : Int)) ∧ ((List.map c82 (nrm a))[Int.toNat (0 : Int)]? = some (c82 (nrm a)[(0 : Nat)]!)) ∧ ((c82 (nrm a)[(0 : Nat)]!).length = (2 : Nat)) ∧ (AV.b ((nrm a)[(0 : Nat)]!.lo != (1 : Int)) = AV.b (decide ¬(nrm a)[(0 : Nat)]!.lo = (1 : Int))) ∧ (AV.b (decide ¬(nrm a)[(0 : Nat)]!.lo = (1 : Int)) = AV.b (decide ((↑(nrm a).length : Int) = (0 : Int) ∨ ¬(nrm a)[(0 : Nat)]!.lo = (1 : Int))))) cx [(1, { tell := some (.i .i64 ((↑(nrm a).length : Int))) }), (2, { tell := some (.b (false)) }), (5, { row := (c82 (nrm a)[(0 : Nat)]!) }), (8, { tell := some (.b (decide ¬(nrm a)[(0 : Nat)]!.lo = (1 : Int))) }), (9, { tell := some (.b (decide ((↑(nrm a).length : Int) = (0 : Int) ∨ ¬(nrm a)[(0 : Nat)]!.lo = (1 : Int)))) })] [4, 16] [] ⟨(told_len c82 (nrm a)), (told_false h_2), (by omega), ?g0, (by kernel_rfl), (told_neq), (by simp only [eq_false h_2, told_simp1, told_simp2, and_true, true_and, and_false, false_and, or_true, true_or, or_false, false_or, not_true_eq_false, not_false_eq_true, decide_true, decide_false, Bool.decide_eq_true])⟩ ?_; rotate_left 1
  exact ⟨rfl, by kernel_rfl⟩
  refine sn ?_
  refine st_dec ((↑(nrm a).length : Int) = (0 : Int) ∨ ¬(nrm a)[(0 : Nat)]!.lo = (1 : Int)) (by kernel_rfl) (by kernel_rfl) (fun h_3 => ?_) (fun h_3 => ?_)
  refine sq ?_
  refine rg (A := True) cx [] [2, 3] [] trivial ?_
  refine sn ?_
  refine st_ret (by kernel_rfl) ?_
  refine q_seq_ret ?_
  refine q_ret (r := .tup [.i .i64 ((0 : Int)), .sl (List.map c82 (nrm a))]) (obl := []) (by kernel_rfl) trivial (AVle.tup (ZLe.cons (AVle.eq (show AV.i IntKind.i64 (0 : Int) = AV.i IntKind.i64 (leadR (nrm a)).fst from ?g2)) (ZLe.cons (AVle.eq (show AV.sl (List.map c82 (nrm a)) = AV.sl (List.map c82 (leadR (nrm a)).snd) from ?g1)) ZLe.nil))); rotate_left 2
  refine st_skip (by kernel_rfl) ?_
  refine sn ?_
  refine sq ?_
  refine ra (A := ((0 : Int) ≤ (0 : Int)) ∧ ((List.map c82 (nrm a))[Int.toNat (0 : Int)]? = some (c82 (nrm a)[(0 : Nat)]!)) ∧ ((c82 (nrm a)[(0 : Nat)]!).length = (2 : Nat)) ∧ (AV.sl (List.drop (Int.toNat (1 : Int)) (List.take (none.getD (↑(List.map c82 (nrm a)).length : Int)).toNat (List.map c82 (nrm a)))) = AV.sl (List.map c82 (List.drop (Int.toNat (1 : Int)) (nrm a)))) ∧ ((0 : Int) ≤ (1 : Int)) ∧ ((1 : Int) ≤ none.getD (↑(List.map c82 (nrm a)).length : Int)) ∧ (none.getD (↑(List.map c82 (nrm a)).length : Int) ≤ (↑(List.map c82 (nrm a)).length : Int)) ∧ (∀ (r : List AV), r ∈ List.map c82 (nrm a) → r.length = (2 : Nat)) ∧ _) cx [(1, { row := (c82 (nrm a)[(0 : Nat)]!) }), (5, { tell := some (.sl (List.map c82 (List.drop (Int.toNat (1 : Int)) (nrm a)))) }), (6, { val := some (.own (82 : Nat) (2 : Nat)), rows := some (List.map c82 (List.drop (Int.toNat (1 : Int)) (nrm a))) })] [2, 3] [24] ⟨(by omega), ?g3, (by kernel_rfl), (told_slN c82 (nrm a) (Int.toNat (1 : Int))), (by omega), ?g4, ?g5, (by (with_reducible refine len_map (fun _ => ?_) _; kernel_rfl)), (con68 (List.drop (Int.toNat (1 : Int)) (nrm a)) ?g6)⟩ ?_; rotate_left 4
  refine sn ?_
  refine st_ret (by kernel_rfl) ?_
  refine q_ret (r := .tup [.i .i64 ((nrm a)[(0 : Nat)]!.hi), .sl (((E.look [(6, { val := some (AV.own (82 : Nat) (2 : Nat)), rows := some (List.map c82 (List.drop (Int.toNat (1 : Int)) (nrm a))) : Ov })] (6)).getD { : Ov }).rows.getD [])]) (obl := []) (by kernel_rfl) trivial (AVle.tup (ZLe.cons (AVle.eq (show AV.i IntKind.i64 (nrm a)[(0 : Nat)]!.hi = AV.i IntKind.i64 (leadR (nrm a)).fst from ?g8)) (ZLe.cons (AVle.eq (show AV.sl (((E.look [(6, { val := some (AV.own (82 : Nat) (2 : Nat)), rows := some (List.map c82 (List.drop (Int.toNat (1 : Int)) (nrm a))) : Ov })] (6)).getD { : Ov }).rows.getD []) = AV.sl (List.map c82 (leadR (nrm a)).snd) from ?g7)) ZLe.nil))); rotate_left 2
  revert h_2; rotate_left
  revert h_3; rotate_left
  revert h_3; rotate_left
  revert h_3; rotate_left
  revert h_3; rotate_left
  revert h_3; rotate_left
  revert h_3; rotate_left
  revert h_3; rotate_left
  revert h_3; rotate_left
  case g0 => intro h; exact get_map (by omega)
  case g1 => intro h; unfold leadR; rw [if_pos (h.imp (fun k => by omega) id)]
  case g2 => intro h; unfold leadR; rw [if_pos (h.imp (fun k => by omega) id)]
  case g3 => intro h; exact get_map (by omega)
  case g4 => intro h; have : ¬ ((nrm a).length : Int) = 0 := fun k => h (.inl k); simp only [Option.getD_none, List.length_map]; omega
  case g5 => intro h; exact Int.le_refl _
  case g6 => intro h; rw [List.length_drop]; omega
  case g7 => intro h; show AV.sl (List.map c82 (List.drop 1 (nrm a))) = _; unfold leadR; rw [if_neg (fun k => h (k.imp (fun k => by omega) id))]
  case g8 => intro h; unfold leadR; rw [if_neg (fun k => h (k.imp (fun k => by omega) id))]
end Go.Proofs.Ytaiepnaokhpmcaa
namespace Go.Proofs.Ytaiepnaokhpmcaa
open Go.E
set_option maxRecDepth 100000
set_option maxHeartbeats 4000000
/-- Apart, rising, each run between 1 and 1000000000. -/
def sepR (l : List Run) : Prop := l.Pairwise (fun x y => x.hi + 1 < y.lo) ∧ ∀ r ∈ l, 1 ≤ r.lo ∧ r.lo ≤ r.hi ∧ r.hi ≤ 1000000000
def inR (l : List Run) (n : Int) : Prop := ∃ r ∈ l, r.lo ≤ n ∧ n ≤ r.hi
theorem snoc_of {α : Type} [Inhabited α] {l : List α} (h : 0 < (l.length : Int)) : ∃ p, l = p ++ [l[((l.length : Int) - 1).toNat]!] := by
  refine ⟨l.take (l.length - 1), ?_⟩
  have e : ((l.length : Int) - 1).toNat = l.length - 1 := by omega
  rw [e]
  have h1 := List.take_succ_eq_append_getElem (l := l) (i := l.length - 1) (by omega)
  rw [getElem!_pos l (l.length - 1) (by omega), ← h1, List.take_of_length_le (by omega)]
theorem addR_snoc (p : List Run) (x r : Run) : addR (p ++ [x]) r = if r.lo ≤ x.hi + 1 then p ++ [⟨x.lo, max x.hi r.hi⟩] else p ++ [x] ++ [r] := by
  have e : (((p ++ [x]).length : Int) - 1).toNat = p.length := by rw [List.length_append, List.length_singleton]; omega
  have hx : lastR (p ++ [x]) = x := by unfold lastR; rw [e]; simp
  unfold addR
  rw [hx, e]
  by_cases h : r.lo ≤ x.hi + 1
  · rw [if_pos ⟨by rw [List.length_append, List.length_singleton]; omega, h⟩, if_pos h]
    simp
  · rw [if_neg (fun k => h k.2), if_neg h]
theorem addR_nil (r : Run) : addR [] r = [r] := by simp [addR]
theorem sepR_nil : sepR [] := ⟨List.Pairwise.nil, fun r hr => by cases hr⟩
theorem addR_sep {out : List Run} {r : Run} (h : sepR out) (hr : good1 r) : sepR (addR out r) := by
  unfold good1 okR at hr
  by_cases h0 : out = []
  · subst h0
    rw [addR_nil]
    exact ⟨by simp, fun x hx => by have : x = r := by simpa using hx
                                   subst this; omega⟩
  · obtain ⟨p, hp⟩ := snoc_of (l := out) (by have := List.length_pos_iff.2 h0; omega)
    generalize out[((out.length : Int) - 1).toNat]! = x at hp
    subst hp
    obtain ⟨h1, h2⟩ := h
    rw [List.pairwise_append] at h1
    obtain ⟨q1, _, q3⟩ := h1
    have hx := h2 x (by simp)
    rw [addR_snoc]
    split
    · refine ⟨List.pairwise_append.2 ⟨q1, by simp, fun a ha b hb => ?_⟩, fun a ha => ?_⟩
      · have : b = ⟨x.lo, max x.hi r.hi⟩ := by simpa using hb
        subst this
        exact q3 a ha x (by simp)
      · rcases List.mem_append.1 ha with ha | ha
        · exact h2 a (by simp [ha])
        · have : a = ⟨x.lo, max x.hi r.hi⟩ := by simpa using ha
          subst this
          simp only
          omega
    · rename_i hn
      refine ⟨List.pairwise_append.2 ⟨List.pairwise_append.2 ⟨q1, by simp, q3⟩, by simp, fun a ha b hb => ?_⟩, fun a ha => ?_⟩
      · have : b = r := by simpa using hb
        subst this
        rcases List.mem_append.1 ha with ha | ha
        · have := q3 a ha x (by simp); omega
        · have : a = x := by simpa using ha
          subst this
          omega
      · rcases List.mem_append.1 ha with ha | ha
        · exact h2 a ha
        · have : a = r := by simpa using ha
          subst this
          omega
/-- A set with one run more, if it begins no sooner than the last. -/
theorem addR_in {out : List Run} {r : Run} (hl : ∀ x ∈ out, x.lo ≤ r.lo) (hs : sepR out) (n : Int) : inR (addR out r) n ↔ inR out n ∨ (r.lo ≤ n ∧ n ≤ r.hi) := by
  by_cases h0 : out = []
  · subst h0
    rw [addR_nil]
    simp [inR]
  · obtain ⟨p, hp⟩ := snoc_of (l := out) (by have := List.length_pos_iff.2 h0; omega)
    generalize out[((out.length : Int) - 1).toNat]! = x at hp
    subst hp
    have hx := hs.2 x (by simp)
    have hlx := hl x (by simp)
    rw [addR_snoc]
    have app : ∀ (a b : List Run), inR (a ++ b) n ↔ inR a n ∨ inR b n := by
      intro a b
      unfold inR
      constructor
      · rintro ⟨y, hy, h⟩
        rcases List.mem_append.1 hy with hy | hy
        · exact .inl ⟨y, hy, h⟩
        · exact .inr ⟨y, hy, h⟩
      · rintro (⟨y, hy, h⟩ | ⟨y, hy, h⟩)
        · exact ⟨y, List.mem_append.2 (.inl hy), h⟩
        · exact ⟨y, List.mem_append.2 (.inr hy), h⟩
    have one : ∀ y : Run, inR [y] n ↔ (y.lo ≤ n ∧ n ≤ y.hi) := by intro y; simp [inR]
    split
    · rw [app, app, one, one, or_assoc]
      refine or_congr_right ?_
      simp only
      omega
    · rw [app, one]
theorem fold_props (l : List Run) : ∀ (out : List Run), sepR out → (∀ r ∈ l, good1 r) → l.Pairwise (fun x y => x.lo ≤ y.lo) → (∀ x ∈ out, ∀ r ∈ l, x.lo ≤ r.lo) →
    sepR (l.foldl addR out) ∧ ∀ n, inR (l.foldl addR out) n ↔ inR out n ∨ inR l n := by
  induction l with
  | nil => intro out h _ _ _; exact ⟨h, fun n => by simp [inR]⟩
  | cons r l ih =>
    intro out h hg hp hl
    rw [List.pairwise_cons] at hp
    have hlo : ∀ x ∈ addR out r, ∀ y ∈ l, x.lo ≤ y.lo := by
      intro x hx y hy
      have hy1 := hp.1 y hy
      unfold addR at hx
      split at hx
      · rename_i hc
        rcases List.mem_or_eq_of_mem_set hx with hx | rfl
        · have := hl x hx r (by simp); omega
        · have := hl _ (bang_in (l := out) (i := ((out.length : Int) - 1).toNat) (by omega)) r (by simp)
          unfold lastR
          simp only
          omega
      · rcases List.mem_append.1 hx with hx | hx
        · have := hl x hx r (by simp); omega
        · have : x = r := by simpa using hx
          subst this
          exact hy1
    obtain ⟨g1, g2⟩ := ih (addR out r) (addR_sep h (hg r (by simp))) (fun y hy => hg y (by simp [hy])) hp.2 hlo
    refine ⟨g1, fun n => ?_⟩
    rw [List.foldl_cons, g2 n, addR_in (fun x hx => hl x hx r (by simp)) h n, or_assoc]
    refine or_congr_right ?_
    simp [inR]
/-- What Union answers: apart, rising; and just the numbers between 1 and 1000000000 that are in one of the sets. -/
theorem unR_sep (ss : List (List Run)) : sepR (unR ss) := by
  have hg : ∀ r ∈ keepR ss.flatten, good1 r := keep_good
  exact (fold_props _ [] sepR_nil (sorted_good hg) (pdqR_rises _) (fun x hx => by cases hx)).1
theorem unR_in (ss : List (List Run)) (n : Int) : inR (unR ss) n ↔ 1 ≤ n ∧ n ≤ 1000000000 ∧ inR ss.flatten n := by
  have hg : ∀ r ∈ keepR ss.flatten, good1 r := keep_good
  have h := (fold_props _ [] sepR_nil (sorted_good hg) (pdqR_rises _) (fun x hx => by cases hx)).2 n
  unfold unR foldR
  rw [h]
  have hp := pdqR_perm (l := keepR ss.flatten) fun r hr => (hg r hr).1
  constructor
  · rintro (⟨r, hr, _⟩ | ⟨r, hr, h1, h2⟩)
    · cases hr
    · have hr := hp.subset hr
      unfold keepR at hr
      obtain ⟨hr, _⟩ := List.mem_filter.1 hr
      obtain ⟨x, hx, rfl⟩ := List.mem_map.1 hr
      simp only [clipR] at h1 h2
      exact ⟨by omega, by omega, x, hx, by omega, by omega⟩
  · rintro ⟨h1, h2, x, hx, h3, h4⟩
    refine .inr ⟨clipR x, hp.symm.subset ?_, ?_, ?_⟩
    · unfold keepR
      refine List.mem_filter.2 ⟨List.mem_map.2 ⟨x, hx, rfl⟩, ?_⟩
      show decide ((clipR x).lo ≤ (clipR x).hi) = true
      rw [decide_eq_true_iff]
      show max x.lo 1 ≤ min x.hi 1000000000
      omega
    · simp only [clipR]; omega
    · simp only [clipR]; omega
/-- No more than half as many runs as numbers. -/
theorem sepR_lo {l : List Run} (h : sepR l) : ∀ i : Nat, i < l.length → 2 * (i : Int) + 1 ≤ l[i]!.lo
  | 0, hi => by have := h.2 _ (bang_in hi); omega
  | i + 1, hi => by
    have h1 := sepR_lo h i (by omega)
    have h2 := List.pairwise_iff_getElem.1 h.1 i (i + 1) (by omega) hi (by omega)
    rw [← getElem!_pos l i (by omega), ← getElem!_pos l (i + 1) hi] at h2
    have h3 := h.2 _ (bang_in (l := l) (i := i) (by omega))
    omega
theorem sepR_len {l : List Run} (h : sepR l) : l.length ≤ 500000000 := by
  by_cases h0 : l.length = 0
  · omega
  · have h1 := sepR_lo h (l.length - 1) (by omega)
    have h2 := h.2 _ (bang_in (l := l) (i := l.length - 1) (by omega))
    omega
theorem nrm_sep (a : List Run) : sepR (nrm a) := unR_sep [a]
theorem nrm_in (a : List Run) (n : Int) : inR (nrm a) n ↔ 1 ≤ n ∧ n ≤ 1000000000 ∧ inR a n := by
  have := unR_in [a] n
  simpa [nrm] using this
/-- Two lists that are apart, with the same numbers, are one. -/
theorem sep_unique : ∀ {a b : List Run}, sepR a → sepR b → (∀ n, inR a n ↔ inR b n) → a = b
  | [], [], _, _, _ => rfl
  | [], y :: b, _, hb, h => by
    have := hb.2 y (by simp)
    obtain ⟨r, hr, _⟩ := (h y.lo).2 ⟨y, by simp, by omega, by omega⟩
    cases hr
  | x :: a, [], ha, _, h => by
    have := ha.2 x (by simp)
    obtain ⟨r, hr, _⟩ := (h x.lo).1 ⟨x, by simp, by omega, by omega⟩
    cases hr
  | x :: a, y :: b, ha, hb, h => by
    have hx := ha.2 x (by simp)
    have hy := hb.2 y (by simp)
    have pa := List.pairwise_cons.1 ha.1
    have pb := List.pairwise_cons.1 hb.1
    have la : ∀ n, inR a n → x.hi + 1 < n := fun n ⟨r, hr, h1, _⟩ => by have := pa.1 r hr; omega
    have lb : ∀ n, inR b n → y.hi + 1 < n := fun n ⟨r, hr, h1, _⟩ => by have := pb.1 r hr; omega
    have ca : ∀ n, inR (x :: a) n ↔ (x.lo ≤ n ∧ n ≤ x.hi) ∨ inR a n := fun n => by simp [inR]
    have cb : ∀ n, inR (y :: b) n ↔ (y.lo ≤ n ∧ n ≤ y.hi) ∨ inR b n := fun n => by simp [inR]
    have e1 : x.lo = y.lo := by
      have h1 := (cb x.lo).1 ((h x.lo).1 ((ca x.lo).2 (.inl (by omega))))
      have h2 := (ca y.lo).1 ((h y.lo).2 ((cb y.lo).2 (.inl (by omega))))
      rcases h1 with h1 | h1
      · rcases h2 with h2 | h2
        · omega
        · have := la _ h2; omega
      · have := lb _ h1
        rcases h2 with h2 | h2
        · omega
        · have := la _ h2; omega
    have e2 : x.hi = y.hi := by
      have h1 := (cb x.hi).1 ((h x.hi).1 ((ca x.hi).2 (.inl (by omega))))
      have h2 := (ca y.hi).1 ((h y.hi).2 ((cb y.hi).2 (.inl (by omega))))
      have h3 : ¬ x.hi < y.hi := fun k => by
        have := (ca (x.hi + 1)).1 ((h (x.hi + 1)).2 ((cb (x.hi + 1)).2 (.inl (by omega))))
        rcases this with g | g
        · omega
        · have := la _ g; omega
      have h4 : ¬ y.hi < x.hi := fun k => by
        have := (cb (y.hi + 1)).1 ((h (y.hi + 1)).1 ((ca (y.hi + 1)).2 (.inl (by omega))))
        rcases this with g | g
        · omega
        · have := lb _ g; omega
      omega
    have e : x = y := by cases x; cases y; simp only at e1 e2; rw [e1, e2]
    subst e
    rw [sep_unique (a := a) (b := b) ⟨pa.2, fun r hr => ha.2 r (by simp [hr])⟩ ⟨pb.2, fun r hr => hb.2 r (by simp [hr])⟩ fun n => ?_]
    have := h n
    rw [ca, cb] at this
    constructor
    · intro g
      have g1 := la n g
      rcases this.1 (.inr g) with k | k
      · omega
      · exact k
    · intro g
      have g1 := lb n g
      rcases this.2 (.inr g) with k | k
      · omega
      · exact k
end Go.Proofs.Ytaiepnaokhpmcaa
namespace Go.Proofs.Ytaiepnaokhpmcaa
open Go.E
set_option maxRecDepth 100000
set_option maxHeartbeats 4000000
def leadT (T : Nat → List Run) (r : Nat) : Int := (leadR (nrm (T r))).1
def restT (T : Nat → List Run) (r : Nat) : List Span := (leadR (nrm (T r))).2.map fun x => ⟨r, x.lo, x.hi⟩
def szT (T : Nat → List Run) : Nat → Int
  | 0 => 0
  | n + 1 => if 0 < leadT T n then n + 1 else szT T n
def cloudT (T : Nat → List Run) : Nat → List Span
  | 0 => []
  | n + 1 => cloudT T n ++ restT T n
def vecT (T : Nat → List Run) (n : Nat) : List Int := (List.range n).map (leadT T) ++ List.replicate (16 - n) 0
def tabP (T : Nat → List Run) : Past := ⟨(vecT T 16).take (szT T 16).toNat, cloudT T 16⟩
def isSz (T : Nat → List Run) (r s : Int) : Prop := s = szT T r.toNat
def isVec (T : Nat → List Run) (r : Int) (v : List Int) : Prop := v = vecT T r.toNat
def isCloud (T : Nat → List Run) (r : Int) (c : List Span) : Prop := c = cloudT T r.toNat
def isCloud2 (T : Nat → List Run) (r j : Int) (c : List Span) : Prop := c = cloudT T r.toNat ++ (restT T r.toNat).take j.toNat
def inv81a (T : Nat → List Run) (s r : Int) (v : List Int) (c : List Span) : Prop := 0 ≤ r ∧ r ≤ 16 ∧ 0 ≤ s ∧ s ≤ r ∧ v.length = 16 ∧ isSz T r s ∧ isVec T r v ∧ isCloud T r c
def dec81a (s r : Int) (v : List Int) (c : List Span) : Nat := (16 - r).toNat
def inv81b (T : Nat → List Run) (r : Int) (w : List Int) (j : Int) (v : List Int) (c : List Span) : Prop := v = w ∧ 0 ≤ j ∧ j ≤ (leadR (nrm (T r.toNat))).2.length ∧ isCloud2 T r j c
def dec81b (T : Nat → List Run) (r : Int) (j : Int) (v : List Int) (c : List Span) : Nat := ((leadR (nrm (T r.toNat))).2.length - j).toNat
theorem rest_len (T : Nat → List Run) (r : Nat) : (leadR (nrm (T r))).2.length ≤ 500000000 := by
  have h := sepR_len (nrm_sep (T r))
  unfold leadR
  split
  · exact h
  · simp only [List.length_drop]; omega
theorem cloud_len (T : Nat → List Run) : ∀ n : Nat, (cloudT T n).length ≤ n * 500000000
  | 0 => by simp [cloudT]
  | n + 1 => by
    have h1 := cloud_len T n
    have h2 := rest_len T n
    rw [cloudT, List.length_append, restT, List.length_map]
    omega
theorem cloud2_len {T : Nat → List Run} {r j : Int} {c : List Span} (h0 : 0 ≤ r) (h1 : r < 16) (hc : isCloud2 T r j c) : c.length ≤ 8000000000 := by
  unfold isCloud2 at hc
  have h2 := cloud_len T r.toNat
  have h3 := rest_len T r.toNat
  rw [hc, List.length_append, List.length_take, restT, List.length_map]
  omega
theorem cloud2_start {T : Nat → List Run} {r : Int} {c : List Span} (hc : isCloud T r c) : isCloud2 T r 0 c := by
  unfold isCloud isCloud2 at *
  simpa using hc
theorem cloud2_next {T : Nat → List Run} {r j : Int} {c : List Span} (h0 : 0 ≤ r) (j0 : 0 ≤ j) (jl : j < (leadR (nrm (T r.toNat))).2.length) (hc : isCloud2 T r j c) :
    isCloud2 T r (j + 1) (c ++ [⟨r, ((leadR (nrm (T r.toNat))).2[j.toNat]!).lo, ((leadR (nrm (T r.toNat))).2[j.toNat]!).hi⟩]) := by
  unfold isCloud2 at *
  have hl : (j : Int) < (restT T r.toNat).length := by rw [restT, List.length_map]; exact jl
  rw [← take_step j0 hl, ← List.append_assoc, ← hc]
  have e : (restT T r.toNat)[j.toNat]! = ⟨r, ((leadR (nrm (T r.toNat))).2[j.toNat]!).lo, ((leadR (nrm (T r.toNat))).2[j.toNat]!).hi⟩ := by
    have hj : j.toNat < (leadR (nrm (T r.toNat))).2.length := by omega
    rw [getElem!_pos (restT T r.toNat) j.toNat (by omega), getElem!_pos (leadR (nrm (T r.toNat))).2 j.toNat hj]
    simp only [restT, List.getElem_map]
    congr 1
    omega
  rw [e]
theorem cloud_next {T : Nat → List Run} {r j : Int} {c : List Span} (h0 : 0 ≤ r) (jl : ¬ j < (leadR (nrm (T r.toNat))).2.length) (hc : isCloud2 T r j c) : isCloud T (r + 1) c := by
  unfold isCloud2 isCloud at *
  rw [hc, show (r + 1).toNat = r.toNat + 1 by omega, cloudT, List.take_of_length_le (by rw [restT, List.length_map]; omega)]
theorem vec_next {T : Nat → List Run} {r : Int} {v : List Int} (h0 : 0 ≤ r) (h1 : r < 16) (hv : isVec T r v) : isVec T (r + 1) (v.set r.toNat (leadR (nrm (T r.toNat))).1) := by
  unfold isVec at *
  rw [hv, show (r + 1).toNat = r.toNat + 1 by omega]
  unfold vecT
  generalize hn : r.toNat = n
  have hn' : n < 16 := by omega
  rw [List.set_append_right _ _ (by simp), List.length_map, List.length_range, Nat.sub_self, show 16 - n = (16 - (n + 1)) + 1 by omega, List.replicate_succ, List.set_cons_zero, List.range_succ, List.map_append, List.append_assoc]
  rfl
theorem sz_next {T : Nat → List Run} {r s : Int} (h0 : 0 ≤ r) (hs : isSz T r s) : isSz T (r + 1) (if 0 < (leadR (nrm (T r.toNat))).1 then r + 1 else s) := by
  unfold isSz at *
  rw [show (r + 1).toNat = r.toNat + 1 by omega, szT, leadT, hs]
  split
  · omega
  · rfl
theorem tab_end {T : Nat → List Run} {r s : Int} {v : List Int} {c : List Span} (h1 : r ≤ 16) (h : ¬ r < 16) (hs : isSz T r s) (hv : isVec T r v) (hc : isCloud T r c) : tabP T = ⟨v.take s.toNat, c⟩ := by
  unfold isSz isVec isCloud at *
  have : r.toNat = 16 := by omega
  rw [this] at hs hv hc
  unfold tabP
  rw [hs, hv, hc]
theorem con40 (t : Nat → List Run) (hb : ∀ r : Nat, r < 16 → (t r).length * 16 ≤ 140737488351232) : Con Try.prog 40 [.eptr (tabC c82 16 t)] (.agg (c25 (tabP t))) :=
  by
  refine st_con tab_ok (by kernel_rfl) [.cell 2 25] 59 Go.Proofs.Try.func40 (by kernel_rfl) (by kernel_rfl) ?_
  intro e0 cx
  refine sq ?_
  refine rg (A := True) cx [] [0, 2] [2] trivial ?_
  refine sn ?_
  refine sq ?_
  refine rg (A := True) cx [] [0, 2, 3] [2, 3] trivial ?_
  refine sn ?_
  refine sq ?_
  refine rg (A := ((16 : Int) = (↑(16 : Nat) : Int)) ∧ ((16 : Int) = (↑(16 : Nat) : Int)) ∧ ((8 : Nat) * (16 : Nat) ≤ (281474976710656 : Nat)) ∧ ((16 : Nat) ≤ maxLen) ∧ ([AV.i IntKind.i64 (0 : Int)].length = (1 : Nat)) ∧ (ZLe [AV.i IntKind.i64 (0 : Int)] [AV.i IntKind.i64 (0 : Int)]) ∧ (List.replicate (16 : Nat) [AV.i IntKind.i64 (0 : Int)] = List.map c3 (List.replicate (16 : Nat) (0 : Int)))) cx [(0, { row := [.i .i64 ((0 : Int))], rows := some (List.map c3 (List.replicate (16 : Nat) (0 : Int))), n := (16 : Nat) })] [0, 2, 3, 4] [2, 3, 11] ⟨(by kernel_rfl), (by kernel_rfl), (by omega), (by (simp only [Go.maxLen]; omega)), (by kernel_rfl), (by (with_reducible exact ZLe.refl _)), (by (with_reducible refine rep_map ?_; kernel_rfl))⟩ ?_
  refine sn ?_
  refine sq ?_
  refine rg (A := True) cx [] [0, 2, 3, 4, 5] [2, 3, 11] trivial ?_
  refine sn ?_
  refine sq ?_
  refine sq ?_
  refine rg (A := True) cx [] [0, 2, 3, 4, 5, 12] [2, 3, 11] trivial ?_
  refine sn ?_
  refine st_block 0 (by kernel_rfl) ?_
  refine awp_cellIn 3 50 3 1 5301 (σ' := ⟨[(0, .eptr (tabC c82 (16 : Nat) t)), (2, .ptr (2) (0) (0) (0)), (3, .ptr (3) (0) (0) (0)), (4, .own 11 0), (5, .i .i64 ((0 : Int))), (12, .i .i64 ((0 : Int)))], [(2, ⟨0, 25, .var [.nl, .nl]⟩), (3, ⟨0, 25, .var [.nl, .own 5301 0]⟩), (11, ⟨0, 3, .row 1 (List.map c3 (List.replicate (16 : Nat) (0 : Int)))⟩), (5301, ⟨0, 50, .row 3 (List.map c50 [])⟩)]⟩) (by kernel_rfl) ?_
  refine st_loop (X := Int × Int × List Int × List Span) (fun x => ⟨[(0, .eptr (tabC c82 (16 : Nat) t)), (2, .ptr (2) (0) (0) (0)), (3, .ptr (3) (0) (0) (0)), (4, .own 11 0), (5, .i .i64 (x.fst)), (12, .i .i64 (x.snd.fst))], [(2, ⟨0, 25, .var [.nl, .nl]⟩), (3, ⟨0, 25, .var [.nl, .own 5301 0]⟩), (11, ⟨0, 3, .row 1 (List.map c3 x.snd.snd.fst)⟩), (5301, ⟨0, 50, .row 3 (List.map c50 x.snd.snd.snd)⟩)]⟩) (fun x ↦ dec81a x.fst x.snd.fst x.snd.snd.fst x.snd.snd.snd) (fun x ↦ inv81a t x.fst x.snd.fst x.snd.snd.fst x.snd.snd.snd) [0, 2, 3, 4, 5, 12] [2, 3, 11, 5301] (((0 : Int), (0 : Int), List.replicate (16 : Nat) (0 : Int), [])) (by kernel_rfl) (by kernel_rfl) (show inv81a t (0 : Int) (0 : Int) (List.replicate (16 : Nat) (0 : Int)) [] from ?g0) ?_; rotate_left 1
  rintro ⟨s_0, r_1, v_2, c_3⟩ h_4
  obtain ⟨h_5, h_6, h_7, h_8, h_9, h_10, h_11, h_12⟩ : (0 : Int) ≤ r_1 ∧ r_1 ≤ (16 : Int) ∧ (0 : Int) ≤ s_0 ∧ s_0 ≤ r_1 ∧ v_2.length = (16 : Nat) ∧ isSz t r_1 s_0 ∧ isVec t r_1 v_2 ∧ isCloud t r_1 c_3 := h_4
  refine sq ?_
  refine rg (A := (AV.b (decide (r_1 < (16 : Int))) = AV.b (decide (r_1 < (16 : Int))))) cx [(0, { tell := some (.b (decide (r_1 < (16 : Int)))) })] [0, 2, 3, 4, 5, 12, 13] [2, 3, 11, 5301] (by kernel_rfl) ?_
  refine sn ?_
  refine sq ?_
  refine st_dec (r_1 < (16 : Int)) (by kernel_rfl) (by kernel_rfl) (fun h_13 => ?_) (fun h_13 => ?_)
  refine st_skip (by kernel_rfl) ?_
  refine sn ?_
  refine sq ?_
  refine st_block 1 (by kernel_rfl) ?_
  refine sq ?_
  refine rg (A := True) cx [] [0, 2, 3, 4, 5, 12, 6] [2, 3, 11, 5301] trivial ?_
  refine sn ?_
  refine sq ?_
  have hl_14 := (rng_nrm (t r_1.toNat))
  refine rg (A := ((0 : Int) ≤ r_1) ∧ (r_1 < (↑(16 : Nat) : Int)) ∧ ((List.drop (r_1.toNat * (1 : Nat)) (tabC c82 (16 : Nat) t))[(0 : Nat)]? = some (AV.sl (List.map c82 (t r_1.toNat)))) ∧ _) cx [(4, { row := [.sl (List.map c82 (t r_1.toNat))] }), (5, { val := some (.tup [.i .i64 ((leadR (nrm (t r_1.toNat))).fst), .sl (List.map c82 (leadR (nrm (t r_1.toNat))).snd)]) })] [0, 2, 3, 4, 5, 12, 6, 7, 8] [2, 3, 11, 5301] ⟨(by (with_reducible assumption)), (by omega), (by (exact get_tabC_drop (by omega))), (con57 (t r_1.toNat) ?g1)⟩ ?_; rotate_left 1
  refine sn ?_
  refine sq ?_
  refine rg (A := ((0 : Int) ≤ r_1) ∧ (r_1.toNat < (List.map c3 v_2).length) ∧ ((1 : Nat) = 1) ∧ ((List.map c3 v_2)[r_1.toNat]? = some (c3 v_2[r_1.toNat]!)) ∧ ((cellsA (AV.i IntKind.i64 (leadR (nrm (t r_1.toNat))).fst)).length = (1 : Nat)) ∧ (0 + (1 : Nat) ≤ 1) ∧ ((List.map c3 v_2).set r_1.toNat (List.take (0) (c3 v_2[r_1.toNat]!) ++ cellsA (AV.i IntKind.i64 (leadR (nrm (t r_1.toNat))).fst) ++ List.drop (0 + (1 : Nat)) (c3 v_2[r_1.toNat]!)) = List.map c3 (v_2.set r_1.toNat (leadR (nrm (t r_1.toNat))).fst))) cx [(4, { row := (c3 v_2[r_1.toNat]!), rows := some (List.map c3 (v_2.set r_1.toNat (leadR (nrm (t r_1.toNat))).fst)) })] [0, 2, 3, 4, 5, 12, 6, 7, 8] [2, 3, 11, 5301] ⟨(by (with_reducible assumption)), (by (first | omega | (simp only [List.length_map]; omega))), (by kernel_rfl), (by (with_reducible refine get_map ?_; omega)), (by kernel_rfl), (by (first | omega | (simp only [List.length_map]; omega))), (by (with_reducible refine set_map ?_; kernel_rfl))⟩ ?_
  refine sn ?_
  refine sq ?_
  refine sq ?_
  refine rg (A := (AV.b (decide ((leadR (nrm (t r_1.toNat))).fst > (0 : Int))) = AV.b (decide ((0 : Int) < (leadR (nrm (t r_1.toNat))).fst)))) cx [(1, { tell := some (.b (decide ((0 : Int) < (leadR (nrm (t r_1.toNat))).fst))) })] [0, 2, 3, 4, 5, 12, 6, 8, 29] [2, 3, 11, 5301] (by kernel_rfl) ?_
  refine sn ?_
  refine st_dec ((0 : Int) < (leadR (nrm (t r_1.toNat))).fst) (by kernel_rfl) (by kernel_rfl) (fun h_15 => ?_) (fun h_15 => ?_)
  refine rg (A := (AV.i IntKind.i64 (IntKind.i64.wrap (r_1 + (1 : Int))) = AV.i IntKind.i64 (r_1 + (1 : Int)))) cx [(1, { tell := some (.i .i64 (r_1 + (1 : Int))) })] [0, 2, 3, 4, 5, 12, 6, 8] [2, 3, 11, 5301] (told_i64 (by omega) (by omega)) ?_
  refine sn ?_
  refine sq ?_
  refine rg (A := _) cx [(1, { tell := some (.i .i64 ((↑(leadR (nrm (t r_1.toNat))).snd.length : Int))) })] [0, 2, 3, 4, 5, 12, 6, 32, 33, 34] [2, 3, 11, 5301] (told_len c82 (leadR (nrm (t r_1.toNat))).snd) ?_
  refine sn ?_
  refine st_block 2 (by kernel_rfl) ?_
  refine st_loop (X := Int × List Int × List Span) (fun x => ⟨[(0, .eptr (tabC c82 (16 : Nat) t)), (2, .ptr (2) (0) (0) (0)), (3, .ptr (3) (0) (0) (0)), (4, .own 11 0), (5, .i .i64 (r_1 + (1 : Int))), (12, .i .i64 (r_1)), (6, .i .i64 (r_1)), (32, .sl (List.map c82 (leadR (nrm (t r_1.toNat))).snd)), (33, .i .i64 ((↑(leadR (nrm (t r_1.toNat))).snd.length : Int))), (34, .i .i64 (x.fst))], [(2, ⟨0, 25, .var [.nl, .nl]⟩), (3, ⟨0, 25, .var [.nl, .own 5301 0]⟩), (11, ⟨0, 3, .row 1 (List.map c3 x.snd.fst)⟩), (5301, ⟨0, 50, .row 3 (List.map c50 x.snd.snd)⟩)]⟩) (fun x ↦ dec81b t r_1 x.fst x.snd.fst x.snd.snd) (fun x ↦ inv81b t r_1 (v_2.set r_1.toNat (leadR (nrm (t r_1.toNat))).fst) x.fst x.snd.fst x.snd.snd) [0, 2, 3, 4, 5, 12, 6, 32, 33, 34] [2, 3, 11, 5301] (((0 : Int), v_2.set r_1.toNat (leadR (nrm (t r_1.toNat))).fst, c_3)) (by kernel_rfl) (by kernel_rfl) (show inv81b t r_1 (v_2.set r_1.toNat (leadR (nrm (t r_1.toNat))).fst) (0 : Int) (v_2.set r_1.toNat (leadR (nrm (t r_1.toNat))).fst) c_3 from ?g2) ?_; rotate_left 1
  rintro ⟨j_16, v_17, c_18⟩ h_19
  obtain ⟨h_20, h_21, h_22, h_23⟩ : v_17 = v_2.set r_1.toNat (leadR (nrm (t r_1.toNat))).fst ∧ (0 : Int) ≤ j_16 ∧ j_16 ≤ (↑(leadR (nrm (t r_1.toNat))).snd.length : Int) ∧ isCloud2 t r_1 j_16 c_18 := h_19
  refine sq ?_
  refine rg (A := (AV.b (decide (j_16 < (↑(leadR (nrm (t r_1.toNat))).snd.length : Int))) = AV.b (decide (j_16 < (↑(leadR (nrm (t r_1.toNat))).snd.length : Int))))) cx [(0, { tell := some (.b (decide (j_16 < (↑(leadR (nrm (t r_1.toNat))).snd.length : Int)))) })] [0, 2, 3, 4, 5, 12, 6, 32, 33, 34, 35] [2, 3, 11, 5301] (by kernel_rfl) ?_
  refine sn ?_
  refine sq ?_
  refine st_dec (j_16 < (↑(leadR (nrm (t r_1.toNat))).snd.length : Int)) (by kernel_rfl) (by kernel_rfl) (fun h_24 => ?_) (fun h_24 => ?_)
  refine st_skip (by kernel_rfl) ?_
  refine sn ?_
  refine sq ?_
  refine st_block 3 (by kernel_rfl) ?_
  refine sq ?_
  refine rg (A := ((0 : Int) ≤ j_16) ∧ ((List.map c82 (leadR (nrm (t r_1.toNat))).snd)[j_16.toNat]? = some (c82 (leadR (nrm (t r_1.toNat))).snd[j_16.toNat]!)) ∧ ((c82 (leadR (nrm (t r_1.toNat))).snd[j_16.toNat]!).length = (2 : Nat)) ∧ ((2 : Nat) ≤ [AV.i IntKind.i64 (leadR (nrm (t r_1.toNat))).snd[j_16.toNat]!.lo, AV.i IntKind.i64 (leadR (nrm (t r_1.toNat))).snd[j_16.toNat]!.hi].length)) cx [(0, { row := (c82 (leadR (nrm (t r_1.toNat))).snd[j_16.toNat]!) })] [0, 2, 3, 4, 5, 12, 6, 32, 33, 34, 10] [2, 3, 11, 5301, 10] ⟨(by (with_reducible assumption)), (by (with_reducible refine get_map ?_; omega)), (by kernel_rfl), (by (simp only [List.length_append, List.length_cons, List.length_nil]; omega))⟩ ?_
  refine sn ?_
  refine rg (A := (50 = (50 : Nat)) ∧ ((3 : Nat) = 3) ∧ ([AV.i IntKind.i64 (0 : Int), AV.i IntKind.i64 (0 : Int), AV.i IntKind.i64 (0 : Int)].length = (3 : Nat)) ∧ (∀ (r : List AV), r ∈ List.map c50 [{ rep := r_1, lo := (leadR (nrm (t r_1.toNat))).snd[j_16.toNat]!.lo, hi := (leadR (nrm (t r_1.toNat))).snd[j_16.toNat]!.hi : Span }] → r.length = 3) ∧ ((List.map c50 c_18).length + (List.map c50 [{ rep := r_1, lo := (leadR (nrm (t r_1.toNat))).snd[j_16.toNat]!.lo, hi := (leadR (nrm (t r_1.toNat))).snd[j_16.toNat]!.hi : Span }]).length ≤ maxLen) ∧ (((List.map c50 c_18).length + (List.map c50 [{ rep := r_1, lo := (leadR (nrm (t r_1.toNat))).snd[j_16.toNat]!.lo, hi := (leadR (nrm (t r_1.toNat))).snd[j_16.toNat]!.hi : Span }]).length) * (24 : Nat) ≤ (140737488355328 : Nat)) ∧ (List.map c50 c_18 ++ List.map c50 [{ rep := r_1, lo := (leadR (nrm (t r_1.toNat))).snd[j_16.toNat]!.lo, hi := (leadR (nrm (t r_1.toNat))).snd[j_16.toNat]!.hi : Span }] = List.map c50 (c_18 ++ [{ rep := r_1, lo := (leadR (nrm (t r_1.toNat))).snd[j_16.toNat]!.lo, hi := (leadR (nrm (t r_1.toNat))).snd[j_16.toNat]!.hi : Span }]))) cx [(9, { rows := some (List.map c50 (c_18 ++ [{ rep := r_1, lo := (leadR (nrm (t r_1.toNat))).snd[j_16.toNat]!.lo, hi := (leadR (nrm (t r_1.toNat))).snd[j_16.toNat]!.hi : Span }])) })] [0, 2, 3, 4, 5, 12, 6, 32, 33, 34] [2, 3, 11, 5301] ⟨(by kernel_rfl), (by kernel_rfl), (by kernel_rfl), (by (with_reducible refine len_map (fun _ => ?_) _; kernel_rfl)), ?g3, ?g4, (by (with_reducible refine app_map ?_; kernel_rfl))⟩ ?_; rotate_left 2
  refine q_blk_normal ?_
  refine sn ?_
  refine rg (A := (AV.i IntKind.i64 (IntKind.i64.wrap (j_16 + (1 : Int))) = AV.i IntKind.i64 (j_16 + (1 : Int)))) cx [(0, { tell := some (.i .i64 (j_16 + (1 : Int))) })] [0, 2, 3, 4, 5, 12, 6, 32, 33, 34] [2, 3, 11, 5301] (told_i64 (by omega) ?g5) ?_; rotate_left 1
  refine sn ?_
  refine loop_next ((j_16 + (1 : Int), v_17, c_18 ++ [{ rep := r_1, lo := (leadR (nrm (t r_1.toNat))).snd[j_16.toNat]!.lo, hi := (leadR (nrm (t r_1.toNat))).snd[j_16.toNat]!.hi : Span }])) (by kernel_rfl) (show ((↑(leadR (nrm (t r_1.toNat))).snd.length : Int) - (j_16 + (1 : Int))).toNat < ((↑(leadR (nrm (t r_1.toNat))).snd.length : Int) - j_16).toNat from (by omega)) (show inv81b t r_1 (v_2.set r_1.toNat (leadR (nrm (t r_1.toNat))).fst) (j_16 + (1 : Int)) v_17 (c_18 ++ [{ rep := r_1, lo := (leadR (nrm (t r_1.toNat))).snd[j_16.toNat]!.lo, hi := (leadR (nrm (t r_1.toNat))).snd[j_16.toNat]!.hi : Span }]) from ?g6); rotate_left 1
  refine st_exit 2 (by kernel_rfl) ?_
  refine q_seq_exit ?_
  refine q_seq_exit ?_
  refine q_blk_hit ?_
  refine q_blk_normal ?_
  refine sn ?_
  refine rg (A := (AV.i IntKind.i64 (IntKind.i64.wrap (r_1 + (1 : Int))) = AV.i IntKind.i64 (r_1 + (1 : Int)))) cx [(0, { tell := some (.i .i64 (r_1 + (1 : Int))) })] [0, 2, 3, 4, 5, 12] [2, 3, 11, 5301] (told_i64 (by omega) (by omega)) ?_
  refine sn ?_
  refine loop_next ((r_1 + (1 : Int), r_1 + (1 : Int), v_17, c_18)) (by kernel_rfl) (show ((16 : Int) - (r_1 + (1 : Int))).toNat < ((16 : Int) - r_1).toNat from (by omega)) (show inv81a t (r_1 + (1 : Int)) (r_1 + (1 : Int)) v_17 c_18 from ?g7); rotate_left 1
  refine st_skip (by kernel_rfl) ?_
  refine sn ?_
  refine sq ?_
  refine rg (A := _) cx [(1, { tell := some (.i .i64 ((↑(leadR (nrm (t r_1.toNat))).snd.length : Int))) })] [0, 2, 3, 4, 5, 12, 6, 32, 33, 34] [2, 3, 11, 5301] (told_len c82 (leadR (nrm (t r_1.toNat))).snd) ?_
  refine sn ?_
  refine st_block 2 (by kernel_rfl) ?_
  refine st_loop (X := Int × List Int × List Span) (fun x => ⟨[(0, .eptr (tabC c82 (16 : Nat) t)), (2, .ptr (2) (0) (0) (0)), (3, .ptr (3) (0) (0) (0)), (4, .own 11 0), (5, .i .i64 (s_0)), (12, .i .i64 (r_1)), (6, .i .i64 (r_1)), (32, .sl (List.map c82 (leadR (nrm (t r_1.toNat))).snd)), (33, .i .i64 ((↑(leadR (nrm (t r_1.toNat))).snd.length : Int))), (34, .i .i64 (x.fst))], [(2, ⟨0, 25, .var [.nl, .nl]⟩), (3, ⟨0, 25, .var [.nl, .own 5301 0]⟩), (11, ⟨0, 3, .row 1 (List.map c3 x.snd.fst)⟩), (5301, ⟨0, 50, .row 3 (List.map c50 x.snd.snd)⟩)]⟩) (fun x ↦ dec81b t r_1 x.fst x.snd.fst x.snd.snd) (fun x ↦ inv81b t r_1 (v_2.set r_1.toNat (leadR (nrm (t r_1.toNat))).fst) x.fst x.snd.fst x.snd.snd) [0, 2, 3, 4, 5, 12, 6, 32, 33, 34] [2, 3, 11, 5301] (((0 : Int), v_2.set r_1.toNat (leadR (nrm (t r_1.toNat))).fst, c_3)) (by kernel_rfl) (by kernel_rfl) (show inv81b t r_1 (v_2.set r_1.toNat (leadR (nrm (t r_1.toNat))).fst) (0 : Int) (v_2.set r_1.toNat (leadR (nrm (t r_1.toNat))).fst) c_3 from ?g8) ?_; rotate_left 1
  rintro ⟨j_25, v_26, c_27⟩ h_28
  obtain ⟨h_29, h_30, h_31, h_32⟩ : v_26 = v_2.set r_1.toNat (leadR (nrm (t r_1.toNat))).fst ∧ (0 : Int) ≤ j_25 ∧ j_25 ≤ (↑(leadR (nrm (t r_1.toNat))).snd.length : Int) ∧ isCloud2 t r_1 j_25 c_27 := h_28
  refine sq ?_
  refine rg (A := (AV.b (decide (j_25 < (↑(leadR (nrm (t r_1.toNat))).snd.length : Int))) = AV.b (decide (j_25 < (↑(leadR (nrm (t r_1.toNat))).snd.length : Int))))) cx [(0, { tell := some (.b (decide (j_25 < (↑(leadR (nrm (t r_1.toNat))).snd.length : Int)))) })] [0, 2, 3, 4, 5, 12, 6, 32, 33, 34, 35] [2, 3, 11, 5301] (by kernel_rfl) ?_
  refine sn ?_
  refine sq ?_
  refine st_dec (j_25 < (↑(leadR (nrm (t r_1.toNat))).snd.length : Int)) (by kernel_rfl) (by kernel_rfl) (fun h_33 => ?_) (fun h_33 => ?_)
  refine st_skip (by kernel_rfl) ?_
  refine sn ?_
  refine sq ?_
  refine st_block 3 (by kernel_rfl) ?_
  refine sq ?_
  refine rg (A := ((0 : Int) ≤ j_25) ∧ ((List.map c82 (leadR (nrm (t r_1.toNat))).snd)[j_25.toNat]? = some (c82 (leadR (nrm (t r_1.toNat))).snd[j_25.toNat]!)) ∧ ((c82 (leadR (nrm (t r_1.toNat))).snd[j_25.toNat]!).length = (2 : Nat)) ∧ ((2 : Nat) ≤ [AV.i IntKind.i64 (leadR (nrm (t r_1.toNat))).snd[j_25.toNat]!.lo, AV.i IntKind.i64 (leadR (nrm (t r_1.toNat))).snd[j_25.toNat]!.hi].length)) cx [(0, { row := (c82 (leadR (nrm (t r_1.toNat))).snd[j_25.toNat]!) })] [0, 2, 3, 4, 5, 12, 6, 32, 33, 34, 10] [2, 3, 11, 5301, 10] ⟨(by (with_reducible assumption)), (by (with_reducible refine get_map ?_; omega)), (by kernel_rfl), (by (simp only [List.length_append, List.length_cons, List.length_nil]; omega))⟩ ?_
  refine sn ?_
  refine rg (A := (50 = (50 : Nat)) ∧ ((3 : Nat) = 3) ∧ ([AV.i IntKind.i64 (0 : Int), AV.i IntKind.i64 (0 : Int), AV.i IntKind.i64 (0 : Int)].length = (3 : Nat)) ∧ (∀ (r : List AV), r ∈ List.map c50 [{ rep := r_1, lo := (leadR (nrm (t r_1.toNat))).snd[j_25.toNat]!.lo, hi := (leadR (nrm (t r_1.toNat))).snd[j_25.toNat]!.hi : Span }] → r.length = 3) ∧ ((List.map c50 c_27).length + (List.map c50 [{ rep := r_1, lo := (leadR (nrm (t r_1.toNat))).snd[j_25.toNat]!.lo, hi := (leadR (nrm (t r_1.toNat))).snd[j_25.toNat]!.hi : Span }]).length ≤ maxLen) ∧ (((List.map c50 c_27).length + (List.map c50 [{ rep := r_1, lo := (leadR (nrm (t r_1.toNat))).snd[j_25.toNat]!.lo, hi := (leadR (nrm (t r_1.toNat))).snd[j_25.toNat]!.hi : Span }]).length) * (24 : Nat) ≤ (140737488355328 : Nat)) ∧ (List.map c50 c_27 ++ List.map c50 [{ rep := r_1, lo := (leadR (nrm (t r_1.toNat))).snd[j_25.toNat]!.lo, hi := (leadR (nrm (t r_1.toNat))).snd[j_25.toNat]!.hi : Span }] = List.map c50 (c_27 ++ [{ rep := r_1, lo := (leadR (nrm (t r_1.toNat))).snd[j_25.toNat]!.lo, hi := (leadR (nrm (t r_1.toNat))).snd[j_25.toNat]!.hi : Span }]))) cx [(9, { rows := some (List.map c50 (c_27 ++ [{ rep := r_1, lo := (leadR (nrm (t r_1.toNat))).snd[j_25.toNat]!.lo, hi := (leadR (nrm (t r_1.toNat))).snd[j_25.toNat]!.hi : Span }])) })] [0, 2, 3, 4, 5, 12, 6, 32, 33, 34] [2, 3, 11, 5301] ⟨(by kernel_rfl), (by kernel_rfl), (by kernel_rfl), (by (with_reducible refine len_map (fun _ => ?_) _; kernel_rfl)), ?g9, ?g10, (by (with_reducible refine app_map ?_; kernel_rfl))⟩ ?_; rotate_left 2
  refine q_blk_normal ?_
  refine sn ?_
  refine rg (A := (AV.i IntKind.i64 (IntKind.i64.wrap (j_25 + (1 : Int))) = AV.i IntKind.i64 (j_25 + (1 : Int)))) cx [(0, { tell := some (.i .i64 (j_25 + (1 : Int))) })] [0, 2, 3, 4, 5, 12, 6, 32, 33, 34] [2, 3, 11, 5301] (told_i64 (by omega) ?g11) ?_; rotate_left 1
  refine sn ?_
  refine loop_next ((j_25 + (1 : Int), v_26, c_27 ++ [{ rep := r_1, lo := (leadR (nrm (t r_1.toNat))).snd[j_25.toNat]!.lo, hi := (leadR (nrm (t r_1.toNat))).snd[j_25.toNat]!.hi : Span }])) (by kernel_rfl) (show ((↑(leadR (nrm (t r_1.toNat))).snd.length : Int) - (j_25 + (1 : Int))).toNat < ((↑(leadR (nrm (t r_1.toNat))).snd.length : Int) - j_25).toNat from (by omega)) (show inv81b t r_1 (v_2.set r_1.toNat (leadR (nrm (t r_1.toNat))).fst) (j_25 + (1 : Int)) v_26 (c_27 ++ [{ rep := r_1, lo := (leadR (nrm (t r_1.toNat))).snd[j_25.toNat]!.lo, hi := (leadR (nrm (t r_1.toNat))).snd[j_25.toNat]!.hi : Span }]) from ?g12); rotate_left 1
  refine st_exit 2 (by kernel_rfl) ?_
  refine q_seq_exit ?_
  refine q_seq_exit ?_
  refine q_blk_hit ?_
  refine q_blk_normal ?_
  refine sn ?_
  refine rg (A := (AV.i IntKind.i64 (IntKind.i64.wrap (r_1 + (1 : Int))) = AV.i IntKind.i64 (r_1 + (1 : Int)))) cx [(0, { tell := some (.i .i64 (r_1 + (1 : Int))) })] [0, 2, 3, 4, 5, 12] [2, 3, 11, 5301] (told_i64 (by omega) (by omega)) ?_
  refine sn ?_
  refine loop_next ((s_0, r_1 + (1 : Int), v_26, c_27)) (by kernel_rfl) (show ((16 : Int) - (r_1 + (1 : Int))).toNat < ((16 : Int) - r_1).toNat from (by omega)) (show inv81a t s_0 (r_1 + (1 : Int)) v_26 c_27 from ?g13); rotate_left 1
  refine st_exit 0 (by kernel_rfl) ?_
  refine q_seq_exit ?_
  refine q_seq_exit ?_
  refine q_blk_hit ?_
  refine sn ?_
  refine sq ?_
  refine sq ?_
  refine rg (A := (AV.b (decide (s_0 > (0 : Int))) = AV.b (decide ((0 : Int) < s_0)))) cx [(1, { tell := some (.b (decide ((0 : Int) < s_0))) })] [2, 3, 4, 5, 52] [2, 3, 11, 5301] (by kernel_rfl) ?_
  refine sn ?_
  refine st_dec ((0 : Int) < s_0) (by kernel_rfl) (by kernel_rfl) (fun h_34 => ?_) (fun h_34 => ?_)
  refine rg (A := ((0 : Int) ≤ (0 : Int)) ∧ ((0 : Int) ≤ s_0) ∧ (s_0 ≤ (↑(List.map c3 v_2).length : Int)) ∧ ((0 : Int) < (↑(List.map c3 v_2).length : Int)) ∧ (Option.map TI.size (E.look tab (3 : Nat)) = some (1)) ∧ (ConB Try.prog (58 : Nat) [AV.sl (List.take (s_0 - (0 : Int)).toNat (List.drop (0) (List.map c3 v_2)))] (3 : Nat) (BK.row (1 : Nat) (List.map c3 (List.take (s_0 - (0 : Int)).toNat (List.drop (0) v_2)))))) cx [(3, { val := some (.own (3 : Nat) (1 : Nat)), rows := some (List.map c3 (List.take (s_0 - (0 : Int)).toNat (List.drop (0) v_2))) })] [2, 3] [2, 3, 5301, 56] ⟨(by omega), (by (with_reducible assumption)), (by (first | omega | (simp only [List.length_map]; omega))), (by (first | omega | (simp only [List.length_map]; omega))), (by kernel_rfl), (ConB.le (con58 (List.take (s_0 - (0 : Int)).toNat (List.drop (0) v_2)) ?g14) (ZLe.cons (AVle.eq (by simp only [List.map_take, List.map_drop])) ZLe.nil))⟩ ?_; rotate_left 1
  refine sn ?_
  refine sq ?_
  refine awp_norm [56, 5301] [2, 3] [2, 3] (σ' := ⟨[(2, .ptr (2) (0) (0) (0)), (3, .ptr (3) (0) (0) (0))], [(2, ⟨0, 25, .var [.nl, .nl]⟩), (3, ⟨0, 25, .var [.sl (((E.look [(3, { val := some (AV.own (3 : Nat) (1 : Nat)), rows := some (List.map c3 (List.take (s_0 - (0 : Int)).toNat (List.drop (0) v_2))) : Ov })] (3)).getD { : Ov }).rows.getD []), .sl (List.map c50 c_3)]⟩)]⟩) (by kernel_rfl) ?_
  refine rg (A := True) cx [] [2] [2, 3] trivial ?_
  refine sn ?_
  refine st_ret (by kernel_rfl) ?_
  refine q_ret (r := .agg [.sl (((E.look [(3, { val := some (AV.own (3 : Nat) (1 : Nat)), rows := some (List.map c3 (List.take (s_0 - (0 : Int)).toNat (List.drop (0) v_2))) : Ov })] (3)).getD { : Ov }).rows.getD []), .sl (List.map c50 c_3)]) (obl := []) (by kernel_rfl) trivial (AVle.eq (show AV.agg [AV.sl (((E.look [(3, { val := some (AV.own (3 : Nat) (1 : Nat)), rows := some (List.map c3 (List.take (s_0 - (0 : Int)).toNat (List.drop (0) v_2))) : Ov })] (3)).getD { : Ov }).rows.getD []), AV.sl (List.map c50 c_3)] = AV.agg (c25 (tabP t)) from ?g15)); rotate_left 1
  refine st_skip (by kernel_rfl) ?_
  refine sn ?_
  refine sq ?_
  refine awp_norm [5301] [2, 3, 4, 5, 52] [2, 3, 11] (σ' := ⟨[(2, .ptr (2) (0) (0) (0)), (3, .ptr (3) (0) (0) (0)), (4, .own 11 0), (5, .i .i64 (s_0)), (52, .b (decide ((0 : Int) < s_0)))], [(2, ⟨0, 25, .var [.nl, .nl]⟩), (3, ⟨0, 25, .var [.nl, .sl (List.map c50 c_3)]⟩), (11, ⟨0, 3, .row 1 (List.map c3 v_2)⟩)]⟩) (by kernel_rfl) ?_
  refine rg (A := True) cx [] [2] [2] trivial ?_
  refine sn ?_
  refine st_ret (by kernel_rfl) ?_
  refine q_ret (r := .agg [.nl, .sl (List.map c50 c_3)]) (obl := []) (by kernel_rfl) trivial (AVle.agg (ZLe.cons (AVle.nl' (show List.map c3 (tabP t).vec = [] from ?g17)) (ZLe.cons (AVle.eq (show AV.sl (List.map c50 c_3) = AV.sl (List.map c50 (tabP t).cloud) from ?g16)) ZLe.nil))); rotate_left 2
  rotate_left
  clear hl_14; revert s_0 r_1 v_2 c_3 h_5 h_6 h_7 h_8 h_9 h_10 h_11 h_12 h_13; rotate_left
  clear hl_14; revert s_0 r_1 v_2 c_3 h_5 h_6 h_7 h_8 h_9 h_10 h_11 h_12 h_13 h_15; rotate_left
  clear hl_14; revert s_0 r_1 v_2 c_3 h_5 h_6 h_7 h_8 h_9 h_10 h_11 h_12 h_13 h_15 j_16 v_17 c_18 h_20 h_21 h_22 h_23 h_24; rotate_left
  clear hl_14; revert s_0 r_1 v_2 c_3 h_5 h_6 h_7 h_8 h_9 h_10 h_11 h_12 h_13 h_15 j_16 v_17 c_18 h_20 h_21 h_22 h_23 h_24; rotate_left
  clear hl_14; revert s_0 r_1 v_2 c_3 h_5 h_6 h_7 h_8 h_9 h_10 h_11 h_12 h_13 h_15 j_16 v_17 c_18 h_20 h_21 h_22 h_23 h_24; rotate_left
  clear hl_14; revert s_0 r_1 v_2 c_3 h_5 h_6 h_7 h_8 h_9 h_10 h_11 h_12 h_13 h_15 j_16 v_17 c_18 h_20 h_21 h_22 h_23 h_24; rotate_left
  clear hl_14; revert s_0 r_1 v_2 c_3 h_5 h_6 h_7 h_8 h_9 h_10 h_11 h_12 h_13 h_15 j_16 v_17 c_18 h_20 h_21 h_22 h_23 h_24; rotate_left
  clear hl_14; revert s_0 r_1 v_2 c_3 h_5 h_6 h_7 h_8 h_9 h_10 h_11 h_12 h_13 h_15; rotate_left
  clear hl_14; revert s_0 r_1 v_2 c_3 h_5 h_6 h_7 h_8 h_9 h_10 h_11 h_12 h_13 h_15 j_25 v_26 c_27 h_29 h_30 h_31 h_32 h_33; rotate_left
  clear hl_14; revert s_0 r_1 v_2 c_3 h_5 h_6 h_7 h_8 h_9 h_10 h_11 h_12 h_13 h_15 j_25 v_26 c_27 h_29 h_30 h_31 h_32 h_33; rotate_left
  clear hl_14; revert s_0 r_1 v_2 c_3 h_5 h_6 h_7 h_8 h_9 h_10 h_11 h_12 h_13 h_15 j_25 v_26 c_27 h_29 h_30 h_31 h_32 h_33; rotate_left
  clear hl_14; revert s_0 r_1 v_2 c_3 h_5 h_6 h_7 h_8 h_9 h_10 h_11 h_12 h_13 h_15 j_25 v_26 c_27 h_29 h_30 h_31 h_32 h_33; rotate_left
  clear hl_14; revert s_0 r_1 v_2 c_3 h_5 h_6 h_7 h_8 h_9 h_10 h_11 h_12 h_13 h_15 j_25 v_26 c_27 h_29 h_30 h_31 h_32 h_33; rotate_left
  revert s_0 r_1 v_2 c_3 h_5 h_6 h_7 h_8 h_9 h_10 h_11 h_12 h_13 h_34; rotate_left
  revert s_0 r_1 v_2 c_3 h_5 h_6 h_7 h_8 h_9 h_10 h_11 h_12 h_13 h_34; rotate_left
  revert s_0 r_1 v_2 c_3 h_5 h_6 h_7 h_8 h_9 h_10 h_11 h_12 h_13 h_34; rotate_left
  revert s_0 r_1 v_2 c_3 h_5 h_6 h_7 h_8 h_9 h_10 h_11 h_12 h_13 h_34; rotate_left
  case g0 => exact ⟨by omega, by omega, by omega, by omega, by simp, rfl, by simp [isVec, vecT], rfl⟩
  case g1 => intro s r v c h0 h1 h2 h3 h4 h5 h6 h7 h8; exact hb _ (by omega)
  case g2 => intro s r v c h0 h1 h2 h3 h4 h5 h6 h7 h8 h9; exact ⟨rfl, by omega, by omega, cloud2_start h7⟩
  case g8 => intro s r v c h0 h1 h2 h3 h4 h5 h6 h7 h8 h9; exact ⟨rfl, by omega, by omega, cloud2_start h7⟩
  case g3 => intro s r v c h0 h1 h2 h3 h4 h5 h6 h7 h8 h9 j w d k0 k1 k2 k3 k4; have := cloud2_len h0 h8 k3; simp only [List.length_map, List.length_cons, List.length_nil, Go.maxLen]; omega
  case g9 => intro s r v c h0 h1 h2 h3 h4 h5 h6 h7 h8 h9 j w d k0 k1 k2 k3 k4; have := cloud2_len h0 h8 k3; simp only [List.length_map, List.length_cons, List.length_nil, Go.maxLen]; omega
  case g4 => intro s r v c h0 h1 h2 h3 h4 h5 h6 h7 h8 h9 j w d k0 k1 k2 k3 k4; have := cloud2_len h0 h8 k3; simp only [List.length_map, List.length_cons, List.length_nil]; omega
  case g10 => intro s r v c h0 h1 h2 h3 h4 h5 h6 h7 h8 h9 j w d k0 k1 k2 k3 k4; have := cloud2_len h0 h8 k3; simp only [List.length_map, List.length_cons, List.length_nil]; omega
  case g5 => intro s r v c h0 h1 h2 h3 h4 h5 h6 h7 h8 h9 j w d k0 k1 k2 k3 k4; have := rest_len t r.toNat; omega
  case g11 => intro s r v c h0 h1 h2 h3 h4 h5 h6 h7 h8 h9 j w d k0 k1 k2 k3 k4; have := rest_len t r.toNat; omega
  case g6 => intro s r v c h0 h1 h2 h3 h4 h5 h6 h7 h8 h9 j w d k0 k1 k2 k3 k4; exact ⟨k0, by omega, by omega, cloud2_next h0 k1 k4 k3⟩
  case g12 => intro s r v c h0 h1 h2 h3 h4 h5 h6 h7 h8 h9 j w d k0 k1 k2 k3 k4; exact ⟨k0, by omega, by omega, cloud2_next h0 k1 k4 k3⟩
  case g7 =>
    intro s r v c h0 h1 h2 h3 h4 h5 h6 h7 h8 h9 j w d k0 k1 k2 k3 k4
    have hs := sz_next h0 h5
    rw [if_pos h9] at hs
    subst k0
    exact ⟨by omega, by omega, by omega, by omega, by simpa using h4, hs, vec_next h0 h8 h6, cloud_next h0 k4 k3⟩
  case g13 =>
    intro s r v c h0 h1 h2 h3 h4 h5 h6 h7 h8 h9 j w d k0 k1 k2 k3 k4
    have hs := sz_next h0 h5
    rw [if_neg h9] at hs
    subst k0
    exact ⟨by omega, by omega, by omega, by omega, by simpa using h4, hs, vec_next h0 h8 h6, cloud_next h0 k4 k3⟩
  case g14 => intro s r v c h0 h1 h2 h3 h4 h5 h6 h7 h8 h9; rw [List.drop_zero, List.length_take]; omega
  case g15 =>
    intro s r v c h0 h1 h2 h3 h4 h5 h6 h7 h8 h9
    rw [tab_end h1 h8 h5 h6 h7]
    show AV.agg [AV.sl (List.map c3 (List.take (s - 0).toNat (List.drop 0 v))), AV.sl (List.map c50 c)] = _
    rw [List.drop_zero, Int.sub_zero]
    rfl
  case g16 => intro s r v c h0 h1 h2 h3 h4 h5 h6 h7 h8 h9; rw [tab_end h1 h8 h5 h6 h7]
  case g17 => intro s r v c h0 h1 h2 h3 h4 h5 h6 h7 h8 h9; rw [tab_end h1 h8 h5 h6 h7, show s.toNat = 0 by omega]; rfl
end Go.Proofs.Ytaiepnaokhpmcaa
namespace Go.Proofs.Ytaiepnaokhpmcaa
open Go.E
set_option maxRecDepth 100000
set_option maxHeartbeats 4000000
def dotB (d : Dot) : Bool := decide (0 ≤ d.rep ∧ d.rep < 16 ∧ 1 ≤ d.num ∧ d.num ≤ 1000000000)
def ofT (dots : List Dot) (r : Nat) : List Run := (dots.filter fun d => dotB d && decide (d.rep = r)).map fun d => ⟨d.num, d.num⟩
def isTab (dots : List Dot) (i : Int) (T : Nat → List Run) : Prop := ∀ r : Nat, r < 16 → T r = ofT (dots.take i.toNat) r
def inv62 (dots : List Dot) (i : Int) (T : Nat → List Run) : Prop := 0 ≤ i ∧ i ≤ dots.length ∧ isTab dots i T
def dec62 (dots : List Dot) (i : Int) (T : Nat → List Run) : Nat := (dots.length - i).toNat
theorem tabP_congr {T U : Nat → List Run} (h : ∀ r : Nat, r < 16 → T r = U r) : tabP T = tabP U := by
  have hl : ∀ n : Nat, n ≤ 16 → szT T n = szT U n ∧ cloudT T n = cloudT U n := by
    intro n
    induction n with
    | zero => intro _; exact ⟨rfl, rfl⟩
    | succ n ih =>
      intro hn
      obtain ⟨h1, h2⟩ := ih (by omega)
      have e := h n (by omega)
      exact ⟨by rw [szT, szT, h1, leadT, leadT, e], by rw [cloudT, cloudT, h2, restT, restT, e]⟩
  have hv : vecT T 16 = vecT U 16 := by
    unfold vecT
    congr 1
    refine List.map_congr_left fun r hr => ?_
    have hr : r < 16 := by simpa using hr
    rw [leadT, leadT, h r hr]
  unfold tabP
  rw [(hl 16 (Nat.le_refl _)).1, (hl 16 (Nat.le_refl _)).2, hv]
theorem ofT_len (dots : List Dot) (r : Nat) : (ofT dots r).length ≤ dots.length := by
  unfold ofT
  rw [List.length_map]
  exact List.length_filter_le _ _
theorem ofT_app (a : List Dot) (d : Dot) (r : Nat) : ofT (a ++ [d]) r = ofT a r ++ if dotB d = true ∧ d.rep = (r : Int) then [⟨d.num, d.num⟩] else [] := by
  unfold ofT
  rw [List.filter_append, List.map_append]
  congr 1
  by_cases h : dotB d = true ∧ d.rep = (r : Int)
  · rw [if_pos h]; simp [List.filter_cons, h.1, h.2]
  · rw [if_neg h]
    have : (dotB d && decide (d.rep = (r : Int))) = false := by
      rw [Bool.and_eq_false_iff]
      by_cases h1 : dotB d = true
      · exact .inr (by simpa using fun h2 => h ⟨h1, h2⟩)
      · exact .inl (by simpa using h1)
    simp [List.filter_cons, this]
theorem dotB_in {d : Dot} (h : dotB d = true) : 0 ≤ d.rep ∧ d.rep < 16 ∧ 1 ≤ d.num ∧ d.num ≤ 1000000000 := by
  unfold dotB at h
  simpa using h
theorem tab_len {dots : List Dot} {i : Int} {T : Nat → List Run} (h1 : i ≤ dots.length) (ht : isTab dots i T) {r : Nat} (hr : r < 16) : ((T r).length : Int) ≤ i ∨ (T r).length = 0 := by
  rw [ht r hr]
  have := ofT_len (dots.take i.toNat) r
  rw [List.length_take] at this
  omega
theorem tab_in {dots : List Dot} {i : Int} {T : Nat → List Run} (h0 : 0 ≤ i) (h1 : i < dots.length) (ht : isTab dots i T) (hd : dotB dots[i.toNat]! = true) :
    isTab dots (i + 1) (updF T dots[i.toNat]!.rep.toNat (T dots[i.toNat]!.rep.toNat ++ [⟨dots[i.toNat]!.num, dots[i.toNat]!.num⟩])) := by
  intro r hr
  have hb := dotB_in hd
  rw [← take_step h0 h1, ofT_app]
  unfold updF
  by_cases e : r = dots[i.toNat]!.rep.toNat
  · rw [if_pos e, if_pos ⟨hd, by omega⟩, ← e, ht r hr]
  · rw [if_neg e, if_neg (fun k => e (by omega)), List.append_nil, ht r hr]
theorem tab_out {dots : List Dot} {i : Int} {T : Nat → List Run} (h0 : 0 ≤ i) (h1 : i < dots.length) (ht : isTab dots i T) (hd : dotB dots[i.toNat]! = false) : isTab dots (i + 1) T := by
  intro r hr
  rw [← take_step h0 h1, ofT_app, if_neg (fun k => by rw [hd] at k; cases k.1), List.append_nil, ht r hr]
end Go.Proofs.Ytaiepnaokhpmcaa
namespace Go.Proofs.Ytaiepnaokhpmcaa
open Go.E
set_option maxRecDepth 100000
set_option maxHeartbeats 4000000
def vecR (v : List Int) (r : Nat) : List Run := if r < v.length then [⟨1, v[r]!⟩] else []
def cloudR (c : List Span) (r : Nat) : List Run := (c.filter fun (s : Span) => decide (s.rep = (r : Int))).map fun s => ⟨s.lo, s.hi⟩
def openT (ps : List Past) (r : Nat) : List Run := (ps.map fun p => vecR p.vec r ++ cloudR p.cloud r).flatten
def isOpen (ps : List Past) (i : Int) (T : Nat → List Run) : Prop := ∀ r : Nat, r < 16 → T r = openT (ps.take i.toNat) r
def isOpenV (ps : List Past) (i j : Int) (T : Nat → List Run) : Prop := ∀ r : Nat, r < 16 → T r = openT (ps.take i.toNat) r ++ if (r : Int) < j then vecR (ps[i.toNat]!).vec r else []
def isOpenC (ps : List Past) (i j : Int) (T : Nat → List Run) : Prop := ∀ r : Nat, r < 16 → T r = openT (ps.take i.toNat) r ++ vecR (ps[i.toNat]!).vec r ++ cloudR ((ps[i.toNat]!).cloud.take j.toNat) r
def inv117a (ps : List Past) (i : Int) (T : Nat → List Run) : Prop := 0 ≤ i ∧ i ≤ ps.length ∧ isOpen ps i T
def dec117a (ps : List Past) (i : Int) (T : Nat → List Run) : Nat := (ps.length - i).toNat
def inv117b (ps : List Past) (i : Int) (n : Int) (j : Int) (T : Nat → List Run) (v : List Int) (c : List Span) : Prop := v = (ps[i.toNat]!).vec ∧ c = (ps[i.toNat]!).cloud ∧ 0 ≤ j ∧ j ≤ n ∧ isOpenV ps i j T
def dec117b (n : Int) (j : Int) (T : Nat → List Run) (v : List Int) (c : List Span) : Nat := (n - j).toNat
def inv117c (ps : List Past) (i : Int) (j : Int) (T : Nat → List Run) : Prop := 0 ≤ j ∧ j ≤ (ps[i.toNat]!).cloud.length ∧ isOpenC ps i j T
def dec117c (ps : List Past) (i : Int) (j : Int) (T : Nat → List Run) : Nat := ((ps[i.toNat]!).cloud.length - j).toNat
def totP (ps : List Past) : Nat := (ps.map fun p => p.cloud.length + 1).sum
theorem openT_app (a : List Past) (p : Past) (r : Nat) : openT (a ++ [p]) r = openT a r ++ (vecR p.vec r ++ cloudR p.cloud r) := by simp [openT]
theorem vecR_len (v : List Int) (r : Nat) : (vecR v r).length ≤ 1 := by unfold vecR; split <;> simp
theorem cloudR_len (c : List Span) (r : Nat) : (cloudR c r).length ≤ c.length := by
  unfold cloudR
  rw [List.length_map]
  exact List.length_filter_le _ _
theorem openT_len (r : Nat) : ∀ ps : List Past, (openT ps r).length ≤ totP ps
  | [] => by simp [openT]
  | p :: ps => by
    have h1 := openT_len r ps
    have h2 := vecR_len p.vec r
    have h3 := cloudR_len p.cloud r
    simp only [openT, totP, List.map_cons, List.flatten_cons, List.length_append, List.sum_cons] at *
    omega
theorem totP_app (a b : List Past) : totP (a ++ b) = totP a + totP b := by simp [totP]
theorem totP_take {ps : List Past} {i : Int} (h0 : 0 ≤ i) (h : i < ps.length) : totP (ps.take i.toNat) + (ps[i.toNat]!).cloud.length + 1 ≤ totP ps := by
  have e : totP ps = totP (ps.take (i + 1).toNat) + totP (ps.drop (i + 1).toNat) := by
    rw [← totP_app, List.take_append_drop]
  rw [← take_step h0 h] at e
  simp only [totP, List.map_append, List.sum_append, List.map_cons, List.map_nil, List.sum_cons, List.sum_nil] at *
  omega
theorem openV_start {ps : List Past} {i : Int} {T : Nat → List Run} (h : isOpen ps i T) : isOpenV ps i 0 T := fun r hr => by
  rw [h r hr, if_neg (by omega), List.append_nil]
theorem openV_next {ps : List Past} {i j : Int} {T : Nat → List Run} (j0 : 0 ≤ j) (jl : j < (ps[i.toNat]!).vec.length) (h : isOpenV ps i j T) :
    isOpenV ps i (j + 1) (updF T j.toNat (T j.toNat ++ [⟨1, (ps[i.toNat]!).vec[j.toNat]!⟩])) := by
  intro r hr
  unfold updF
  by_cases e : r = j.toNat
  · rw [if_pos e, ← e, h r hr, if_neg (by omega), if_pos (by omega), List.append_nil, vecR, if_pos (by omega)]
  · rw [if_neg e, h r hr]
    by_cases k : (r : Int) < j
    · rw [if_pos k, if_pos (by omega)]
    · rw [if_neg k, if_neg (by omega)]
theorem openC_start {ps : List Past} {i j : Int} {T : Nat → List Run} (j1 : j ≤ min ((ps[i.toNat]!).vec.length : Int) 16) (jl : ¬ j < min ((ps[i.toNat]!).vec.length : Int) 16) (h : isOpenV ps i j T) : isOpenC ps i 0 T := by
  intro r hr
  rw [h r hr, show (0 : Int).toNat = 0 from rfl, List.take_zero, show cloudR [] r = [] from rfl, List.append_nil]
  by_cases k : (r : Int) < j
  · rw [if_pos k]
  · rw [if_neg k, vecR, if_neg (by omega)]
theorem cloudR_app (c : List Span) (s : Span) (r : Nat) : cloudR (c ++ [s]) r = cloudR c r ++ if s.rep = (r : Int) then [⟨s.lo, s.hi⟩] else [] := by
  unfold cloudR
  rw [List.filter_append, List.map_append]
  congr 1
  by_cases h : s.rep = (r : Int)
  · rw [if_pos h]; simp [List.filter_cons, h]
  · rw [if_neg h]; simp [List.filter_cons, h]
theorem openC_in {ps : List Past} {i j : Int} {T : Nat → List Run} (j0 : 0 ≤ j) (jl : j < (ps[i.toNat]!).cloud.length) (hr : 0 ≤ ((ps[i.toNat]!).cloud[j.toNat]!).rep ∧ ((ps[i.toNat]!).cloud[j.toNat]!).rep < 16) (h : isOpenC ps i j T) :
    isOpenC ps i (j + 1) (updF T ((ps[i.toNat]!).cloud[j.toNat]!).rep.toNat (T ((ps[i.toNat]!).cloud[j.toNat]!).rep.toNat ++ [⟨((ps[i.toNat]!).cloud[j.toNat]!).lo, ((ps[i.toNat]!).cloud[j.toNat]!).hi⟩])) := by
  intro r hr'
  rw [← take_step j0 jl, cloudR_app]
  unfold updF
  by_cases e : r = ((ps[i.toNat]!).cloud[j.toNat]!).rep.toNat
  · rw [if_pos e, if_pos (by omega), ← e, h r hr', List.append_assoc, List.append_assoc]
  · rw [if_neg e, if_neg (by omega), List.append_nil, h r hr']
theorem openC_out {ps : List Past} {i j : Int} {T : Nat → List Run} (j0 : 0 ≤ j) (jl : j < (ps[i.toNat]!).cloud.length) (hr : ¬ (0 ≤ ((ps[i.toNat]!).cloud[j.toNat]!).rep ∧ ((ps[i.toNat]!).cloud[j.toNat]!).rep < 16)) (h : isOpenC ps i j T) : isOpenC ps i (j + 1) T := by
  intro r hr'
  rw [← take_step j0 jl, cloudR_app, if_neg (by omega), List.append_nil, h r hr']
theorem open_next {ps : List Past} {i j : Int} {T : Nat → List Run} (h0 : 0 ≤ i) (h1 : i < ps.length) (jl : ¬ j < (ps[i.toNat]!).cloud.length) (h : isOpenC ps i j T) : isOpen ps (i + 1) T := by
  intro r hr
  rw [← take_step h0 h1, openT_app, h r hr, List.take_of_length_le (l := (ps[i.toNat]!).cloud) (by omega), List.append_assoc]
theorem openV_len {ps : List Past} {i j : Int} {T : Nat → List Run} (h0 : 0 ≤ i) (h1 : i < ps.length) (h : isOpenV ps i j T) {r : Nat} (hr : r < 16) (k : ¬ (r : Int) < j) : (T r).length + 1 ≤ totP ps := by
  rw [h r hr, if_neg k, List.append_nil]
  have := openT_len r (ps.take i.toNat)
  have := totP_take h0 h1
  omega
theorem openC_len {ps : List Past} {i j : Int} {T : Nat → List Run} (h0 : 0 ≤ i) (h1 : i < ps.length) (j0 : 0 ≤ j) (jl : j < (ps[i.toNat]!).cloud.length) (h : isOpenC ps i j T) {r : Nat} (hr : r < 16) : (T r).length + 1 ≤ totP ps + 1 ∧ j + 1 ≤ totP ps := by
  rw [h r hr, List.length_append, List.length_append]
  have := openT_len r (ps.take i.toNat)
  have := totP_take h0 h1
  have := vecR_len (ps[i.toNat]!).vec r
  have := cloudR_len ((ps[i.toNat]!).cloud.take j.toNat) r
  rw [List.length_take] at this
  omega
theorem con36 (ps : List Past) (hb : totP ps * 16 ≤ 140737488351232) : ConB Try.prog 36 [.sl (ps.map c25)] 86 (.arr (tabC c82 16 (openT ps))) :=
  by
  refine conB_lens 0 (c25) (ps) (by kernel_rfl) Go.Proofs.Try.func36 (by kernel_rfl) fun hl_0 => ?_
  refine st_conB tab_ok (by kernel_rfl) (.tmp 2) 78 Go.Proofs.Try.func36 (by kernel_rfl) (by kernel_rfl) ?_
  intro e0 cx
  refine sq ?_
  refine rg (A := True) cx [] [0] [] trivial ?_
  refine sn ?_
  refine sq ?_
  refine rg (A := True) cx [] [0, 3] [10] trivial ?_
  refine sn ?_
  refine sq ?_
  refine sq ?_
  refine rg (A := _) cx [(1, { tell := some (.i .i64 ((↑ps.length : Int))) })] [3, 11, 12, 13] [10] (told_len c25 ps) ?_
  refine sn ?_
  refine st_block 0 (by kernel_rfl) ?_
  refine awp_tabIn 10 82 2 101000 16 (σ' := ⟨[(3, .ptr (10) (0) (0) (0)), (11, .sl (List.map c25 ps)), (12, .i .i64 ((↑ps.length : Int))), (13, .i .i64 ((0 : Int)))], [(10, ⟨0, 86, .var (ownsC 101000 16)⟩)] ++ tabRows 101000 82 2 16 (c82) (fun x ↦ [])⟩) (by kernel_rfl) ?_
  refine st_loop (X := Int × (Nat → List Run)) (fun x => ⟨[(3, .ptr (10) (0) (0) (0)), (11, .sl (List.map c25 ps)), (12, .i .i64 ((↑ps.length : Int))), (13, .i .i64 (x.fst))], [(10, ⟨0, 86, .var (ownsC 101000 16)⟩)] ++ tabRows 101000 82 2 16 (c82) (x.snd)⟩) (fun x ↦ dec117a ps x.fst x.snd) (fun x ↦ inv117a ps x.fst x.snd) [3, 11, 12, 13] ([10] ++ List.range' 101000 16) (((0 : Int), fun x ↦ [])) (by kernel_rfl) (by kernel_rfl) (show inv117a ps (0 : Int) fun x ↦ [] from ?g0) ?_; rotate_left 1
  rintro ⟨i_0, T_1⟩ h_2
  obtain ⟨h_3, h_4, h_5⟩ : (0 : Int) ≤ i_0 ∧ i_0 ≤ (↑ps.length : Int) ∧ isOpen ps i_0 T_1 := h_2
  refine sq ?_
  refine rg (A := (AV.b (decide (i_0 < (↑ps.length : Int))) = AV.b (decide (i_0 < (↑ps.length : Int))))) cx [(0, { tell := some (.b (decide (i_0 < (↑ps.length : Int)))) })] [3, 11, 12, 13, 14] ([10] ++ List.range' 101000 16) (by kernel_rfl) ?_
  refine sn ?_
  refine sq ?_
  refine st_dec (i_0 < (↑ps.length : Int)) (by kernel_rfl) (by kernel_rfl) (fun h_6 => ?_) (fun h_6 => ?_)
  refine st_skip (by kernel_rfl) ?_
  refine sn ?_
  refine sq ?_
  refine st_block 1 (by kernel_rfl) ?_
  refine sq ?_
  refine rg (A := ((0 : Int) ≤ i_0) ∧ ((List.map c25 ps)[i_0.toNat]? = some (c25 ps[i_0.toNat]!)) ∧ ((c25 ps[i_0.toNat]!).length = (2 : Nat)) ∧ ((2 : Nat) ≤ [AV.sl (List.map c3 ps[i_0.toNat]!.vec), AV.sl (List.map c50 ps[i_0.toNat]!.cloud)].length)) cx [(0, { row := (c25 ps[i_0.toNat]!) })] [3, 11, 12, 13, 5] ([10] ++ List.range' 101000 16 ++ [5]) ⟨(by (with_reducible assumption)), (by (with_reducible refine get_map ?_; omega)), (by kernel_rfl), (by (simp only [List.length_append, List.length_cons, List.length_nil]; omega))⟩ ?_
  refine sn ?_
  refine sq ?_
  refine sq ?_
  refine rg (A := _ ∧ (AV.i IntKind.i64 (if (16 : Int) < (↑ps[i_0.toNat]!.vec.length : Int) then (16 : Int) else (↑ps[i_0.toNat]!.vec.length : Int)) = AV.i IntKind.i64 (min (↑ps[i_0.toNat]!.vec.length : Int) (16 : Int)))) cx [(2, { tell := some (.i .i64 ((↑ps[i_0.toNat]!.vec.length : Int))) }), (3, { tell := some (.i .i64 (min (↑ps[i_0.toNat]!.vec.length : Int) (16 : Int))) })] [3, 11, 12, 13, 5, 20, 21] ([10] ++ List.range' 101000 16 ++ [5]) ⟨(told_len c3 ps[i_0.toNat]!.vec), (told_min)⟩ ?_
  refine sn ?_
  refine st_block 2 (by kernel_rfl) ?_
  refine st_loop (X := Int × (Nat → List Run) × List Int × List Span) (fun x => ⟨[(3, .ptr (10) (0) (0) (0)), (11, .sl (List.map c25 ps)), (12, .i .i64 ((↑ps.length : Int))), (13, .i .i64 (i_0)), (5, .ptr (5) (0) (0) (0)), (20, .i .i64 (min (↑ps[i_0.toNat]!.vec.length : Int) (16 : Int))), (21, .i .i64 (x.fst))], [(10, ⟨0, 86, .var (ownsC 101000 16)⟩)] ++ tabRows 101000 82 2 16 (c82) (x.snd.fst) ++ [(5, ⟨0, 25, .var [.sl (List.map c3 x.snd.snd.fst), .sl (List.map c50 x.snd.snd.snd)]⟩)]⟩) (fun x ↦ dec117b (min (↑ps[i_0.toNat]!.vec.length : Int) (16 : Int)) x.fst x.snd.fst x.snd.snd.fst x.snd.snd.snd) (fun x ↦ inv117b ps i_0 (min (↑ps[i_0.toNat]!.vec.length : Int) (16 : Int)) x.fst x.snd.fst x.snd.snd.fst x.snd.snd.snd) [3, 11, 12, 13, 5, 20, 21] ([10] ++ List.range' 101000 16 ++ [5]) (((0 : Int), T_1, ps[i_0.toNat]!.vec, ps[i_0.toNat]!.cloud)) (by kernel_rfl) (by kernel_rfl) (show inv117b ps i_0 (min (↑ps[i_0.toNat]!.vec.length : Int) (16 : Int)) (0 : Int) T_1 ps[i_0.toNat]!.vec ps[i_0.toNat]!.cloud from ?g1) ?_; rotate_left 1
  rintro ⟨j_7, T_8, v_9, c_10⟩ h_11
  obtain ⟨h_12, h_13, h_14, h_15, h_16⟩ : v_9 = ps[i_0.toNat]!.vec ∧ c_10 = ps[i_0.toNat]!.cloud ∧ (0 : Int) ≤ j_7 ∧ j_7 ≤ min (↑ps[i_0.toNat]!.vec.length : Int) (16 : Int) ∧ isOpenV ps i_0 j_7 T_8 := h_11
  refine sq ?_
  refine rg (A := (AV.b (decide (j_7 < min (↑ps[i_0.toNat]!.vec.length : Int) (16 : Int))) = AV.b (decide (j_7 < min (↑ps[i_0.toNat]!.vec.length : Int) (16 : Int))))) cx [(0, { tell := some (.b (decide (j_7 < min (↑ps[i_0.toNat]!.vec.length : Int) (16 : Int)))) })] [3, 11, 12, 13, 5, 20, 21, 22] ([10] ++ List.range' 101000 16 ++ [5]) (by kernel_rfl) ?_
  refine sn ?_
  refine sq ?_
  refine st_dec (j_7 < min (↑ps[i_0.toNat]!.vec.length : Int) (16 : Int)) (by kernel_rfl) (by kernel_rfl) (fun h_17 => ?_) (fun h_17 => ?_)
  refine st_skip (by kernel_rfl) ?_
  refine sn ?_
  refine sq ?_
  refine st_block 3 (by kernel_rfl) ?_
  refine sq ?_
  refine rg (A := True) cx [] [3, 11, 12, 13, 5, 20, 21, 6] ([10] ++ List.range' 101000 16 ++ [5]) trivial ?_
  refine sn ?_
  refine st_any16 (F := fun kx => ⟨[(3, .ptr (10) (0) (0) (0)), (11, .sl (List.map c25 ps)), (12, .i .i64 ((↑ps.length : Int))), (13, .i .i64 (i_0)), (5, .ptr (5) (0) (0) (0)), (20, .i .i64 (min (↑ps[i_0.toNat]!.vec.length : Int) (16 : Int))), (21, .i .i64 (kx)), (6, .i .i64 (kx))], [(10, ⟨0, 86, .var (ownsC 101000 16)⟩)] ++ tabRows 101000 82 2 16 (c82) (T_8) ++ [(5, ⟨0, 25, .var [.sl (List.map c3 v_9), .sl (List.map c50 c_10)]⟩)]⟩) (G := fun kx => ⟨[(3, .ptr (10) (0) (0) (0)), (11, .sl (List.map c25 ps)), (12, .i .i64 ((↑ps.length : Int))), (13, .i .i64 (i_0)), (5, .ptr (5) (0) (0) (0)), (20, .i .i64 (min (↑ps[i_0.toNat]!.vec.length : Int) (16 : Int))), (21, .i .i64 (kx))], [(10, ⟨0, 86, .var (ownsC 101000 16)⟩)] ++ tabRows 101000 82 2 16 (c82) (updF T_8 kx.toNat (T_8 kx.toNat ++ [{ lo := (1 : Int), hi := v_9[kx.toNat]! : Run }])) ++ [(5, ⟨0, 25, .var [.sl (List.map c3 v_9), .sl (List.map c50 c_10)]⟩)]⟩) (A := fun kx => ((0 : Int) ≤ kx) ∧ (kx < (↑(16 : Nat) : Int)) ∧ ((0 : Int) ≤ kx) ∧ ((List.map c3 v_9)[kx.toNat]? = some (c3 v_9[kx.toNat]!)) ∧ ((c3 v_9[kx.toNat]!).length = (1 : Nat)) ∧ (82 = (82 : Nat)) ∧ ((2 : Nat) = 2) ∧ ([AV.i IntKind.i64 (0 : Int), AV.i IntKind.i64 (0 : Int)].length = (2 : Nat)) ∧ (∀ (r : List AV), r ∈ List.map c82 [{ lo := (1 : Int), hi := v_9[kx.toNat]! : Run }] → r.length = 2) ∧ ((List.map c82 (T_8 kx.toNat)).length + (List.map c82 [{ lo := (1 : Int), hi := v_9[kx.toNat]! : Run }]).length ≤ maxLen) ∧ (((List.map c82 (T_8 kx.toNat)).length + (List.map c82 [{ lo := (1 : Int), hi := v_9[kx.toNat]! : Run }]).length) * (16 : Nat) ≤ (140737488355328 : Nat)) ∧ (List.map c82 (T_8 kx.toNat) ++ List.map c82 [{ lo := (1 : Int), hi := v_9[kx.toNat]! : Run }] = List.map c82 (T_8 kx.toNat ++ [{ lo := (1 : Int), hi := v_9[kx.toNat]! : Run }])) ∧ ((0 : Int) ≤ kx) ∧ (kx < (↑(16 : Nat) : Int))) cx (fun kx => [(10, { row := (c3 v_9[kx.toNat]!) }), (14, { rows := some (List.map c82 (T_8 kx.toNat ++ [{ lo := (1 : Int), hi := v_9[kx.toNat]! : Run }])) })]) [3, 11, 12, 13, 5, 20, 21] ([10] ++ List.range' 101000 16 ++ [5]) (j_7) (by (with_reducible assumption)) (by omega) (by kernel_rfl) (by kernel_rfl) ⟨(by show _ = _; kernel_rfl), (by show _ = _; kernel_rfl), (by show _ = _; kernel_rfl), (by show _ = _; kernel_rfl), (by show _ = _; kernel_rfl), (by show _ = _; kernel_rfl), (by show _ = _; kernel_rfl), (by show _ = _; kernel_rfl), (by show _ = _; kernel_rfl), (by show _ = _; kernel_rfl), (by show _ = _; kernel_rfl), (by show _ = _; kernel_rfl), (by show _ = _; kernel_rfl), (by show _ = _; kernel_rfl), (by show _ = _; kernel_rfl), (by show _ = _; kernel_rfl)⟩ ⟨(by (with_reducible assumption)), (by omega), (by (with_reducible assumption)), ?g2, (by kernel_rfl), (by kernel_rfl), (by kernel_rfl), (by kernel_rfl), (by (with_reducible refine len_map (fun _ => ?_) _; kernel_rfl)), ?g3, ?g4, (by (with_reducible refine app_map ?_; kernel_rfl)), (by (with_reducible assumption)), (by omega)⟩ ?_; rotate_left 3
  refine q_blk_normal ?_
  refine sn ?_
  refine rg (A := (AV.i IntKind.i64 (IntKind.i64.wrap (j_7 + (1 : Int))) = AV.i IntKind.i64 (j_7 + (1 : Int)))) cx [(0, { tell := some (.i .i64 (j_7 + (1 : Int))) })] [3, 11, 12, 13, 5, 20, 21] ([10] ++ List.range' 101000 16 ++ [5]) (told_i64 (by omega) (by omega)) ?_
  refine sn ?_
  refine loop_next ((j_7 + (1 : Int), updF T_8 j_7.toNat (T_8 j_7.toNat ++ [{ lo := (1 : Int), hi := v_9[j_7.toNat]! : Run }]), v_9, c_10)) (by kernel_rfl) (show (min (↑ps[i_0.toNat]!.vec.length : Int) (16 : Int) - (j_7 + (1 : Int))).toNat < (min (↑ps[i_0.toNat]!.vec.length : Int) (16 : Int) - j_7).toNat from (by omega)) (show inv117b ps i_0 (min (↑ps[i_0.toNat]!.vec.length : Int) (16 : Int)) (j_7 + (1 : Int)) (updF T_8 j_7.toNat (T_8 j_7.toNat ++ [{ lo := (1 : Int), hi := v_9[j_7.toNat]! : Run }])) v_9 c_10 from ?g5); rotate_left 1
  refine st_exit 2 (by kernel_rfl) ?_
  refine q_seq_exit ?_
  refine q_seq_exit ?_
  refine q_blk_hit ?_
  refine sn ?_
  refine sq ?_
  refine rg (A := _) cx [(2, { tell := some (.i .i64 ((↑c_10.length : Int))) })] [3, 11, 12, 13, 43, 44, 45] ([10] ++ List.range' 101000 16) (told_len c50 c_10) ?_
  refine sn ?_
  refine st_block 4 (by kernel_rfl) ?_
  refine st_loop (X := Int × (Nat → List Run)) (fun x => ⟨[(3, .ptr (10) (0) (0) (0)), (11, .sl (List.map c25 ps)), (12, .i .i64 ((↑ps.length : Int))), (13, .i .i64 (i_0)), (43, .sl (List.map c50 c_10)), (44, .i .i64 ((↑c_10.length : Int))), (45, .i .i64 (x.fst))], [(10, ⟨0, 86, .var (ownsC 101000 16)⟩)] ++ tabRows 101000 82 2 16 (c82) (x.snd)⟩) (fun x ↦ dec117c ps i_0 x.fst x.snd) (fun x ↦ inv117c ps i_0 x.fst x.snd) [3, 11, 12, 13, 43, 44, 45] ([10] ++ List.range' 101000 16) (((0 : Int), T_8)) (by kernel_rfl) (by kernel_rfl) (show inv117c ps i_0 (0 : Int) T_8 from ?g6) ?_; rotate_left 1
  rintro ⟨j_18, T_19⟩ h_20
  obtain ⟨h_21, h_22, h_23⟩ : (0 : Int) ≤ j_18 ∧ j_18 ≤ (↑ps[i_0.toNat]!.cloud.length : Int) ∧ isOpenC ps i_0 j_18 T_19 := h_20
  refine sq ?_
  refine rg (A := (AV.b (decide (j_18 < (↑c_10.length : Int))) = AV.b (decide (j_18 < (↑c_10.length : Int))))) cx [(0, { tell := some (.b (decide (j_18 < (↑c_10.length : Int)))) })] [3, 11, 12, 13, 43, 44, 45, 46] ([10] ++ List.range' 101000 16) (by kernel_rfl) ?_
  refine sn ?_
  refine sq ?_
  refine st_dec (j_18 < (↑c_10.length : Int)) (by kernel_rfl) (by kernel_rfl) (fun h_24 => ?_) (fun h_24 => ?_)
  refine st_skip (by kernel_rfl) ?_
  refine sn ?_
  refine sq ?_
  refine st_block 5 (by kernel_rfl) ?_
  refine sq ?_
  refine rg (A := ((0 : Int) ≤ j_18) ∧ ((List.map c50 c_10)[j_18.toNat]? = some (c50 c_10[j_18.toNat]!)) ∧ ((c50 c_10[j_18.toNat]!).length = (3 : Nat)) ∧ ((3 : Nat) ≤ [AV.i IntKind.i64 c_10[j_18.toNat]!.rep, AV.i IntKind.i64 c_10[j_18.toNat]!.lo, AV.i IntKind.i64 c_10[j_18.toNat]!.hi].length)) cx [(0, { row := (c50 c_10[j_18.toNat]!) })] [3, 11, 12, 13, 43, 44, 45, 8] ([10] ++ List.range' 101000 16 ++ [8]) ⟨(by (with_reducible assumption)), (by (with_reducible refine get_map ?_; omega)), (by kernel_rfl), (by (simp only [List.length_append, List.length_cons, List.length_nil]; omega))⟩ ?_
  refine sn ?_
  refine sq ?_
  refine st_join (σ' := ⟨[(3, .ptr (10) (0) (0) (0)), (11, .sl (List.map c25 ps)), (12, .i .i64 ((↑ps.length : Int))), (13, .i .i64 (i_0)), (43, .sl (List.map c50 c_10)), (44, .i .i64 ((↑c_10.length : Int))), (45, .i .i64 (j_18)), (8, .ptr (8) (0) (0) (0)), (56, .b (decide ((0 : Int) ≤ c_10[j_18.toNat]!.rep ∧ c_10[j_18.toNat]!.rep < (16 : Int))))], [(10, ⟨0, 86, .var (ownsC 101000 16)⟩)] ++ tabRows 101000 82 2 16 (c82) (T_19) ++ [(8, ⟨0, 50, .var [.i .i64 (c_10[j_18.toNat]!.rep), .i .i64 (c_10[j_18.toNat]!.lo), .i .i64 (c_10[j_18.toNat]!.hi)]⟩)]⟩) ?_ ?_
  refine st_split ((0 : Int) ≤ c_10[j_18.toNat]!.rep) (fun h_26 => ?_) (fun h_26 => ?_)
  refine rg (A := _ ∧ (AV.b (decide (c_10[j_18.toNat]!.rep < (16 : Int))) = AV.b (decide (c_10[j_18.toNat]!.rep < (16 : Int)))) ∧ (AV.b (decide (c_10[j_18.toNat]!.rep < (16 : Int))) = AV.b (decide ((0 : Int) ≤ c_10[j_18.toNat]!.rep ∧ c_10[j_18.toNat]!.rep < (16 : Int))))) cx [(2, { tell := some (.b (true)) }), (6, { tell := some (.b (decide (c_10[j_18.toNat]!.rep < (16 : Int)))) }), (7, { tell := some (.b (decide ((0 : Int) ≤ c_10[j_18.toNat]!.rep ∧ c_10[j_18.toNat]!.rep < (16 : Int)))) })] [3, 11, 12, 13, 43, 44, 45, 8, 56] ([10] ++ List.range' 101000 16 ++ [8]) ⟨(told_true h_26), (by kernel_rfl), (by simp only [eq_true h_26, told_simp1, told_simp2, and_true, true_and, and_false, false_and, or_true, true_or, or_false, false_or, not_true_eq_false, not_false_eq_true, decide_true, decide_false, Bool.decide_eq_true])⟩ ?_
  exact ⟨rfl, by kernel_rfl⟩
  refine rg (A := _ ∧ (AV.b false = AV.b (decide ((0 : Int) ≤ c_10[j_18.toNat]!.rep ∧ c_10[j_18.toNat]!.rep < (16 : Int))))) cx [(2, { tell := some (.b (false)) }), (7, { tell := some (.b (decide ((0 : Int) ≤ c_10[j_18.toNat]!.rep ∧ c_10[j_18.toNat]!.rep < (16 : Int)))) })] [3, 11, 12, 13, 43, 44, 45, 8, 56] ([10] ++ List.range' 101000 16 ++ [8]) ⟨(told_false h_26), (by simp only [eq_false h_26, told_simp1, told_simp2, and_true, true_and, and_false, false_and, or_true, true_or, or_false, false_or, not_true_eq_false, not_false_eq_true, decide_true, decide_false, Bool.decide_eq_true])⟩ ?_
  exact ⟨rfl, by kernel_rfl⟩
  refine sn ?_
  refine st_dec ((0 : Int) ≤ c_10[j_18.toNat]!.rep ∧ c_10[j_18.toNat]!.rep < (16 : Int)) (by kernel_rfl) (by kernel_rfl) (fun h_27 => ?_) (fun h_27 => ?_)
  refine st_any16 (F := fun kx => ⟨[(3, .ptr (10) (0) (0) (0)), (11, .sl (List.map c25 ps)), (12, .i .i64 ((↑ps.length : Int))), (13, .i .i64 (i_0)), (43, .sl (List.map c50 c_10)), (44, .i .i64 ((↑c_10.length : Int))), (45, .i .i64 (j_18)), (8, .ptr (8) (0) (0) (0)), (56, .b (decide ((0 : Int) ≤ kx ∧ kx < (16 : Int))))], [(10, ⟨0, 86, .var (ownsC 101000 16)⟩)] ++ tabRows 101000 82 2 16 (c82) (T_19) ++ [(8, ⟨0, 50, .var [.i .i64 (kx), .i .i64 (c_10[j_18.toNat]!.lo), .i .i64 (c_10[j_18.toNat]!.hi)]⟩)]⟩) (G := fun kx => ⟨[(3, .ptr (10) (0) (0) (0)), (11, .sl (List.map c25 ps)), (12, .i .i64 ((↑ps.length : Int))), (13, .i .i64 (i_0)), (43, .sl (List.map c50 c_10)), (44, .i .i64 ((↑c_10.length : Int))), (45, .i .i64 (j_18))], [(10, ⟨0, 86, .var (ownsC 101000 16)⟩)] ++ tabRows 101000 82 2 16 (c82) (updF T_19 kx.toNat (T_19 kx.toNat ++ [{ lo := c_10[j_18.toNat]!.lo, hi := c_10[j_18.toNat]!.hi : Run }]))⟩) (A := fun kx => ((0 : Int) ≤ kx) ∧ (kx < (↑(16 : Nat) : Int)) ∧ (82 = (82 : Nat)) ∧ ((2 : Nat) = 2) ∧ ([AV.i IntKind.i64 (0 : Int), AV.i IntKind.i64 (0 : Int)].length = (2 : Nat)) ∧ (∀ (r : List AV), r ∈ List.map c82 [{ lo := c_10[j_18.toNat]!.lo, hi := c_10[j_18.toNat]!.hi : Run }] → r.length = 2) ∧ ((List.map c82 (T_19 kx.toNat)).length + (List.map c82 [{ lo := c_10[j_18.toNat]!.lo, hi := c_10[j_18.toNat]!.hi : Run }]).length ≤ maxLen) ∧ (((List.map c82 (T_19 kx.toNat)).length + (List.map c82 [{ lo := c_10[j_18.toNat]!.lo, hi := c_10[j_18.toNat]!.hi : Run }]).length) * (16 : Nat) ≤ (140737488355328 : Nat)) ∧ (List.map c82 (T_19 kx.toNat) ++ List.map c82 [{ lo := c_10[j_18.toNat]!.lo, hi := c_10[j_18.toNat]!.hi : Run }] = List.map c82 (T_19 kx.toNat ++ [{ lo := c_10[j_18.toNat]!.lo, hi := c_10[j_18.toNat]!.hi : Run }])) ∧ ((0 : Int) ≤ kx) ∧ (kx < (↑(16 : Nat) : Int))) cx (fun kx => [(15, { rows := some (List.map c82 (T_19 kx.toNat ++ [{ lo := c_10[j_18.toNat]!.lo, hi := c_10[j_18.toNat]!.hi : Run }])) })]) [3, 11, 12, 13, 43, 44, 45] ([10] ++ List.range' 101000 16) (c_10[j_18.toNat]!.rep) (by omega) (by omega) (by kernel_rfl) (by kernel_rfl) ⟨(by show _ = _; kernel_rfl), (by show _ = _; kernel_rfl), (by show _ = _; kernel_rfl), (by show _ = _; kernel_rfl), (by show _ = _; kernel_rfl), (by show _ = _; kernel_rfl), (by show _ = _; kernel_rfl), (by show _ = _; kernel_rfl), (by show _ = _; kernel_rfl), (by show _ = _; kernel_rfl), (by show _ = _; kernel_rfl), (by show _ = _; kernel_rfl), (by show _ = _; kernel_rfl), (by show _ = _; kernel_rfl), (by show _ = _; kernel_rfl), (by show _ = _; kernel_rfl)⟩ ⟨(by omega), (by omega), (by kernel_rfl), (by kernel_rfl), (by kernel_rfl), (by (with_reducible refine len_map (fun _ => ?_) _; kernel_rfl)), ?g7, ?g8, (by (with_reducible refine app_map ?_; kernel_rfl)), (by omega), (by omega)⟩ ?_; rotate_left 2
  refine q_blk_normal ?_
  refine sn ?_
  refine rg (A := (AV.i IntKind.i64 (IntKind.i64.wrap (j_18 + (1 : Int))) = AV.i IntKind.i64 (j_18 + (1 : Int)))) cx [(0, { tell := some (.i .i64 (j_18 + (1 : Int))) })] [3, 11, 12, 13, 43, 44, 45] ([10] ++ List.range' 101000 16) (told_i64 (by omega) ?g9) ?_; rotate_left 1
  refine sn ?_
  refine loop_next ((j_18 + (1 : Int), updF T_19 c_10[j_18.toNat]!.rep.toNat (T_19 c_10[j_18.toNat]!.rep.toNat ++ [{ lo := c_10[j_18.toNat]!.lo, hi := c_10[j_18.toNat]!.hi : Run }]))) (by kernel_rfl) (show ((↑ps[i_0.toNat]!.cloud.length : Int) - (j_18 + (1 : Int))).toNat < ((↑ps[i_0.toNat]!.cloud.length : Int) - j_18).toNat from ?g10) (show inv117c ps i_0 (j_18 + (1 : Int)) (updF T_19 c_10[j_18.toNat]!.rep.toNat (T_19 c_10[j_18.toNat]!.rep.toNat ++ [{ lo := c_10[j_18.toNat]!.lo, hi := c_10[j_18.toNat]!.hi : Run }])) from ?g11); rotate_left 2
  refine st_skip (by kernel_rfl) ?_
  refine q_blk_normal ?_
  refine sn ?_
  refine rg (A := (AV.i IntKind.i64 (IntKind.i64.wrap (j_18 + (1 : Int))) = AV.i IntKind.i64 (j_18 + (1 : Int)))) cx [(0, { tell := some (.i .i64 (j_18 + (1 : Int))) })] [3, 11, 12, 13, 43, 44, 45] ([10] ++ List.range' 101000 16) (told_i64 (by omega) ?g12) ?_; rotate_left 1
  refine sn ?_
  refine loop_next ((j_18 + (1 : Int), T_19)) (by kernel_rfl) (show ((↑ps[i_0.toNat]!.cloud.length : Int) - (j_18 + (1 : Int))).toNat < ((↑ps[i_0.toNat]!.cloud.length : Int) - j_18).toNat from ?g13) (show inv117c ps i_0 (j_18 + (1 : Int)) T_19 from ?g14); rotate_left 2
  refine st_exit 4 (by kernel_rfl) ?_
  refine q_seq_exit ?_
  refine q_seq_exit ?_
  refine q_blk_hit ?_
  refine q_blk_normal ?_
  refine sn ?_
  refine rg (A := (AV.i IntKind.i64 (IntKind.i64.wrap (i_0 + (1 : Int))) = AV.i IntKind.i64 (i_0 + (1 : Int)))) cx [(0, { tell := some (.i .i64 (i_0 + (1 : Int))) })] [3, 11, 12, 13] ([10] ++ List.range' 101000 16) (told_i64 (by omega) (by omega)) ?_
  refine sn ?_
  refine loop_next ((i_0 + (1 : Int), T_19)) (by kernel_rfl) (show ((↑ps.length : Int) - (i_0 + (1 : Int))).toNat < ((↑ps.length : Int) - i_0).toNat from (by omega)) (show inv117a ps (i_0 + (1 : Int)) T_19 from ?g15); rotate_left 1
  refine st_exit 0 (by kernel_rfl) ?_
  refine q_seq_exit ?_
  refine q_seq_exit ?_
  refine q_blk_hit ?_
  refine sn ?_
  refine sq ?_
  refine awp_norm (List.range' 101000 16) [3, 11, 12, 13, 14] [10] (σ' := ⟨[(3, .ptr (10) (0) (0) (0)), (11, .sl (List.map c25 ps)), (12, .i .i64 ((↑ps.length : Int))), (13, .i .i64 (i_0)), (14, .b (decide (i_0 < (↑ps.length : Int))))], [(10, ⟨0, 86, .var [.sl (List.map c82 (T_1 (0))), .sl (List.map c82 (T_1 (1))), .sl (List.map c82 (T_1 (2))), .sl (List.map c82 (T_1 (3))), .sl (List.map c82 (T_1 (4))), .sl (List.map c82 (T_1 (5))), .sl (List.map c82 (T_1 (6))), .sl (List.map c82 (T_1 (7))), .sl (List.map c82 (T_1 (8))), .sl (List.map c82 (T_1 (9))), .sl (List.map c82 (T_1 (10))), .sl (List.map c82 (T_1 (11))), .sl (List.map c82 (T_1 (12))), .sl (List.map c82 (T_1 (13))), .sl (List.map c82 (T_1 (14))), .sl (List.map c82 (T_1 (15)))]⟩)]⟩) (by kernel_rfl) ?_
  refine awp_varArr 10 ⟨0, 86, .var [.sl (List.map c82 (T_1 (0))), .sl (List.map c82 (T_1 (1))), .sl (List.map c82 (T_1 (2))), .sl (List.map c82 (T_1 (3))), .sl (List.map c82 (T_1 (4))), .sl (List.map c82 (T_1 (5))), .sl (List.map c82 (T_1 (6))), .sl (List.map c82 (T_1 (7))), .sl (List.map c82 (T_1 (8))), .sl (List.map c82 (T_1 (9))), .sl (List.map c82 (T_1 (10))), .sl (List.map c82 (T_1 (11))), .sl (List.map c82 (T_1 (12))), .sl (List.map c82 (T_1 (13))), .sl (List.map c82 (T_1 (14))), .sl (List.map c82 (T_1 (15)))]⟩ [.sl (List.map c82 (T_1 (0))), .sl (List.map c82 (T_1 (1))), .sl (List.map c82 (T_1 (2))), .sl (List.map c82 (T_1 (3))), .sl (List.map c82 (T_1 (4))), .sl (List.map c82 (T_1 (5))), .sl (List.map c82 (T_1 (6))), .sl (List.map c82 (T_1 (7))), .sl (List.map c82 (T_1 (8))), .sl (List.map c82 (T_1 (9))), .sl (List.map c82 (T_1 (10))), .sl (List.map c82 (T_1 (11))), .sl (List.map c82 (T_1 (12))), .sl (List.map c82 (T_1 (13))), .sl (List.map c82 (T_1 (14))), .sl (List.map c82 (T_1 (15)))] (tabC c82 (16 : Nat) T_1) (σ' := ⟨[(3, .ptr (10) (0) (0) (0)), (11, .sl (List.map c25 ps)), (12, .i .i64 ((↑ps.length : Int))), (13, .i .i64 (i_0)), (14, .b (decide (i_0 < (↑ps.length : Int))))], [(10, ⟨0, 86, .arr (tabC c82 (16 : Nat) T_1)⟩)]⟩) (by kernel_rfl) (by kernel_rfl) (by kernel_rfl) (by kernel_rfl) (ZLe.of_eq (by kernel_rfl)) (by kernel_rfl) ?_
  refine rg (A := True) cx [] [2] [10] trivial ?_
  refine sn ?_
  refine st_ret (by kernel_rfl) ?_
  refine qb_ptr (cells' := (tabC c82 (16 : Nat) T_1)) .ret (.inr rfl) 2 10 0 (by kernel_rfl) (by kernel_rfl) (by kernel_rfl) ?g16; rotate_left 1
  rotate_left
  revert i_0 T_1 h_3 h_4 h_5 h_6; rotate_left
  revert i_0 T_1 h_3 h_4 h_5 h_6 j_7 T_8 v_9 c_10 h_12 h_13 h_14 h_15 h_16 h_17; rotate_left
  revert i_0 T_1 h_3 h_4 h_5 h_6 j_7 T_8 v_9 c_10 h_12 h_13 h_14 h_15 h_16 h_17; rotate_left
  revert i_0 T_1 h_3 h_4 h_5 h_6 j_7 T_8 v_9 c_10 h_12 h_13 h_14 h_15 h_16 h_17; rotate_left
  revert i_0 T_1 h_3 h_4 h_5 h_6 j_7 T_8 v_9 c_10 h_12 h_13 h_14 h_15 h_16 h_17; rotate_left
  revert i_0 T_1 h_3 h_4 h_5 h_6 j_7 T_8 v_9 c_10 h_12 h_13 h_14 h_15 h_16 h_17; rotate_left
  revert i_0 T_1 h_3 h_4 h_5 h_6 j_7 T_8 v_9 c_10 h_12 h_13 h_14 h_15 h_16 h_17 j_18 T_19 h_21 h_22 h_23 h_24 h_27; rotate_left
  revert i_0 T_1 h_3 h_4 h_5 h_6 j_7 T_8 v_9 c_10 h_12 h_13 h_14 h_15 h_16 h_17 j_18 T_19 h_21 h_22 h_23 h_24 h_27; rotate_left
  revert i_0 T_1 h_3 h_4 h_5 h_6 j_7 T_8 v_9 c_10 h_12 h_13 h_14 h_15 h_16 h_17 j_18 T_19 h_21 h_22 h_23 h_24 h_27; rotate_left
  revert i_0 T_1 h_3 h_4 h_5 h_6 j_7 T_8 v_9 c_10 h_12 h_13 h_14 h_15 h_16 h_17 j_18 T_19 h_21 h_22 h_23 h_24 h_27; rotate_left
  revert i_0 T_1 h_3 h_4 h_5 h_6 j_7 T_8 v_9 c_10 h_12 h_13 h_14 h_15 h_16 h_17 j_18 T_19 h_21 h_22 h_23 h_24 h_27; rotate_left
  revert i_0 T_1 h_3 h_4 h_5 h_6 j_7 T_8 v_9 c_10 h_12 h_13 h_14 h_15 h_16 h_17 j_18 T_19 h_21 h_22 h_23 h_24 h_27; rotate_left
  revert i_0 T_1 h_3 h_4 h_5 h_6 j_7 T_8 v_9 c_10 h_12 h_13 h_14 h_15 h_16 h_17 j_18 T_19 h_21 h_22 h_23 h_24 h_27; rotate_left
  revert i_0 T_1 h_3 h_4 h_5 h_6 j_7 T_8 v_9 c_10 h_12 h_13 h_14 h_15 h_16 h_17 j_18 T_19 h_21 h_22 h_23 h_24 h_27; rotate_left
  revert i_0 T_1 h_3 h_4 h_5 h_6 j_7 T_8 v_9 c_10 h_12 h_13 h_14 h_15 h_16 h_17 j_18 T_19 h_21 h_22 h_23 h_24; rotate_left
  revert i_0 T_1 h_3 h_4 h_5 h_6; rotate_left
  case g0 => exact ⟨by omega, by omega, fun r _ => rfl⟩
  case g1 => intro i T h0 h1 h2 h3; exact ⟨rfl, rfl, by omega, by omega, openV_start h2⟩
  case g2 => intros; subst_vars; exact get_map (by omega)
  case g3 => intro i T h0 h1 h2 h3 j U v c k0 k1 k2 k3 k4 k5; have := openV_len h0 h3 k4 (r := j.toNat) (by omega) (by omega); simp only [List.length_map, List.length_cons, List.length_nil, Go.maxLen]; omega
  case g4 => intro i T h0 h1 h2 h3 j U v c k0 k1 k2 k3 k4 k5; have := openV_len h0 h3 k4 (r := j.toNat) (by omega) (by omega); simp only [List.length_map, List.length_cons, List.length_nil]; omega
  case g5 => intro i T h0 h1 h2 h3 j U v c k0 k1 k2 k3 k4 k5; subst k0 k1; exact ⟨rfl, rfl, by omega, by omega, openV_next k2 (by omega) k4⟩
  case g6 => intro i T h0 h1 h2 h3 j U v c k0 k1 k2 k3 k4 k5; exact ⟨by omega, by omega, openC_start k3 k5 k4⟩
  case g7 => intro i T h0 h1 h2 h3 j U v c k0 k1 k2 k3 k4 k5 l W m0 m1 m2 m3 m4; subst k0 k1; have := openC_len h0 h3 m0 m3 m2 (r := ((ps[i.toNat]!).cloud[l.toNat]!).rep.toNat) (by omega); simp only [List.length_map, List.length_cons, List.length_nil, Go.maxLen]; omega
  case g8 => intro i T h0 h1 h2 h3 j U v c k0 k1 k2 k3 k4 k5 l W m0 m1 m2 m3 m4; subst k0 k1; have := openC_len h0 h3 m0 m3 m2 (r := ((ps[i.toNat]!).cloud[l.toNat]!).rep.toNat) (by omega); simp only [List.length_map, List.length_cons, List.length_nil]; omega
  case g9 => intro i T h0 h1 h2 h3 j U v c k0 k1 k2 k3 k4 k5 l W m0 m1 m2 m3 m4; subst k0 k1; have := openC_len h0 h3 m0 m3 m2 (r := 0) (by omega); omega
  case g10 => intro i T h0 h1 h2 h3 j U v c k0 k1 k2 k3 k4 k5 l W m0 m1 m2 m3 m4; subst k0 k1; omega
  case g11 => intro i T h0 h1 h2 h3 j U v c k0 k1 k2 k3 k4 k5 l W m0 m1 m2 m3 m4; subst k0 k1; exact ⟨by omega, by omega, openC_in m0 m3 m4 m2⟩
  case g12 => intro i T h0 h1 h2 h3 j U v c k0 k1 k2 k3 k4 k5 l W m0 m1 m2 m3 m4; subst k0 k1; have := openC_len h0 h3 m0 m3 m2 (r := 0) (by omega); omega
  case g13 => intro i T h0 h1 h2 h3 j U v c k0 k1 k2 k3 k4 k5 l W m0 m1 m2 m3 m4; subst k0 k1; omega
  case g14 => intro i T h0 h1 h2 h3 j U v c k0 k1 k2 k3 k4 k5 l W m0 m1 m2 m3 m4; subst k0 k1; exact ⟨by omega, by omega, openC_out m0 m3 m4 m2⟩
  case g15 => intro i T h0 h1 h2 h3 j U v c k0 k1 k2 k3 k4 k5 l W m0 m1 m2 m3; subst k0 k1; exact ⟨by omega, by omega, open_next h0 h3 m3 m2⟩
  case g16 =>
    intro i T h0 h1 h2 h3
    unfold tabC
    refine List.map_congr_left fun r hr => ?_
    rw [h2 r (by simpa using hr), List.take_of_length_le (by omega)]
end Go.Proofs.Ytaiepnaokhpmcaa
namespace Go.Proofs.Ytaiepnaokhpmcaa
open Go.E
set_option maxRecDepth 100000
set_option maxHeartbeats 4000000
def normP (p : Past) : Past := tabP (openT [p])
theorem tot_one (p : Past) : totP [p] = p.cloud.length + 1 := by simp [totP]
theorem con24 (p : Past) (hb : p.cloud.length * 16 ≤ 140737488350000) : Con Try.prog 24 [.agg (c25 p)] (.agg (c25 (normP p))) :=
  by
  have h1 := tot_one p
  have h2 := fun r => openT_len r [p]
  refine st_con tab_ok (by kernel_rfl) [.cell 2 25] 7 Go.Proofs.Try.func24 (by kernel_rfl) (by kernel_rfl) ?_
  intro e0 cx
  refine sq ?_
  refine rg (A := True) cx [] [1, 2] [1, 2] trivial ?_
  refine sn ?_
  refine sq ?_
  refine rg (A := _ ∧ _) cx [(2, { val := some (.ptr ((86 : Nat)) (0) (0) (0)), row := (tabC c82 (16 : Nat) (openT [p])) }), (3, { val := some (.agg [.sl (List.map c3 (tabP (openT [p])).vec), .sl (List.map c50 (tabP (openT [p])).cloud)]) })] [2] [2] ⟨(con36 ([p]) ?g0), (con40 (openT [p]) ?g1)⟩ ?_; rotate_left 2
  refine sn ?_
  refine st_ret (by kernel_rfl) ?_
  refine q_ret (r := .agg [.sl (List.map c3 (tabP (openT [p])).vec), .sl (List.map c50 (tabP (openT [p])).cloud)]) (obl := []) (by kernel_rfl) trivial (AVle.eq (show AV.agg [AV.sl (List.map c3 (tabP (openT [p])).vec), AV.sl (List.map c50 (tabP (openT [p])).cloud)] = AV.agg (c25 (normP p)) from ?g2)); rotate_left 1
  all_goals
    ( intros <;> first
    | omega
    | exact rfl
    | (have := h2 ‹Nat›; omega))
end Go.Proofs.Ytaiepnaokhpmcaa
namespace Go.Proofs.Ytaiepnaokhpmcaa
open Go.E
set_option maxRecDepth 100000
set_option maxHeartbeats 4000000
def invE {α : Type} [Inhabited α] (a b : List α) (i : Int) : Prop := 0 ≤ i ∧ i ≤ a.length ∧ a.length = b.length ∧ ∀ j : Nat, (j : Int) < i → a[j]! = b[j]!
def decE {α : Type} (a b : List α) (i : Int) : Nat := (a.length - i).toNat
theorem eq_of_all {α : Type} [Inhabited α] {a b : List α} (hl : a.length = b.length) (h : ∀ j : Nat, j < a.length → a[j]! = b[j]!) : a = b := by
  apply List.ext_getElem hl
  intro j h1 h2
  have := h j h1
  rwa [getElem!_pos a j h1, getElem!_pos b j h2] at this
theorem con25 (a b : List Int) : Con Try.prog 25 [.sl (a.map c3), .sl (b.map c3)] (.b (decide (a = b))) :=
  by
  refine con_lens 0 (c3) (a) (by kernel_rfl) Go.Proofs.Try.func25 (by kernel_rfl) fun hl_0 => ?_
  refine con_lens 1 (c3) (b) (by kernel_rfl) Go.Proofs.Try.func25 (by kernel_rfl) fun hl_1 => ?_
  refine st_con tab_ok (by kernel_rfl) [.tmp 4] 26 Go.Proofs.Try.func25 (by kernel_rfl) (by kernel_rfl) ?_
  intro e0 cx
  refine sq ?_
  refine rg (A := True) cx [] [0, 1] [] trivial ?_
  refine sn ?_
  refine sq ?_
  refine sq ?_
  refine rg (A := _ ∧ _ ∧ (AV.b ((↑a.length : Int) != (↑b.length : Int)) = AV.b (decide ¬(↑a.length : Int) = (↑b.length : Int)))) cx [(1, { tell := some (.i .i64 ((↑a.length : Int))) }), (3, { tell := some (.i .i64 ((↑b.length : Int))) }), (4, { tell := some (.b (decide ¬(↑a.length : Int) = (↑b.length : Int))) })] [0, 1, 10] [] ⟨(told_len c3 a), (told_len c3 b), (told_neq)⟩ ?_
  refine sn ?_
  refine st_dec (¬(↑a.length : Int) = (↑b.length : Int)) (by kernel_rfl) (by kernel_rfl) (fun h_0 => ?_) (fun h_0 => ?_)
  refine sq ?_
  refine rg (A := True) cx [] [4] [] trivial ?_
  refine sn ?_
  refine st_ret (by kernel_rfl) ?_
  refine q_seq_ret ?_
  refine q_ret (r := .b (false)) (obl := []) (by kernel_rfl) trivial (AVle.eq (show AV.b false = AV.b (decide (a = b)) from ?g0)); rotate_left 1
  refine st_skip (by kernel_rfl) ?_
  refine sn ?_
  refine sq ?_
  refine sq ?_
  refine rg (A := _) cx [(1, { tell := some (.i .i64 ((↑a.length : Int))) })] [0, 1, 12, 13] [] (told_len c3 a) ?_
  refine sn ?_
  refine st_block 0 (by kernel_rfl) ?_
  refine st_loop (X := Int) (fun x => ⟨[(0, .sl (List.map c3 a)), (1, .sl (List.map c3 b)), (12, .i .i64 ((↑a.length : Int))), (13, .i .i64 (x))], []⟩) (fun x ↦ decE a b x) (fun x ↦ invE a b x) [0, 1, 12, 13] [] ((0 : Int)) (by kernel_rfl) (by kernel_rfl) (show invE a b (0 : Int) from ?g1) ?_; rotate_left 1
  intro i_1 h_2
  obtain ⟨h_3, h_4, h_5, h_6⟩ : (0 : Int) ≤ i_1 ∧ i_1 ≤ (↑a.length : Int) ∧ a.length = b.length ∧ ∀ (j : Nat), (↑j : Int) < i_1 → a[j]! = b[j]! := h_2
  refine sq ?_
  refine rg (A := (AV.b (decide (i_1 < (↑a.length : Int))) = AV.b (decide (i_1 < (↑a.length : Int))))) cx [(0, { tell := some (.b (decide (i_1 < (↑a.length : Int)))) })] [0, 1, 12, 13, 14] [] (by kernel_rfl) ?_
  refine sn ?_
  refine sq ?_
  refine st_dec (i_1 < (↑a.length : Int)) (by kernel_rfl) (by kernel_rfl) (fun h_7 => ?_) (fun h_7 => ?_)
  refine st_skip (by kernel_rfl) ?_
  refine sn ?_
  refine sq ?_
  refine st_block 1 (by kernel_rfl) ?_
  refine sq ?_
  refine rg (A := True) cx [] [0, 1, 12, 13, 5] [] trivial ?_
  refine sn ?_
  refine sq ?_
  refine ra (A := ((0 : Int) ≤ i_1) ∧ ((List.map c3 a)[i_1.toNat]? = some (c3 a[i_1.toNat]!)) ∧ ((c3 a[i_1.toNat]!).length = (1 : Nat)) ∧ ((0 : Int) ≤ i_1) ∧ ((List.map c3 b)[i_1.toNat]? = some (c3 b[i_1.toNat]!)) ∧ ((c3 b[i_1.toNat]!).length = (1 : Nat)) ∧ (AV.b (a[i_1.toNat]! != b[i_1.toNat]!) = AV.b (decide ¬a[i_1.toNat]! = b[i_1.toNat]!))) cx [(2, { row := (c3 a[i_1.toNat]!) }), (6, { row := (c3 b[i_1.toNat]!) }), (8, { tell := some (.b (decide ¬a[i_1.toNat]! = b[i_1.toNat]!)) })] [0, 1, 12, 13, 24] [] ⟨(by (with_reducible assumption)), (by (with_reducible refine get_map ?_; omega)), (by kernel_rfl), (by (with_reducible assumption)), (by (with_reducible refine get_map ?_; omega)), (by kernel_rfl), (told_neq)⟩ ?_
  refine sn ?_
  refine st_dec (¬a[i_1.toNat]! = b[i_1.toNat]!) (by kernel_rfl) (by kernel_rfl) (fun h_8 => ?_) (fun h_8 => ?_)
  refine sq ?_
  refine rg (A := True) cx [] [4] [] trivial ?_
  refine sn ?_
  refine st_ret (by kernel_rfl) ?_
  refine q_blk_ret ?_
  refine q_seq_ret ?_
  refine q_seq_ret ?_
  refine q_blk_ret ?_
  refine q_seq_ret ?_
  refine q_ret (r := .b (false)) (obl := []) (by kernel_rfl) trivial (AVle.eq (show AV.b false = AV.b (decide (a = b)) from ?g2)); rotate_left 1
  refine st_skip (by kernel_rfl) ?_
  refine q_blk_normal ?_
  refine sn ?_
  refine rg (A := (AV.i IntKind.i64 (IntKind.i64.wrap (i_1 + (1 : Int))) = AV.i IntKind.i64 (i_1 + (1 : Int)))) cx [(0, { tell := some (.i .i64 (i_1 + (1 : Int))) })] [0, 1, 12, 13] [] (told_i64 (by omega) (by omega)) ?_
  refine sn ?_
  refine loop_next (i_1 + (1 : Int)) (by kernel_rfl) (show ((↑a.length : Int) - (i_1 + (1 : Int))).toNat < ((↑a.length : Int) - i_1).toNat from (by omega)) (show invE a b (i_1 + (1 : Int)) from ?g3); rotate_left 1
  refine st_exit 0 (by kernel_rfl) ?_
  refine q_seq_exit ?_
  refine q_seq_exit ?_
  refine q_blk_hit ?_
  refine sn ?_
  refine sq ?_
  refine rg (A := True) cx [] [4] [] trivial ?_
  refine sn ?_
  refine st_ret (by kernel_rfl) ?_
  refine q_ret (r := .b (true)) (obl := []) (by kernel_rfl) trivial (AVle.eq (show AV.b true = AV.b (decide (a = b)) from ?g4)); rotate_left 1
  revert h_0; rotate_left
  revert h_0; rotate_left
  revert h_0 i_1 h_3 h_4 h_5 h_6 h_7 h_8; rotate_left
  revert h_0 i_1 h_3 h_4 h_5 h_6 h_7 h_8; rotate_left
  revert h_0 i_1 h_3 h_4 h_5 h_6 h_7; rotate_left
  case g0 => exact (fun h => by rw [decide_eq_false (fun k => h (by rw [k]))])
  case g1 => exact (fun h => ⟨by omega, by omega, by omega, fun j hj => by omega⟩)
  case g2 => exact (fun h i h0 h1 h2 h3 h4 h5 => by rw [decide_eq_false (fun k => h5 (by rw [k]))])
  case g3 => exact (fun h i h0 h1 h2 h3 h4 h5 => ⟨by omega, by omega, h2, fun j hj => by
      by_cases e : j = i.toNat
      · rw [e]; exact Classical.not_not.1 h5
      · exact h3 j (by omega)⟩)
  case g4 => exact (fun h i h0 h1 h2 h3 h4 => by rw [decide_eq_true (eq_of_all h2 fun j hj => h3 j (by omega))])
theorem con26 (a b : List Span) : Con Try.prog 26 [.sl (a.map c50), .sl (b.map c50)] (.b (decide (a = b))) :=
  by
  refine con_lens 0 (c50) (a) (by kernel_rfl) Go.Proofs.Try.func26 (by kernel_rfl) fun hl_0 => ?_
  refine con_lens 1 (c50) (b) (by kernel_rfl) Go.Proofs.Try.func26 (by kernel_rfl) fun hl_1 => ?_
  refine st_con tab_ok (by kernel_rfl) [.tmp 4] 26 Go.Proofs.Try.func26 (by kernel_rfl) (by kernel_rfl) ?_
  intro e0 cx
  refine sq ?_
  refine rg (A := True) cx [] [0, 1] [] trivial ?_
  refine sn ?_
  refine sq ?_
  refine sq ?_
  refine rg (A := _ ∧ _ ∧ (AV.b ((↑a.length : Int) != (↑b.length : Int)) = AV.b (decide ¬(↑a.length : Int) = (↑b.length : Int)))) cx [(1, { tell := some (.i .i64 ((↑a.length : Int))) }), (3, { tell := some (.i .i64 ((↑b.length : Int))) }), (4, { tell := some (.b (decide ¬(↑a.length : Int) = (↑b.length : Int))) })] [0, 1, 10] [] ⟨(told_len c50 a), (told_len c50 b), (told_neq)⟩ ?_
  refine sn ?_
  refine st_dec (¬(↑a.length : Int) = (↑b.length : Int)) (by kernel_rfl) (by kernel_rfl) (fun h_0 => ?_) (fun h_0 => ?_)
  refine sq ?_
  refine rg (A := True) cx [] [4] [] trivial ?_
  refine sn ?_
  refine st_ret (by kernel_rfl) ?_
  refine q_seq_ret ?_
  refine q_ret (r := .b (false)) (obl := []) (by kernel_rfl) trivial (AVle.eq (show AV.b false = AV.b (decide (a = b)) from ?g0)); rotate_left 1
  refine st_skip (by kernel_rfl) ?_
  refine sn ?_
  refine sq ?_
  refine sq ?_
  refine rg (A := _) cx [(1, { tell := some (.i .i64 ((↑a.length : Int))) })] [0, 1, 12, 13] [] (told_len c50 a) ?_
  refine sn ?_
  refine st_block 0 (by kernel_rfl) ?_
  refine st_loop (X := Int) (fun x => ⟨[(0, .sl (List.map c50 a)), (1, .sl (List.map c50 b)), (12, .i .i64 ((↑a.length : Int))), (13, .i .i64 (x))], []⟩) (fun x ↦ decE a b x) (fun x ↦ invE a b x) [0, 1, 12, 13] [] ((0 : Int)) (by kernel_rfl) (by kernel_rfl) (show invE a b (0 : Int) from ?g1) ?_; rotate_left 1
  intro i_1 h_2
  obtain ⟨h_3, h_4, h_5, h_6⟩ : (0 : Int) ≤ i_1 ∧ i_1 ≤ (↑a.length : Int) ∧ a.length = b.length ∧ ∀ (j : Nat), (↑j : Int) < i_1 → a[j]! = b[j]! := h_2
  refine sq ?_
  refine rg (A := (AV.b (decide (i_1 < (↑a.length : Int))) = AV.b (decide (i_1 < (↑a.length : Int))))) cx [(0, { tell := some (.b (decide (i_1 < (↑a.length : Int)))) })] [0, 1, 12, 13, 14] [] (by kernel_rfl) ?_
  refine sn ?_
  refine sq ?_
  refine st_dec (i_1 < (↑a.length : Int)) (by kernel_rfl) (by kernel_rfl) (fun h_7 => ?_) (fun h_7 => ?_)
  refine st_skip (by kernel_rfl) ?_
  refine sn ?_
  refine sq ?_
  refine st_block 1 (by kernel_rfl) ?_
  refine sq ?_
  refine rg (A := True) cx [] [0, 1, 12, 13, 5] [] trivial ?_
  refine sn ?_
  refine sq ?_
  refine ra (A := ((0 : Int) ≤ i_1) ∧ ((List.map c50 a)[i_1.toNat]? = some (c50 a[i_1.toNat]!)) ∧ ((c50 a[i_1.toNat]!).length = (3 : Nat)) ∧ ((3 : Nat) ≤ [AV.i IntKind.i64 a[i_1.toNat]!.rep, AV.i IntKind.i64 a[i_1.toNat]!.lo, AV.i IntKind.i64 a[i_1.toNat]!.hi].length) ∧ ((0 : Int) ≤ i_1) ∧ ((List.map c50 b)[i_1.toNat]? = some (c50 b[i_1.toNat]!)) ∧ ((c50 b[i_1.toNat]!).length = (3 : Nat)) ∧ ((3 : Nat) ≤ [AV.i IntKind.i64 b[i_1.toNat]!.rep, AV.i IntKind.i64 b[i_1.toNat]!.lo, AV.i IntKind.i64 b[i_1.toNat]!.hi].length) ∧ (AggEq Try.prog (50 : Nat) [AV.i IntKind.i64 a[i_1.toNat]!.rep, AV.i IntKind.i64 a[i_1.toNat]!.lo, AV.i IntKind.i64 a[i_1.toNat]!.hi] [AV.i IntKind.i64 b[i_1.toNat]!.rep, AV.i IntKind.i64 b[i_1.toNat]!.lo, AV.i IntKind.i64 b[i_1.toNat]!.hi] !decide ¬a[i_1.toNat]! = b[i_1.toNat]!)) cx [(2, { row := (c50 a[i_1.toNat]!) }), (6, { row := (c50 b[i_1.toNat]!) }), (8, { val := some (.b (decide ¬a[i_1.toNat]! = b[i_1.toNat]!)) })] [0, 1, 12, 13, 24] [] ⟨(by (with_reducible assumption)), (by (with_reducible refine get_map ?_; omega)), (by kernel_rfl), (by (simp only [List.length_append, List.length_cons, List.length_nil]; omega)), (by (with_reducible assumption)), (by (with_reducible refine get_map ?_; omega)), (by kernel_rfl), (by (simp only [List.length_append, List.length_cons, List.length_nil]; omega)), (aggNe_dec (eq50 a[i_1.toNat]! b[i_1.toNat]!))⟩ ?_
  refine sn ?_
  refine st_dec (¬a[i_1.toNat]! = b[i_1.toNat]!) (by kernel_rfl) (by kernel_rfl) (fun h_8 => ?_) (fun h_8 => ?_)
  refine sq ?_
  refine rg (A := True) cx [] [4] [] trivial ?_
  refine sn ?_
  refine st_ret (by kernel_rfl) ?_
  refine q_blk_ret ?_
  refine q_seq_ret ?_
  refine q_seq_ret ?_
  refine q_blk_ret ?_
  refine q_seq_ret ?_
  refine q_ret (r := .b (false)) (obl := []) (by kernel_rfl) trivial (AVle.eq (show AV.b false = AV.b (decide (a = b)) from ?g2)); rotate_left 1
  refine st_skip (by kernel_rfl) ?_
  refine q_blk_normal ?_
  refine sn ?_
  refine rg (A := (AV.i IntKind.i64 (IntKind.i64.wrap (i_1 + (1 : Int))) = AV.i IntKind.i64 (i_1 + (1 : Int)))) cx [(0, { tell := some (.i .i64 (i_1 + (1 : Int))) })] [0, 1, 12, 13] [] (told_i64 (by omega) (by omega)) ?_
  refine sn ?_
  refine loop_next (i_1 + (1 : Int)) (by kernel_rfl) (show ((↑a.length : Int) - (i_1 + (1 : Int))).toNat < ((↑a.length : Int) - i_1).toNat from (by omega)) (show invE a b (i_1 + (1 : Int)) from ?g3); rotate_left 1
  refine st_exit 0 (by kernel_rfl) ?_
  refine q_seq_exit ?_
  refine q_seq_exit ?_
  refine q_blk_hit ?_
  refine sn ?_
  refine sq ?_
  refine rg (A := True) cx [] [4] [] trivial ?_
  refine sn ?_
  refine st_ret (by kernel_rfl) ?_
  refine q_ret (r := .b (true)) (obl := []) (by kernel_rfl) trivial (AVle.eq (show AV.b true = AV.b (decide (a = b)) from ?g4)); rotate_left 1
  revert h_0; rotate_left
  revert h_0; rotate_left
  revert h_0 i_1 h_3 h_4 h_5 h_6 h_7 h_8; rotate_left
  revert h_0 i_1 h_3 h_4 h_5 h_6 h_7 h_8; rotate_left
  revert h_0 i_1 h_3 h_4 h_5 h_6 h_7; rotate_left
  case g0 => exact (fun h => by rw [decide_eq_false (fun k => h (by rw [k]))])
  case g1 => exact (fun h => ⟨by omega, by omega, by omega, fun j hj => by omega⟩)
  case g2 => exact (fun h i h0 h1 h2 h3 h4 h5 => by rw [decide_eq_false (fun k => h5 (by rw [k]))])
  case g3 => exact (fun h i h0 h1 h2 h3 h4 h5 => ⟨by omega, by omega, h2, fun j hj => by
      by_cases e : j = i.toNat
      · rw [e]; exact Classical.not_not.1 h5
      · exact h3 j (by omega)⟩)
  case g4 => exact (fun h i h0 h1 h2 h3 h4 => by rw [decide_eq_true (eq_of_all h2 fun j hj => h3 j (by omega))])
theorem con13 (p : Past) (hb : p.cloud.length * 16 ≤ 140737488350000) : Con Try.prog 13 [.agg (c25 p)] (.b (decide (p = normP p))) :=
  by
  refine st_con tab_ok (by kernel_rfl) [.tmp 2] 18 Go.Proofs.Try.func13 (by kernel_rfl) (by kernel_rfl) ?_
  intro e0 cx
  refine sq ?_
  refine rg (A := True) cx [] [1] [1] trivial ?_
  refine sn ?_
  refine sq ?_
  refine rg (A := _) cx [(1, { val := some (.agg [.sl (List.map c3 (normP p).vec), .sl (List.map c50 (normP p).cloud)]) })] [1, 3] [1, 3] (con24 (p) (by (with_reducible assumption))) ?_
  refine sn ?_
  refine sq ?_
  refine st_join (σ' := ⟨[(2, .b (decide (p.vec = (normP p).vec ∧ p.cloud = (normP p).cloud)))], []⟩) ?_ ?_
  refine st_split (p.vec = (normP p).vec) (fun h_1 => ?_) (fun h_1 => ?_)
  refine rg (A := _ ∧ _ ∧ _ ∧ (AV.b (decide (p.cloud = (normP p).cloud)) = AV.b (decide (p.vec = (normP p).vec ∧ p.cloud = (normP p).cloud)))) cx [(4, { val := some (.b (decide (p.vec = (normP p).vec))), tell := some (.b (true)) }), (10, { val := some (.b (decide (p.cloud = (normP p).cloud))) }), (12, { tell := some (.b (decide (p.vec = (normP p).vec ∧ p.cloud = (normP p).cloud))) })] [2] [] ⟨(told_true h_1), (con25 (p.vec) ((normP p).vec)), (con26 (p.cloud) ((normP p).cloud)), (by simp only [eq_true h_1, told_simp1, told_simp2, and_true, true_and, and_false, false_and, or_true, true_or, or_false, false_or, not_true_eq_false, not_false_eq_true, decide_true, decide_false, Bool.decide_eq_true])⟩ ?_
  exact ⟨rfl, by kernel_rfl⟩
  refine rg (A := _ ∧ _ ∧ (AV.b false = AV.b (decide (p.vec = (normP p).vec ∧ p.cloud = (normP p).cloud)))) cx [(4, { val := some (.b (decide (p.vec = (normP p).vec))), tell := some (.b (false)) }), (12, { tell := some (.b (decide (p.vec = (normP p).vec ∧ p.cloud = (normP p).cloud))) })] [2] [] ⟨(told_false h_1), (con25 (p.vec) ((normP p).vec)), (by simp only [eq_false h_1, told_simp1, told_simp2, and_true, true_and, and_false, false_and, or_true, true_or, or_false, false_or, not_true_eq_false, not_false_eq_true, decide_true, decide_false, Bool.decide_eq_true])⟩ ?_
  exact ⟨rfl, by kernel_rfl⟩
  refine sn ?_
  refine st_ret (by kernel_rfl) ?_
  refine q_ret (r := .b (decide (p.vec = (normP p).vec ∧ p.cloud = (normP p).cloud))) (obl := []) (by kernel_rfl) trivial (AVle.eq (show AV.b (decide (p.vec = (normP p).vec ∧ p.cloud = (normP p).cloud)) = AV.b (decide (p = normP p)) from ?g0)); rotate_left 1
  case' g0 => refine (by
    congr 1
    refine decide_eq_decide.2 ?_
    generalize normP p = q
    cases p; cases q; simp)
end Go.Proofs.Ytaiepnaokhpmcaa
namespace Go.Proofs.Ytaiepnaokhpmcaa
open Go.E
set_option maxRecDepth 100000
set_option maxHeartbeats 4000000
def hasS (s : Span) (d : Dot) : Bool := decide (s.rep = d.rep ∧ s.lo ≤ d.num ∧ d.num ≤ s.hi)
def idxS (c : List Span) (d : Dot) : Int := if c.any (fun s => hasS s d) = true then (c.findIdx (fun s => hasS s d) : Int) else -1
def invI (c : List Span) (d : Dot) (i : Int) : Prop := 0 ≤ i ∧ i ≤ c.length ∧ ∀ j : Nat, (j : Int) < i → hasS c[j]! d = false
def decI (c : List Span) (d : Dot) (i : Int) : Nat := (c.length - i).toNat
def hasP (p : Past) (d : Dot) : Bool := dotB d && (decide (d.rep < p.vec.length ∧ d.num ≤ p.vec[d.rep.toNat]!) || p.cloud.any fun s => hasS s d)
theorem idx_at {c : List Span} {d : Dot} : ∀ {i : Nat}, i < c.length → hasS c[i]! d = true → (∀ j : Nat, j < i → hasS c[j]! d = false) → idxS c d = i := by
  intro i hi h hn
  have hany : c.any (fun s => hasS s d) = true := List.any_eq_true.2 ⟨c[i]!, bang_in hi, h⟩
  unfold idxS
  rw [if_pos hany]
  have : c.findIdx (fun s => hasS s d) = i := by
    rw [List.findIdx_eq hi]
    refine ⟨by rwa [getElem!_pos c i hi] at h, fun j hj => ?_⟩
    have := hn j hj
    rwa [getElem!_pos c j (by omega)] at this
  rw [this]
theorem idx_no {c : List Span} {d : Dot} (h : ∀ j : Nat, j < c.length → hasS c[j]! d = false) : idxS c d = -1 := by
  unfold idxS
  rw [if_neg]
  intro k
  obtain ⟨x, hx, hk⟩ := List.any_eq_true.1 k
  obtain ⟨j, hj, rfl⟩ := List.mem_iff_getElem.1 hx
  have := h j hj
  rw [getElem!_pos c j hj] at this
  rw [this] at hk
  cases hk
theorem idx_any (c : List Span) (d : Dot) : decide (0 ≤ idxS c d) = c.any fun s => hasS s d := by
  unfold idxS
  cases h : c.any fun s => hasS s d with
  | true => rw [if_pos rfl]; simp
  | false => rw [if_neg (by simp)]; rfl
end Go.Proofs.Ytaiepnaokhpmcaa
namespace Go.Proofs.Ytaiepnaokhpmcaa
open Go.E
set_option maxRecDepth 100000
set_option maxHeartbeats 4000000
def nrmT (T : Nat → List Run) (r : Nat) : List Run := nrm (T r)
theorem inR_cons (r : Run) (R : List Run) (n : Int) : inR (r :: R) n ↔ (r.lo ≤ n ∧ n ≤ r.hi) ∨ inR R n := by simp [inR]
theorem nrm_id {l : List Run} (h : sepR l) : nrm l = l := by
  refine sep_unique (nrm_sep l) h fun n => ?_
  rw [nrm_in]
  constructor
  · exact fun k => k.2.2
  · rintro ⟨r, hr, h1, h2⟩
    have := h.2 r hr
    exact ⟨by omega, by omega, r, hr, h1, h2⟩
theorem lead_nil : leadR [] = (0, []) := rfl
theorem nrm_nrm (l : List Run) : nrm (nrm l) = nrm l := nrm_id (nrm_sep l)
theorem tabP_nrm (T : Nat → List Run) : tabP (nrmT T) = tabP T := by
  have h1 : ∀ r, leadT (nrmT T) r = leadT T r := fun r => by unfold leadT nrmT; rw [nrm_nrm]
  have h2 : ∀ r, restT (nrmT T) r = restT T r := fun r => by unfold restT nrmT; rw [nrm_nrm]
  have h3 : ∀ n, szT (nrmT T) n = szT T n := fun n => by
    induction n with
    | zero => rfl
    | succ n ih => rw [szT, szT, h1, ih]
  have h4 : ∀ n, cloudT (nrmT T) n = cloudT T n := fun n => by
    induction n with
    | zero => rfl
    | succ n ih => rw [cloudT, cloudT, h2, ih]
  have h5 : vecT (nrmT T) 16 = vecT T 16 := by
    unfold vecT
    congr 1
    exact List.map_congr_left fun r _ => h1 r
  unfold tabP
  rw [h3, h4, h5]
theorem nrmT_sep (T : Nat → List Run) : ∀ r : Nat, r < 16 → sepR (nrmT T r) := fun r _ => nrm_sep _
theorem lead_in {l : List Run} (h : sepR l) {n : Int} (hn : 1 ≤ n) : inR l n ↔ n ≤ (leadR l).1 ∨ inR (leadR l).2 n := by
  cases l with
  | nil => rw [lead_nil]; simp only [inR]; constructor
           · rintro ⟨r, hr, _⟩; cases hr
           · rintro (k | ⟨r, hr, _⟩)
             · omega
             · cases hr
  | cons x l =>
    rw [inR_cons]
    unfold leadR
    by_cases hx : x.lo = 1
    · rw [if_neg (by simpa using hx)]
      show _ ↔ n ≤ x.hi ∨ inR l n
      constructor
      · rintro (k | k)
        · exact .inl k.2
        · exact .inr k
      · rintro (k | k)
        · exact .inl ⟨by omega, k⟩
        · exact .inr k
    · rw [if_pos (.inr (by simpa using hx))]
      show _ ↔ n ≤ 0 ∨ inR (x :: l) n
      rw [inR_cons]
      constructor
      · exact fun k => .inr k
      · rintro (k | k)
        · omega
        · exact k
theorem sz_spec (T : Nat → List Run) : ∀ n : Nat, 0 ≤ szT T n ∧ szT T n ≤ n ∧ ∀ r : Nat, r < n → szT T n ≤ r → ¬ 0 < leadT T r
  | 0 => ⟨by simp [szT], by simp [szT], fun r hr => by omega⟩
  | n + 1 => by
    obtain ⟨h1, h2, h3⟩ := sz_spec T n
    rw [szT]
    split
    · exact ⟨by omega, by omega, fun r hr k => by omega⟩
    · rename_i hn
      refine ⟨h1, by omega, fun r hr k => ?_⟩
      by_cases e : r = n
      · rw [e]; exact hn
      · exact h3 r (by omega) k
theorem cloud_mem (T : Nat → List Run) (s : Span) : ∀ n : Nat, s ∈ cloudT T n ↔ ∃ r : Nat, r < n ∧ s ∈ restT T r
  | 0 => by simp [cloudT]
  | n + 1 => by
    rw [cloudT, List.mem_append, cloud_mem T s n]
    constructor
    · rintro (⟨r, h1, h2⟩ | h)
      · exact ⟨r, by omega, h2⟩
      · exact ⟨n, by omega, h⟩
    · rintro ⟨r, h1, h2⟩
      by_cases e : r = n
      · exact .inr (e ▸ h2)
      · exact .inl ⟨r, by omega, h2⟩
theorem vec_at (T : Nat → List Run) {r : Nat} (h : (r : Int) < szT T 16) : (tabP T).vec[r]! = leadT T r ∧ r < (tabP T).vec.length := by
  have h2 := (sz_spec T 16).2.1
  have hl : (vecT T 16).length = 16 := by simp [vecT]
  have hr : r < ((vecT T 16).take (szT T 16).toNat).length := by rw [List.length_take, hl]; omega
  refine ⟨?_, hr⟩
  show ((vecT T 16).take (szT T 16).toNat)[r]! = _
  rw [getElem!_pos ((vecT T 16).take (szT T 16).toNat) r hr, List.getElem_take]
  unfold vecT
  rw [List.getElem_append_left (by simp; omega)]
  simp
theorem vec_len (T : Nat → List Run) : ((tabP T).vec.length : Int) = szT T 16 := by
  have h2 := sz_spec T 16
  show (((vecT T 16).take (szT T 16).toNat).length : Int) = _
  rw [List.length_take]
  simp [vecT]
  omega
/-- What is in a set in form: the dots whose number is in the replica's list. -/
theorem has_tab (T : Nat → List Run) (d : Dot) : hasP (tabP T) d = true ↔ dotB d = true ∧ inR (T d.rep.toNat) d.num := by
  unfold hasP
  rw [Bool.and_eq_true]
  refine and_congr_right fun hd => ?_
  have hb := dotB_in hd
  have e1 : inR (T d.rep.toNat) d.num ↔ inR (nrm (T d.rep.toNat)) d.num := by
    rw [nrm_in]
    exact ⟨fun k => ⟨by omega, by omega, k⟩, fun k => k.2.2⟩
  rw [e1, lead_in (nrm_sep _) (by omega), Bool.or_eq_true, decide_eq_true_eq]
  refine or_congr ?_ ?_
  · rw [vec_len]
    constructor
    · rintro ⟨h1, h2⟩
      have := (vec_at T (r := d.rep.toNat) (by omega)).1
      rw [this] at h2
      exact h2
    · intro k
      have k : d.num ≤ leadT T d.rep.toNat := k
      have h1 : d.rep < szT T 16 := by
        apply Classical.byContradiction
        intro hn
        have := (sz_spec T 16).2.2 d.rep.toNat (by omega) (by omega)
        omega
      refine ⟨h1, ?_⟩
      rw [(vec_at T (r := d.rep.toNat) (by omega)).1]
      exact k
  · rw [List.any_eq_true]
    unfold hasS
    constructor
    · rintro ⟨s, hs, h⟩
      rw [decide_eq_true_eq] at h
      obtain ⟨r, hr, hs⟩ := (cloud_mem T s 16).1 hs
      unfold restT at hs
      obtain ⟨x, hx, rfl⟩ := List.mem_map.1 hs
      simp only at h
      have : r = d.rep.toNat := by omega
      subst this
      exact ⟨x, hx, h.2.1, h.2.2⟩
    · rintro ⟨x, hx, h1, h2⟩
      refine ⟨⟨d.rep.toNat, x.lo, x.hi⟩, (cloud_mem T _ 16).2 ⟨d.rep.toNat, by omega, List.mem_map.2 ⟨x, hx, rfl⟩⟩, ?_⟩
      rw [decide_eq_true_eq]
      exact ⟨by show ((d.rep.toNat : Nat) : Int) = d.rep; omega, h1, h2⟩
theorem inR_app (a b : List Run) (n : Int) : inR (a ++ b) n ↔ inR a n ∨ inR b n := by
  unfold inR
  constructor
  · rintro ⟨y, hy, h⟩
    rcases List.mem_append.1 hy with hy | hy
    · exact .inl ⟨y, hy, h⟩
    · exact .inr ⟨y, hy, h⟩
  · rintro (⟨y, hy, h⟩ | ⟨y, hy, h⟩)
    · exact ⟨y, List.mem_append.2 (.inl hy), h⟩
    · exact ⟨y, List.mem_append.2 (.inr hy), h⟩
theorem vecR_in {p : Past} {d : Dot} (hd : dotB d = true) : inR (vecR p.vec d.rep.toNat) d.num ↔ (d.rep < p.vec.length ∧ d.num ≤ p.vec[d.rep.toNat]!) := by
  have hb := dotB_in hd
  unfold vecR inR
  split
  · simp only [List.mem_singleton, exists_eq_left]
    constructor
    · exact fun k => ⟨by omega, k.2⟩
    · exact fun k => ⟨by omega, k.2⟩
  · constructor
    · rintro ⟨r, hr, _⟩; cases hr
    · rintro ⟨h, _⟩; omega
theorem cloudR_in {p : Past} {d : Dot} (hd : dotB d = true) : inR (cloudR p.cloud d.rep.toNat) d.num ↔ (p.cloud.any fun s => hasS s d) = true := by
  have hb := dotB_in hd
  rw [List.any_eq_true]
  unfold inR cloudR hasS
  constructor
  · rintro ⟨x, hx, h1, h2⟩
    obtain ⟨s, hs, rfl⟩ := List.mem_map.1 hx
    obtain ⟨hs, hq⟩ := List.mem_filter.1 hs
    rw [decide_eq_true_eq] at hq
    exact ⟨s, hs, by rw [decide_eq_true_eq]; exact ⟨by omega, h1, h2⟩⟩
  · rintro ⟨s, hs, h⟩
    rw [decide_eq_true_eq] at h
    exact ⟨⟨s.lo, s.hi⟩, List.mem_map.2 ⟨s, List.mem_filter.2 ⟨hs, by rw [decide_eq_true_eq]; omega⟩, rfl⟩, h.2.1, h.2.2⟩
/-- What is in a set, by its lists. -/
theorem has_in (p : Past) (d : Dot) : hasP p d = true ↔ dotB d = true ∧ (inR (vecR p.vec d.rep.toNat) d.num ∨ inR (cloudR p.cloud d.rep.toNat) d.num) := by
  unfold hasP
  rw [Bool.and_eq_true]
  refine and_congr_right fun hd => ?_
  rw [vecR_in hd, cloudR_in hd, Bool.or_eq_true, decide_eq_true_eq]
/-- What is in any of the sets. -/
theorem has_open (ps : List Past) (d : Dot) : hasP (tabP (openT ps)) d = true ↔ ∃ p ∈ ps, hasP p d = true := by
  rw [has_tab]
  have e : inR (openT ps d.rep.toNat) d.num ↔ ∃ p ∈ ps, inR (vecR p.vec d.rep.toNat ++ cloudR p.cloud d.rep.toNat) d.num := by
    unfold inR openT
    constructor
    · rintro ⟨r, hr, h⟩
      obtain ⟨l, hl, hr⟩ := List.mem_flatten.1 hr
      obtain ⟨p, hp, rfl⟩ := List.mem_map.1 hl
      exact ⟨p, hp, r, hr, h⟩
    · rintro ⟨p, hp, r, hr, h⟩
      exact ⟨r, List.mem_flatten.2 ⟨_, List.mem_map.2 ⟨p, hp, rfl⟩, hr⟩, h⟩
  rw [e]
  constructor
  · rintro ⟨hd, p, hp, h⟩
    rw [inR_app] at h
    exact ⟨p, hp, (has_in p d).2 ⟨hd, h⟩⟩
  · rintro ⟨p, hp, h⟩
    have := (has_in p d).1 h
    exact ⟨this.1, p, hp, (inR_app _ _ _).2 this.2⟩
theorem has_norm (p : Past) (d : Dot) : hasP (normP p) d = hasP p d := by
  rw [Bool.eq_iff_iff]
  unfold normP
  rw [has_open]
  simp
theorem has_of (ds : List Dot) (d : Dot) : hasP (tabP (ofT ds)) d = true ↔ dotB d = true ∧ d ∈ ds := by
  rw [has_tab]
  refine and_congr_right fun hd => ?_
  have hb := dotB_in hd
  unfold inR ofT
  constructor
  · rintro ⟨x, hx, h1, h2⟩
    obtain ⟨y, hy, rfl⟩ := List.mem_map.1 hx
    obtain ⟨hy, hq⟩ := List.mem_filter.1 hy
    rw [Bool.and_eq_true, decide_eq_true_eq] at hq
    simp only at h1 h2
    have : y = d := by
      cases y; cases d
      simp only at *
      congr 1
      · omega
      · omega
    exact this ▸ hy
  · intro h
    exact ⟨⟨d.num, d.num⟩, List.mem_map.2 ⟨d, List.mem_filter.2 ⟨h, by rw [Bool.and_eq_true, decide_eq_true_eq]; exact ⟨hd, by omega⟩⟩, rfl⟩, Int.le_refl _, Int.le_refl _⟩
/-- Sets in form with the same dots are one. -/
theorem tab_ext {T U : Nat → List Run} (h : ∀ d, hasP (tabP T) d = true ↔ hasP (tabP U) d = true) : tabP T = tabP U := by
  rw [← tabP_nrm T, ← tabP_nrm U]
  refine tabP_congr fun r hr => ?_
  refine sep_unique (nrm_sep _) (nrm_sep _) fun n => ?_
  show inR (nrm _) n ↔ inR (nrm _) n
  rw [nrm_in, nrm_in]
  refine and_congr_right fun n0 => and_congr_right fun n1 => ?_
  have hd : dotB ⟨r, n⟩ = true := by unfold dotB; rw [decide_eq_true_eq]; simp only; omega
  have := h ⟨r, n⟩
  rw [has_tab, has_tab] at this
  simp only [hd, true_and] at this
  exact this
theorem norm_tab (T : Nat → List Run) : normP (tabP T) = tabP T := tab_ext fun d => by
  have := has_norm (tabP T) d
  unfold normP at this
  rw [this]
theorem norm_ext {p q : Past} (hp : p = normP p) (hq : q = normP q) (h : ∀ d, hasP p d = hasP q d) : p = q := by
  rw [hp, hq]
  refine tab_ext fun d => ?_
  have h1 := has_norm p d
  have h2 := has_norm q d
  unfold normP at h1 h2
  rw [h1, h2, h d]
theorem norm_norm (p : Past) : normP (normP p) = normP p := norm_tab _
theorem tabP_len (T : Nat → List Run) : (tabP T).cloud.length ≤ 8000000000 ∧ (tabP T).vec.length ≤ 16 := by
  have h1 := cloud_len T 16
  have h2 := vec_len T
  have h3 := (sz_spec T 16).2.1
  exact ⟨by show (cloudT T 16).length ≤ _; omega, by omega⟩
end Go.Proofs.Ytaiepnaokhpmcaa
namespace Go.Proofs.Ytaiepnaokhpmcaa
open Go.E
set_option maxRecDepth 100000
set_option maxHeartbeats 4000000
def meetL : List Run → List Run → List Run
  | x :: a, y :: b => (if max x.lo y.lo ≤ min x.hi y.hi then [⟨max x.lo y.lo, min x.hi y.hi⟩] else []) ++ (if x.hi < y.hi then meetL a (y :: b) else meetL (x :: a) b)
  | _, _ => []
termination_by a b => a.length + b.length
theorem meetL_nil (b : List Run) : meetL [] b = [] := by unfold meetL; rfl
theorem meetL_nil2 (a : List Run) : meetL a [] = [] := by unfold meetL; cases a <;> rfl
theorem meetL_cons (x y : Run) (a b : List Run) : meetL (x :: a) (y :: b) = (if max x.lo y.lo ≤ min x.hi y.hi then [⟨max x.lo y.lo, min x.hi y.hi⟩] else []) ++ (if x.hi < y.hi then meetL a (y :: b) else meetL (x :: a) b) := by rw [meetL]
def othL : Int → List Run → List Run
  | n, [] => if n ≤ 1000000000 then [⟨n, 1000000000⟩] else []
  | n, r :: l => (if n < r.lo then [⟨n, r.lo - 1⟩] else []) ++ othL (r.hi + 1) l
def minR (a b : List Run) : List Run := meetL (nrm a) (nrm (othL 1 (nrm b)))
def metR (a b : List Run) : List Run := meetL (nrm a) (nrm b)
theorem sepR_tail {x : Run} {a : List Run} (h : sepR (x :: a)) : sepR a := ⟨(List.pairwise_cons.1 h.1).2, fun r hr => h.2 r (by simp [hr])⟩
theorem sepR_lt {x : Run} {a : List Run} (h : sepR (x :: a)) {n : Int} (k : inR a n) : x.hi + 1 < n := by
  obtain ⟨r, hr, h1, _⟩ := k
  have := (List.pairwise_cons.1 h.1).1 r hr
  omega
theorem inR_app' (a b : List Run) (n : Int) : inR (a ++ b) n ↔ inR a n ∨ inR b n := inR_app a b n
theorem inR_if (c : Prop) [Decidable c] (r : Run) (n : Int) : inR (if c then [r] else []) n ↔ c ∧ r.lo ≤ n ∧ n ≤ r.hi := by
  split <;> simp [inR, *]
theorem meetL_in : ∀ (k : Nat) (a b : List Run), a.length + b.length ≤ k → sepR a → sepR b → ∀ n, inR (meetL a b) n ↔ inR a n ∧ inR b n := by
  intro k
  induction k with
  | zero =>
    intro a b hk _ _ n
    have : a = [] := List.eq_nil_of_length_eq_zero (by omega)
    subst this
    rw [meetL_nil]
    simp [inR]
  | succ k ih =>
    intro a b hk ha hb n
    cases a with
    | nil => rw [meetL_nil]; simp [inR]
    | cons x a =>
      cases b with
      | nil => rw [meetL_nil2]; simp [inR]
      | cons y b =>
        have hx := ha.2 x (by simp)
        have hy := hb.2 y (by simp)
        have la : inR a n → x.hi + 1 < n := sepR_lt ha
        have lb : inR b n → y.hi + 1 < n := sepR_lt hb
        simp only [List.length_cons] at hk
        rw [meetL_cons, inR_app, inR_if]
        split
        · rw [ih a (y :: b) (by simp only [List.length_cons]; omega) (sepR_tail ha) hb n, inR_cons, inR_cons]
          simp only
          constructor
          · rintro (h | ⟨h1, h2⟩)
            · exact ⟨.inl (by omega), .inl (by omega)⟩
            · exact ⟨.inr h1, h2⟩
          · rintro ⟨h1 | h1, h2 | h2⟩
            · exact .inl (by omega)
            · have := lb h2; omega
            · exact .inr ⟨h1, .inl h2⟩
            · exact .inr ⟨h1, .inr h2⟩
        · rw [ih (x :: a) b (by simp only [List.length_cons]; omega) ha (sepR_tail hb) n, inR_cons, inR_cons]
          simp only
          constructor
          · rintro (h | ⟨h1, h2⟩)
            · exact ⟨.inl (by omega), .inl (by omega)⟩
            · exact ⟨h1, .inr h2⟩
          · rintro ⟨h1 | h1, h2 | h2⟩
            · exact .inl (by omega)
            · exact .inr ⟨.inl h1, h2⟩
            · have := la h1; omega
            · exact .inr ⟨.inr h1, h2⟩
/-- Every piece lies in a run of either. -/
theorem meetL_sub : ∀ (k : Nat) (a b : List Run), a.length + b.length ≤ k → ∀ r ∈ meetL a b, r.lo ≤ r.hi ∧ (∃ x ∈ a, x.lo ≤ r.lo ∧ r.hi ≤ x.hi) ∧ ∃ y ∈ b, y.lo ≤ r.lo ∧ r.hi ≤ y.hi := by
  intro k
  induction k with
  | zero =>
    intro a b hk r hr
    have : a = [] := List.eq_nil_of_length_eq_zero (by omega)
    subst this
    rw [meetL_nil] at hr
    cases hr
  | succ k ih =>
    intro a b hk r hr
    cases a with
    | nil => rw [meetL_nil] at hr; cases hr
    | cons x a =>
      cases b with
      | nil => rw [meetL_nil2] at hr; cases hr
      | cons y b =>
        simp only [List.length_cons] at hk
        rw [meetL_cons] at hr
        rcases List.mem_append.1 hr with hr | hr
        · split at hr
          · have : r = ⟨max x.lo y.lo, min x.hi y.hi⟩ := by simpa using hr
            subst this
            exact ⟨by simp only; omega, ⟨x, by simp, by simp only; omega, by simp only; omega⟩, ⟨y, by simp, by simp only; omega, by simp only; omega⟩⟩
          · cases hr
        · split at hr
          · obtain ⟨h0, ⟨x', hx, h1⟩, h2⟩ := ih a (y :: b) (by simp only [List.length_cons]; omega) r hr
            exact ⟨h0, ⟨x', by simp [hx], h1⟩, h2⟩
          · obtain ⟨h0, h1, ⟨y', hy, h2⟩⟩ := ih (x :: a) b (by simp only [List.length_cons]; omega) r hr
            exact ⟨h0, h1, ⟨y', by simp [hy], h2⟩⟩
theorem meetL_sep : ∀ (k : Nat) (a b : List Run), a.length + b.length ≤ k → sepR a → sepR b → sepR (meetL a b) := by
  intro k
  induction k with
  | zero =>
    intro a b hk _ _
    have : a = [] := List.eq_nil_of_length_eq_zero (by omega)
    subst this
    rw [meetL_nil]
    exact sepR_nil
  | succ k ih =>
    intro a b hk ha hb
    cases a with
    | nil => rw [meetL_nil]; exact sepR_nil
    | cons x a =>
      cases b with
      | nil => rw [meetL_nil2]; exact sepR_nil
      | cons y b =>
        simp only [List.length_cons] at hk
        have hx := ha.2 x (by simp)
        have hy := hb.2 y (by simp)
        have pa := (List.pairwise_cons.1 ha.1).1
        have pb := (List.pairwise_cons.1 hb.1).1
        rw [meetL_cons]
        have key : ∀ m : List Run, sepR m → (∀ r ∈ m, min x.hi y.hi + 1 < r.lo) → sepR ((if max x.lo y.lo ≤ min x.hi y.hi then [(⟨max x.lo y.lo, min x.hi y.hi⟩ : Run)] else []) ++ m) := by
          intro m hm hlt
          split
          · refine ⟨List.pairwise_append.2 ⟨by simp, hm.1, fun u hu v hv => ?_⟩, fun r hr => ?_⟩
            · have : u = ⟨max x.lo y.lo, min x.hi y.hi⟩ := by simpa using hu
              subst this
              exact hlt v hv
            · rcases List.mem_append.1 hr with hr | hr
              · have : r = ⟨max x.lo y.lo, min x.hi y.hi⟩ := by simpa using hr
                subst this
                simp only
                omega
              · exact hm.2 r hr
          · exact hm
        by_cases hd : x.hi < y.hi
        · rw [if_pos hd]
          refine key _ (ih a (y :: b) (by simp only [List.length_cons]; omega) (sepR_tail ha) hb) fun r hr => ?_
          obtain ⟨_, ⟨x', hx', h1, _⟩, _⟩ := meetL_sub _ a (y :: b) (Nat.le_refl _) r hr
          have := pa x' hx'
          omega
        · rw [if_neg hd]
          refine key _ (ih (x :: a) b (by simp only [List.length_cons]; omega) ha (sepR_tail hb)) fun r hr => ?_
          obtain ⟨_, _, ⟨y', hy', h1, _⟩⟩ := meetL_sub _ (x :: a) b (Nat.le_refl _) r hr
          have := pb y' hy'
          omega
theorem othL_in : ∀ (l : List Run) (n : Int), sepR l → (∀ r ∈ l, n ≤ r.lo) → ∀ k, inR (othL n l) k ↔ n ≤ k ∧ k ≤ 1000000000 ∧ ¬ inR l k
  | [], n, _, _, k => by
    unfold othL
    rw [inR_if]
    simp only [inR, List.not_mem_nil, false_and, exists_false, not_false_eq_true, and_true]
    omega
  | r :: l, n, h, hn, k => by
    have hr := h.2 r (by simp)
    have h1 := hn r (by simp)
    have pa := (List.pairwise_cons.1 h.1).1
    have ih := othL_in l (r.hi + 1) (sepR_tail h) (fun x hx => by have := pa x hx; omega) k
    have lt : inR l k → r.hi + 1 < k := sepR_lt h
    rw [othL, inR_app, inR_if, ih, inR_cons]
    simp only
    constructor
    · rintro (g | ⟨g1, g2, g3⟩)
      · exact ⟨by omega, by omega, fun c => by rcases c with c | c; · omega
                                               · have := lt c; omega⟩
      · exact ⟨by omega, by omega, fun c => by rcases c with c | c; · omega
                                               · exact g3 c⟩
    · rintro ⟨g1, g2, g3⟩
      by_cases e : k < r.lo
      · exact .inl ⟨by omega, by omega, by omega⟩
      · exact .inr ⟨by apply Classical.byContradiction; intro c; exact g3 (.inl ⟨by omega, by omega⟩), g2, fun c => g3 (.inr c)⟩
theorem othL_lo : ∀ (l : List Run) (n : Int), sepR l → (∀ r ∈ l, n ≤ r.lo) → ∀ r ∈ othL n l, n ≤ r.lo ∧ r.lo ≤ r.hi ∧ r.hi ≤ 1000000000
  | [], n, _, _, r, hr => by
    unfold othL at hr
    split at hr
    · have : r = ⟨n, 1000000000⟩ := by simpa using hr
      subst this
      simp only
      omega
    · cases hr
  | x :: l, n, h, hn, r, hr => by
    have hx := h.2 x (by simp)
    have h1 := hn x (by simp)
    have pa := (List.pairwise_cons.1 h.1).1
    rw [othL] at hr
    rcases List.mem_append.1 hr with hr | hr
    · split at hr
      · have : r = ⟨n, x.lo - 1⟩ := by simpa using hr
        subst this
        simp only
        omega
      · cases hr
    · have := othL_lo l (x.hi + 1) (sepR_tail h) (fun y hy => by have := pa y hy; omega) r hr
      omega
theorem othL_sep : ∀ (l : List Run) (n : Int), 1 ≤ n → sepR l → (∀ r ∈ l, n ≤ r.lo) → sepR (othL n l)
  | [], n, h1, _, _ => by
    unfold othL
    split
    · exact ⟨by simp, fun r hr => by have : r = ⟨n, 1000000000⟩ := by simpa using hr
                                     subst this; simp only; omega⟩
    · exact sepR_nil
  | x :: l, n, h0, h, hn => by
    have hx := h.2 x (by simp)
    have h1 := hn x (by simp)
    have pa := (List.pairwise_cons.1 h.1).1
    have hp : ∀ r ∈ l, x.hi + 1 ≤ r.lo := fun y hy => by have := pa y hy; omega
    have ih := othL_sep l (x.hi + 1) (by omega) (sepR_tail h) hp
    have lo := othL_lo l (x.hi + 1) (sepR_tail h) hp
    rw [othL]
    split
    · refine ⟨List.pairwise_append.2 ⟨by simp, ih.1, fun u hu v hv => ?_⟩, fun r hr => ?_⟩
      · have : u = ⟨n, x.lo - 1⟩ := by simpa using hu
        subst this
        have := lo v hv
        simp only
        omega
      · rcases List.mem_append.1 hr with hr | hr
        · have : r = ⟨n, x.lo - 1⟩ := by simpa using hr
          subst this
          simp only
          omega
        · exact ih.2 r hr
    · exact ih
theorem oth_sep (b : List Run) : sepR (othL 1 (nrm b)) := othL_sep _ _ (Int.le_refl _) (nrm_sep b) fun r hr => ((nrm_sep b).2 r hr).1
theorem minR_sep (a b : List Run) : sepR (minR a b) := meetL_sep _ _ _ (Nat.le_refl _) (nrm_sep _) (nrm_sep _)
theorem metR_sep (a b : List Run) : sepR (metR a b) := meetL_sep _ _ _ (Nat.le_refl _) (nrm_sep _) (nrm_sep _)
theorem metR_in (a b : List Run) (n : Int) : inR (metR a b) n ↔ inR (nrm a) n ∧ inR (nrm b) n := meetL_in _ _ _ (Nat.le_refl _) (nrm_sep _) (nrm_sep _) n
theorem minR_in (a b : List Run) (n : Int) : inR (minR a b) n ↔ inR (nrm a) n ∧ ¬ inR (nrm b) n := by
  unfold minR
  rw [meetL_in _ _ _ (Nat.le_refl _) (nrm_sep _) (nrm_sep _) n, nrm_id (oth_sep b), othL_in _ _ (nrm_sep b) (fun r hr => ((nrm_sep b).2 r hr).1)]
  refine and_congr_right fun h => ?_
  rw [nrm_in] at h
  exact ⟨fun k => k.2.2, fun k => ⟨h.1, h.2.1, k⟩⟩
/-- No more than half as many runs as numbers. -/
theorem minR_len (a b : List Run) : (minR a b).length ≤ 500000000 := sepR_len (minR_sep a b)
/-! ### sets of dots -/
def minusP (a b : Past) : Past := tabP fun r => minR (openT [a] r) (openT [b] r)
def metP (a b : Past) : Past := tabP fun r => metR (openT [a] r) (openT [b] r)
def joinP (ps : List Past) : Past := tabP (openT ps)
theorem has_min (a b : Past) (d : Dot) : hasP (minusP a b) d = (hasP a d && !hasP b d) := by
  rw [Bool.eq_iff_iff, minusP, has_tab, minR_in, Bool.and_eq_true, Bool.not_eq_true', ← has_norm a d, ← has_norm b d]
  unfold normP
  rw [has_tab, ← Bool.not_eq_true, has_tab]
  constructor
  · rintro ⟨h, h1, h2⟩
    have hb := dotB_in h
    rw [nrm_in] at h1 h2
    exact ⟨⟨h, h1.2.2⟩, fun k => h2 ⟨by omega, by omega, k.2⟩⟩
  · rintro ⟨⟨h, h1⟩, h2⟩
    have hb := dotB_in h
    rw [nrm_in, nrm_in]
    exact ⟨h, ⟨by omega, by omega, h1⟩, fun k => h2 ⟨h, k.2.2⟩⟩
theorem has_met (a b : Past) (d : Dot) : hasP (metP a b) d = (hasP a d && hasP b d) := by
  rw [Bool.eq_iff_iff, metP, has_tab, metR_in, Bool.and_eq_true, ← has_norm a d, ← has_norm b d]
  unfold normP
  rw [has_tab, has_tab]
  constructor
  · rintro ⟨h, h1, h2⟩
    rw [nrm_in] at h1 h2
    exact ⟨⟨h, h1.2.2⟩, ⟨h, h2.2.2⟩⟩
  · rintro ⟨⟨h, h1⟩, _, h2⟩
    have hb := dotB_in h
    rw [nrm_in, nrm_in]
    exact ⟨h, ⟨by omega, by omega, h1⟩, ⟨by omega, by omega, h2⟩⟩
theorem has_join (ps : List Past) (d : Dot) : hasP (joinP ps) d = ps.any fun p => hasP p d := by
  rw [Bool.eq_iff_iff, joinP, has_open, List.any_eq_true]
theorem minus_form (a b : Past) : minusP a b = normP (minusP a b) := (norm_tab _).symm
theorem met_form (a b : Past) : metP a b = normP (metP a b) := (norm_tab _).symm
theorem join_form (ps : List Past) : joinP ps = normP (joinP ps) := (norm_tab _).symm
end Go.Proofs.Ytaiepnaokhpmcaa
namespace Go.Proofs.Ytaiepnaokhpmcaa
open Go.E
set_option maxRecDepth 100000
set_option maxHeartbeats 4000000
def cmpI (a b : Int) : Int := if a < b then -1 else if b < a then 1 else 0
/-- The first place from r on where two vectors differ (k places). -/
def cmpF (u v : List Int) : Nat → Nat → Int
  | _, 0 => 0
  | r, k + 1 => if u[r]! = v[r]! then cmpF u v (r + 1) k else cmpI u[r]! v[r]!
def cmpS (s t : Span) : Int := if cmpI s.rep t.rep ≠ 0 then cmpI s.rep t.rep else if cmpI s.lo t.lo ≠ 0 then cmpI s.lo t.lo else cmpI s.hi t.hi
def cmpC : List Span → List Span → Int
  | [], [] => 0
  | [], _ :: _ => -1
  | _ :: _, [] => 1
  | s :: a, t :: b => if cmpS s t ≠ 0 then cmpS s t else cmpC a b
def cmpQ (x y : Past) : Int := if cmpF x.vec y.vec 0 16 ≠ 0 then cmpF x.vec y.vec 0 16 else cmpC x.cloud y.cloud
def cmpP (p q : Past) : Int := cmpQ (normP p) (normP q)
/-- A three-way order: opposite ways, and transitive. -/
structure Ord3 {α : Type} (c : α → α → Int) : Prop where
  rng : ∀ x y, c x y = -1 ∨ c x y = 0 ∨ c x y = 1
  neg : ∀ x y, c y x = -(c x y)
  tr : ∀ x y z, c x y ≤ 0 → c y z ≤ 0 → c x z ≤ 0
  tr0 : ∀ x y z, c x y = 0 → c y z = 0 → c x z = 0
theorem Ord3.lt {α : Type} {c : α → α → Int} (h : Ord3 c) {x y z : α} (h1 : c x y < 0) (h2 : c y z ≤ 0) : c x z < 0 := by
  have h3 := h.tr x y z (by omega) h2
  apply Classical.byContradiction
  intro h4
  have h5 : c x z = 0 := by omega
  have h6 : c z x = 0 := by rw [h.neg x z]; omega
  have h7 := h.tr y z x h2 (by omega)
  have := h.neg x y
  omega
theorem Ord3.lt' {α : Type} {c : α → α → Int} (h : Ord3 c) {x y z : α} (h1 : c x y ≤ 0) (h2 : c y z < 0) : c x z < 0 := by
  have h3 := h.tr x y z h1 (by omega)
  apply Classical.byContradiction
  intro h4
  have h5 : c x z = 0 := by omega
  have h6 : c z x = 0 := by rw [h.neg x z]; omega
  have h7 := h.tr z x y (by omega) h1
  have := h.neg y z
  omega
theorem Ord3.self {α : Type} {c : α → α → Int} (h : Ord3 c) (x : α) : c x x = 0 := by have := h.neg x x; omega
theorem ordI : Ord3 cmpI := by
  refine ⟨fun x y => ?_, fun x y => ?_, fun x y z => ?_, fun x y z => ?_⟩ <;> unfold cmpI <;> (repeat' split) <;> omega
/-- First by one order, then by another. -/
theorem ord_then {α β γ : Type} {c : β → β → Int} {d : γ → γ → Int} (hc : Ord3 c) (hd : Ord3 d) (f : α → β) (g : α → γ) : Ord3 (fun x y => if c (f x) (f y) ≠ 0 then c (f x) (f y) else d (g x) (g y)) := by
  refine ⟨fun x y => ?_, fun x y => ?_, fun x y z => ?_, fun x y z => ?_⟩
  · split
    · exact hc.rng _ _
    · exact hd.rng _ _
  · have h1 := hc.neg (f x) (f y)
    have h2 := hd.neg (g x) (g y)
    split <;> split <;> omega
  · intro h1 h2
    have b1 := hc.neg (f x) (f y)
    by_cases e1 : c (f x) (f y) = 0
    · rw [if_neg (by simpa using e1)] at h1
      by_cases e2 : c (f y) (f z) = 0
      · rw [if_neg (by simpa using e2)] at h2
        rw [if_neg (by simpa using hc.tr0 _ _ _ e1 e2)]
        exact hd.tr _ _ _ h1 h2
      · rw [if_pos e2] at h2
        have := hc.lt' (x := f x) (y := f y) (z := f z) (by omega) (by omega)
        rw [if_pos (by omega)]
        omega
    · rw [if_pos e1] at h1
      have h2' : c (f y) (f z) ≤ 0 := by
        by_cases e2 : c (f y) (f z) = 0
        · omega
        · rw [if_pos e2] at h2; exact h2
      have := hc.lt (x := f x) (y := f y) (z := f z) (by omega) h2'
      rw [if_pos (by omega)]
      omega
  · intro h1 h2
    have e1 : c (f x) (f y) = 0 := by
      apply Classical.byContradiction
      intro e
      rw [if_pos e] at h1
      exact e h1
    have e2 : c (f y) (f z) = 0 := by
      apply Classical.byContradiction
      intro e
      rw [if_pos e] at h2
      exact e h2
    rw [if_neg (by simpa using e1)] at h1
    rw [if_neg (by simpa using e2)] at h2
    rw [if_neg (by simpa using hc.tr0 _ _ _ e1 e2)]
    exact hd.tr0 _ _ _ h1 h2
theorem cmpI_zero {a b : Int} : cmpI a b = 0 ↔ a = b := by unfold cmpI; split <;> (try split) <;> omega
theorem ordF (k : Nat) : ∀ r : Nat, Ord3 fun u v : List Int => cmpF u v r k := by
  induction k with
  | zero => exact fun r => ⟨fun _ _ => .inr (.inl rfl), fun _ _ => rfl, fun _ _ _ _ _ => Int.le_refl _, fun _ _ _ _ _ => rfl⟩
  | succ k ih =>
    intro r
    have h := ord_then ordI (ih (r + 1)) (fun u : List Int => u[r]!) (fun u => u)
    have e : (fun u v : List Int => cmpF u v r (k + 1)) = fun u v => if cmpI u[r]! v[r]! ≠ 0 then cmpI u[r]! v[r]! else cmpF u v (r + 1) k := by
      funext u v
      rw [cmpF]
      by_cases e : u[r]! = v[r]!
      · rw [if_pos e, if_neg (by rw [cmpI_zero.2 e]; simp)]
      · rw [if_neg e, if_pos (fun k => e (cmpI_zero.1 k))]
    rw [e]
    exact h
theorem ordS : Ord3 cmpS := ord_then ordI (ord_then ordI ordI (fun s : Span => s.lo) (fun s : Span => s.hi)) (fun s : Span => s.rep) (fun s => s)
theorem ordC : Ord3 cmpC := by
  refine ⟨fun x => ?_, fun x => ?_, fun x => ?_, fun x => ?_⟩
  · induction x with
    | nil => intro y; cases y <;> simp [cmpC]
    | cons s a ih =>
      intro y
      cases y with
      | nil => simp [cmpC]
      | cons t b =>
        rw [cmpC]
        split
        · exact ordS.rng _ _
        · exact ih b
  · induction x with
    | nil => intro y; cases y <;> simp [cmpC]
    | cons s a ih =>
      intro y
      cases y with
      | nil => simp [cmpC]
      | cons t b =>
        rw [cmpC, cmpC]
        have h1 := ordS.neg s t
        have h2 := ih b
        split <;> split <;> omega
  · induction x with
    | nil => intro y z _ _; cases z <;> simp [cmpC]
    | cons s a ih =>
      intro y z h1 h2
      cases y with
      | nil => simp [cmpC] at h1
      | cons t b =>
        cases z with
        | nil => simp [cmpC] at h2
        | cons r d =>
          rw [cmpC] at h1 h2 ⊢
          by_cases e1 : cmpS s t = 0
          · rw [if_neg (by simpa using e1)] at h1
            by_cases e2 : cmpS t r = 0
            · rw [if_neg (by simpa using e2)] at h2
              rw [if_neg (by simpa using ordS.tr0 _ _ _ e1 e2)]
              exact ih b d h1 h2
            · rw [if_pos e2] at h2
              have := ordS.lt' (x := s) (y := t) (z := r) (by omega) (by omega)
              rw [if_pos (by omega)]
              omega
          · rw [if_pos e1] at h1
            have h2' : cmpS t r ≤ 0 := by
              by_cases e2 : cmpS t r = 0
              · omega
              · rw [if_pos e2] at h2; exact h2
            have := ordS.lt (x := s) (y := t) (z := r) (by omega) h2'
            rw [if_pos (by omega)]
            omega
  · induction x with
    | nil =>
      intro y z h1 h2
      cases y with
      | nil => exact h2
      | cons t b => simp [cmpC] at h1
    | cons s a ih =>
      intro y z h1 h2
      cases y with
      | nil => simp [cmpC] at h1
      | cons t b =>
        cases z with
        | nil => simp [cmpC] at h2
        | cons r d =>
          rw [cmpC] at h1 h2 ⊢
          have e1 : cmpS s t = 0 := by
            apply Classical.byContradiction
            intro e
            rw [if_pos e] at h1
            exact e h1
          have e2 : cmpS t r = 0 := by
            apply Classical.byContradiction
            intro e
            rw [if_pos e] at h2
            exact e h2
          rw [if_neg (by simpa using e1)] at h1
          rw [if_neg (by simpa using e2)] at h2
          rw [if_neg (by simpa using ordS.tr0 _ _ _ e1 e2)]
          exact ih b d h1 h2
theorem ordQ : Ord3 cmpQ := ord_then (ordF 16 0) ordC (fun p : Past => p.vec) (fun p => p.cloud)
theorem ordP : Ord3 cmpP := ⟨fun _ _ => ordQ.rng _ _, fun _ _ => ordQ.neg _ _, fun _ _ _ => ordQ.tr _ _ _, fun _ _ _ => ordQ.tr0 _ _ _⟩
theorem cmpF_zero {u v : List Int} : ∀ {k r : Nat}, cmpF u v r k = 0 → ∀ j : Nat, r ≤ j → j < r + k → u[j]! = v[j]!
  | 0, r, _, j, h1, h2 => by omega
  | k + 1, r, h, j, h1, h2 => by
    rw [cmpF] at h
    by_cases e : u[r]! = v[r]!
    · rw [if_pos e] at h
      by_cases e2 : j = r
      · rw [e2]; exact e
      · exact cmpF_zero h j (by omega) (by omega)
    · rw [if_neg e] at h
      exact absurd (cmpI_zero.1 h) e
theorem cmpS_zero {s t : Span} (h : cmpS s t = 0) : s = t := by
  unfold cmpS at h
  split at h
  · rename_i e; exact absurd h e
  · rename_i e1
    split at h
    · rename_i e; exact absurd h e
    · rename_i e2
      have a1 := cmpI_zero.1 (Classical.not_not.1 e1)
      have a2 := cmpI_zero.1 (Classical.not_not.1 e2)
      have a3 := cmpI_zero.1 h
      cases s; cases t
      simp only at a1 a2 a3
      rw [a1, a2, a3]
theorem cmpC_zero : ∀ {a b : List Span}, cmpC a b = 0 → a = b
  | [], [], _ => rfl
  | [], _ :: _, h => by simp [cmpC] at h
  | _ :: _, [], h => by simp [cmpC] at h
  | s :: a, t :: b, h => by
    rw [cmpC] at h
    split at h
    · rename_i e; exact absurd h e
    · rename_i e
      rw [cmpS_zero (Classical.not_not.1 e), cmpC_zero h]
/-- The last number of a vector in form isn't 0. -/
theorem vec_last (T : Nat → List Run) (h : 0 < (tabP T).vec.length) : 0 < (tabP T).vec[(tabP T).vec.length - 1]! := by
  have hl := vec_len T
  have key : ∀ n : Nat, 0 < szT T n → 0 < leadT T (szT T n - 1).toNat := by
    intro n
    induction n with
    | zero => intro h; simp [szT] at h
    | succ n ih =>
      rw [szT]
      split
      · rename_i k
        intro _
        rw [show ((n : Int) + 1 - 1).toNat = n by omega]
        exact k
      · exact ih
  have e : (tabP T).vec.length - 1 = (szT T 16 - 1).toNat := by omega
  rw [e, (vec_at T (r := (szT T 16 - 1).toNat) (by omega)).1]
  exact key 16 (by omega)
theorem vec_ext {S T : Nat → List Run} (h : ∀ j : Nat, j < 16 → (tabP S).vec[j]! = (tabP T).vec[j]!) : (tabP S).vec = (tabP T).vec := by
  have h1 := (tabP_len S).2
  have h2 := (tabP_len T).2
  have out : ∀ (l : List Int) (j : Nat), l.length ≤ j → l[j]! = 0 := fun l j hj => by
    rw [getElem!_def, List.getElem?_eq_none hj]; rfl
  have hl : (tabP S).vec.length = (tabP T).vec.length := by
    rcases Nat.lt_trichotomy (tabP S).vec.length (tabP T).vec.length with k | k | k
    · have := vec_last T (by omega)
      rw [← h _ (by omega), out (tabP S).vec _ (by omega)] at this
      omega
    · exact k
    · have := vec_last S (by omega)
      rw [h _ (by omega), out (tabP T).vec _ (by omega)] at this
      omega
  exact eq_of_all hl fun j hj => h j (by omega)
theorem cmpQ_tab {S T : Nat → List Run} (h : cmpQ (tabP S) (tabP T) = 0) : tabP S = tabP T := by
  unfold cmpQ at h
  split at h
  · rename_i e; exact absurd h e
  · rename_i e
    have h1 := cmpF_zero (Classical.not_not.1 e)
    have h2 := cmpC_zero h
    have h3 := vec_ext fun j hj => h1 j (by omega) (by omega)
    generalize tabP S = x at *
    generalize tabP T = y at *
    cases x; cases y
    simp only at h2 h3
    rw [h2, h3]
theorem cmpP_zero {p q : Past} : cmpP p q = 0 ↔ normP p = normP q := by
  constructor
  · exact fun h => cmpQ_tab h
  · intro h
    unfold cmpP
    rw [h]
    exact ordQ.self _
end Go.Proofs.Ytaiepnaokhpmcaa
