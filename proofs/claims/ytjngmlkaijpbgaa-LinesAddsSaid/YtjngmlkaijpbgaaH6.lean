/- R89: LinesReads and LinesAdds. Conditions: none. (with texts that it needs)  -/
import Derived.ProofKit
import Derived.SizedLaws
import Derived.JoinedCond
import Derived.Deep.CondSized
import Derived.Test.YtjngmlkaijpbgaaRows
import Derived.Test.YtjngmlkaijpbgaaH5
set_option linter.unusedVariables false
set_option linter.unusedSimpArgs false
namespace Go.E
open Go.RowKit Go.ChangeShapes Go.WideShapes Go.ChangeAt
/-- An argument of a type. -/
def TyA (T : Tab) (L n t : Nat) (av : AV) : Prop :=
  match look T t with
  | some ti => if ti.isAgg then ∃ cs, av = .agg cs ∧ TyC T L n t cs else TyC T L n t [av]
  | none => False
def TyAll (T : Tab) (L n : Nat) : List Nat → List AV → Prop
  | [], [] => True
  | t :: ts, a :: aL => TyA T L n t a ∧ TyAll T L n ts aL
  | _, _ => False
section
variable {P : Program} {T : Tab} {H : Type} {enc : TypeId × Value → H} {W : World} {spare : Nat → Bool} {held : Bool}
theorem plain_not_cell (hT : TabOk P T) {n t : Nat} {ti : TI} (hti : look T t = some ti) (hp : plainT T n t = true) (hg : ti.isAgg = false) {r : Reach} {base : Nat} {v : Value} (hv : Value.okWide P W r base t v) : v.oneCell' = true ∨ ∃ x, v = x ∧ v.cells = #[v] := by
  have hu := (hT t ti hti).1
  unfold Value.okWide at hv
  rw [hu] at hv
  cases n with
  | zero => simp [plainT] at hp
  | succ n =>
    unfold plainT at hp
    rw [hti] at hp
    simp only at hp
    unfold TI.isAgg at hg
    cases hd : ti.desc with
    | bool => rw [hd] at hv; simp only [Cell.okWide, hu, hd, Cell.ok] at hv; cases v <;> simp_all [Value.oneCell', Value.cells]
    | int k => rw [hd] at hv; simp only [Cell.okWide, hu, hd, Cell.ok] at hv; cases v <;> simp_all [Value.oneCell', Value.cells]
    | string => rw [hd] at hv; simp only [Cell.okWide, hu, hd, Cell.ok] at hv; cases v <;> simp_all [Value.oneCell', Value.cells]
    | slice e => rw [hd] at hv; simp only [Cell.okWide, hu, hd, Cell.ok] at hv; cases v <;> simp_all [Value.oneCell', Value.cells]
    | struct fs => rw [hd] at hg; simp at hg
    | array k e => rw [hd] at hg; simp at hg
    | _ => rw [hd] at hp; first | exact absurd hp Bool.false_ne_true | cases hp
theorem open_arg (hT : TabOk P T) {n t : Nat} (hp : plainT T n t = true) {r : Reach} {base : Nat} {v : Value} {d : DataW H} {ps : List MemPlace} (hv : Value.okWide P W r base t v)
    (hd : DataW.Trod enc P W 0 spare held t v d ps) (hw : ∀ m ∈ d.weights P t, m ≤ reachBytes) {L : Nat} (hL : bulkD d ≤ L) : ∃ av, RelV0 (fun k => k < W.heap.size) W av v ∧ TyA T L n t av := by
  obtain ⟨ti, hti⟩ := plain_look hp
  obtain ⟨fuel, hf⟩ := hd
  obtain ⟨avs, hc, hty⟩ := opens hT n t hp fuel _ _ _ hf hw L hL
  by_cases hg : ti.isAgg = true
  · have hu := (hT t ti hti).1
    have hv' := hv
    unfold Value.okWide at hv'
    rw [hu] at hv'
    have : ∃ cs, v = .agg cs := by
      unfold TI.isAgg at hg
      split at hg
      · rename_i fs hd; rw [hd] at hv'; obtain ⟨cs, h, _⟩ := hv'; exact ⟨cs, h⟩
      · rename_i k e hd; rw [hd] at hv'; obtain ⟨cs, h, _⟩ := hv'; exact ⟨cs, h⟩
      · cases hg
    obtain ⟨cs, rfl⟩ := this
    refine ⟨.agg avs, ?_, by unfold TyA; rw [hti]; simp only [hg, if_true]; exact ⟨avs, rfl, hty⟩⟩
    have := RelV0.agg (S := fun k => k < W.heap.size) (w := W) avs cs.toList (by rw [hc.1]; simp [Value.cells]) (fun u hu => hc.2.1 u (by simpa [Value.cells] using hu)) (fun j a u ha hu => hc.2.2 j a u ha (by simpa [Value.cells] using hu))
    simpa using this
  · have hg' : ti.isAgg = false := by simpa using hg
    have h1 : v.cells.toList = [v] := by
      rcases plain_not_cell hT hti hp hg' hv with h | ⟨_, _, h⟩
      · cases v <;> simp_all [Value.oneCell', Value.cells]
      · rw [h]
    rw [h1] at hc
    obtain ⟨c1, _, c3⟩ := hc
    match avs, c1, c3, hty with
    | [a], _, c3, hty => exact ⟨a, c3 0 a v rfl rfl, by unfold TyA; rw [hti]; simp only [hg', Bool.false_eq_true, if_false]; exact hty⟩
theorem open_args (hT : TabOk P T) {L n : Nat} {r : Reach} {base : Nat} : ∀ (ts : List Nat) (vs : List Value) (ds : List (DataW H)) (ps : List MemPlace), (∀ t ∈ ts, plainT T n t = true) →
    (∀ (j : Nat) t v, ts[j]? = some t → vs[j]? = some v → Value.okWide P W r base t v) → DataW.TrodAll enc P W 0 spare held ts vs ds ps → (∀ m ∈ DataW.weightsEach P ts ds, m ≤ reachBytes) → bulkDs ds ≤ L →
    ∃ avs : List AV, avs.length = vs.length ∧ (∀ (j : Nat) (a : AV) (u : Value), avs[j]? = some a → vs[j]? = some u → RelV0 (fun k => k < W.heap.size) W a u) ∧ TyAll T L n ts avs ∧ ds.length = ts.length
  | [], [], [], ps, _, _, _, _, _ => ⟨[], rfl, fun j a u ha => by simp at ha, trivial, rfl⟩
  | t :: ts, v :: vs, d :: ds, ps, hp, hv, hA, hw, hL => by
    simp only [bulkDs] at hL
    obtain ⟨p, q, h1, h2, _⟩ := hA
    obtain ⟨a, e1, e2⟩ := open_arg hT (hp t (by simp)) (hv 0 t v rfl rfl) h1 (fun m hm => hw m (by simp only [DataW.weightsEach, List.mem_append]; exact .inl hm)) (L := L) (by omega)
    obtain ⟨aL, f1, f2, f3, f4⟩ := open_args (L := L) hT ts vs ds q (fun t ht => hp t (List.mem_cons_of_mem _ ht)) (fun j t v ht hv' => hv (j + 1) t v (by simpa using ht) (by simpa using hv')) h2 (fun m hm => hw m (by simp only [DataW.weightsEach, List.mem_append]; exact .inr hm)) (by omega)
    refine ⟨a :: aL, by simp [f1], fun j b u hb hu => ?_, ⟨e2, f3⟩, by simp [f4]⟩
    cases j with
    | zero => simp at hb hu; subst hb hu; exact e1
    | succ j => exact f2 j b u (by simpa using hb) (by simpa using hu)
  | [], _ :: _, _, _, _, _, hA, _, _ => hA.elim
  | [], [], _ :: _, _, _, _, hA, _, _ => hA.elim
  | _ :: _, [], _, _, _, _, hA, _, _ => hA.elim
  | _ :: _, _ :: _, [], _, _, _, hA, _, _ => hA.elim
theorem trodAll_stays (hl : laidOutB P = true) {W' : World} (hb : Below W.heap.size W W') : ∀ (ts : List Nat) (vs : List Value) (ds : List (DataW H)) (ps : List MemPlace), (∀ t ∈ ts, P.readableRec t = true ∧ t < P.types.size) →
    (∀ x ∈ ps, x.block < W.heap.size) → DataW.TrodAll enc P W 0 (fun _ => true) true ts vs ds ps → DataW.TrodAll enc P W' 0 (fun b => decide (b < W.heap.size)) true ts vs ds ps
  | [], [], [], ps, _, _, h => h
  | t :: ts, v :: vs, d :: ds, ps, hr, hlt, h => by
    obtain ⟨p, q, h1, h2, rfl⟩ := h
    exact ⟨p, q, Below.trod hl (hr t (by simp)).1 (hr t (by simp)).2 h1 hb (fun x hx => hlt x (List.mem_append_left _ hx)),
      trodAll_stays hl hb ts vs ds q (fun t ht => hr t (List.mem_cons_of_mem _ ht)) (fun x hx => hlt x (List.mem_append_right _ hx)) h2, rfl⟩
  | [], _ :: _, _, _, _, _, hA => hA.elim
  | [], [], _ :: _, _, _, _, hA => hA.elim
  | _ :: _, [], _, _, _, _, hA => hA.elim
  | _ :: _, _ :: _, [], _, _, _, hA => hA.elim
end
/-- What the contract gives, of one reading. -/
theorem law_core {T : Tab} {C : Checked} {f : FuncId} {fn : Func} {s : ChangeSpec} {H : Type} {enc : TypeId × Value → H} (ts : List Nat) (tb L n : Nat)
    (hT : TabOk C.prog T) (hl : laidOutB C.prog = true)
    (hts : fn.params = ts.toArray) (htb : fn.resultTypes = #[tb]) (hub : C.prog.underlying tb = some .bool) (hpl : ts.all (fun t => plainT T n t && C.prog.readableRec t && Nat.blt t C.prog.types.size) = true)
    (hvars : s.vars = []) (hspec : ∀ ds : List (DataW H), ds.length = ts.length → s.fn H (ds ++ []) = { results := [.lit (.bool true)], args := ds })
    (hcon : ∀ avs, TyAll T L n ts avs → Con C.prog f avs (.b true)) {W : World} {base : Nat} {args : Array Value} {ds gs : List (DataW H)} {before : List MemPlace} {us : List Nat}
    (hval : ∀ (j : Nat) t v, fn.params[j]? = some t → args[j]? = some v → Value.okWide C.prog W .any base t v) (hW : DataW.Whole enc C.prog fn.params.toList s.vars false W args.toList ds gs before)
    (hsz : (DataW.weightsEach C.prog (fn.params.toList ++ us) (ds ++ gs)).all (· ≤ reachBytes) = true) (hbk : bulkDs (ds ++ gs) ≤ L) :
    Calls C.prog f args W fun e W' => ∃ v, e = .returned v ∧ s.post enc C.prog fn false true false false W args v W' := by
  have hW' := hW
  obtain ⟨p, q, hA, hV, rfl, _, _⟩ := hW
  rw [hvars] at hV
  obtain ⟨rfl, rfl⟩ := trodVars_none hV
  rw [List.append_nil] at hW' hbk
  have hpars : fn.params.toList = ts := by rw [hts]
  have hA' : DataW.TrodAll enc C.prog W 0 (fun _ => true) true ts args.toList ds p := by rw [← hpars]; exact hA
  have hpl' : ∀ t ∈ ts, plainT T n t = true ∧ C.prog.readableRec t = true ∧ t < C.prog.types.size := by
    intro t ht
    have := List.all_eq_true.1 hpl t ht
    simp only [Bool.and_eq_true] at this
    exact ⟨this.1.1, this.1.2, by simpa using this.2⟩
  have hw : ∀ m ∈ DataW.weightsEach C.prog ts ds, m ≤ reachBytes := by
    intro m hm
    have hsz' := hsz
    rw [List.append_nil, hpars] at hsz'
    have hsub : ∀ (ts us : List Nat) (ds : List (DataW H)), ∀ m ∈ DataW.weightsEach C.prog ts ds, m ∈ DataW.weightsEach C.prog (ts ++ us) ds := by
      intro ts us ds
      induction ts generalizing ds with
      | nil => intro m hm; cases ds <;> simp [DataW.weightsEach] at hm
      | cons t ts ih =>
        intro m hm
        cases ds with
        | nil => simp [DataW.weightsEach] at hm
        | cons d ds =>
          simp only [DataW.weightsEach, List.cons_append, List.mem_append] at hm ⊢
          rcases hm with hm | hm
          · exact .inl hm
          · exact .inr (ih ds m hm)
    have := List.all_eq_true.1 hsz' m (hsub ts _ ds m hm)
    simpa using this
  obtain ⟨avs, h1, h2, h3, h4⟩ := open_args hT ts args.toList ds p (fun t ht => (hpl' t ht).1) (fun j t v ht hv => hval j t v (by rw [hts]; simpa using ht) (by simpa using hv)) hA' hw hbk
  have hlt : ∀ x ∈ p, x.block < W.heap.size := fun x hx => hW'.lt x hx
  have hsp := hspec ds h4
  have := (hcon avs h3).2 W (fun k => k < W.heap.size) args.toList (fun _ h => h) (by rw [h1]) h2
  rw [Array.toArray_toList] at this
  refine this.mono fun e W' ⟨v, he, hr, hb⟩ => ?_
  cases hr with
  | b =>
    refine ⟨_, he, ds, [], p, [], p, [], hW', ?_, ?_, ?_, hb.frame _, fun h => by cases h⟩
    · rw [hsp, htb]
      exact trodAll_mk1 (shut_bool hub true)
    · rw [hsp, hpars]
      exact trodAll_stays hl hb ts args.toList ds p (fun t ht => (hpl' t ht).2) hlt hA'
    · rw [hsp, hvars]
      rfl
/-- **A law's row, from its contract.** -/
theorem law_lifted {T : Tab} {C : Checked} {os : Os} {f : FuncId} {fn : Func} {s : ChangeSpec} {conds : List PathCond} {H : Type} {enc : TypeId × Value → H} (ts : List Nat) (tb n : Nat)
    (hT : TabOk C.prog T) (hl : laidOutB C.prog = true) (own : ownKnob C.prog.godebug = none) (started : os.Started) (noInit : C.prog.inits.idxOf? f = none) (hfn : C.prog.funcs[f]? = some fn)
    (hts : fn.params = ts.toArray) (htb : fn.resultTypes = #[tb]) (hub : C.prog.underlying tb = some .bool) (hpl : ts.all (fun t => plainT T n t && C.prog.readableRec t && Nat.blt t C.prog.types.size) = true)
    (hvars : s.vars = []) (hspec : ∀ ds : List (DataW H), ds.length = ts.length → s.fn H (ds ++ []) = { results := [.lit (.bool true)], args := ds })
    (witness : ∃ (w : World) (tape : Tape) (i : Input), w.os = os ∧ (w.forCall tape i).Shaped C.prog ∧ i.vars = [] ∧ Input.okWide C.prog (w.forCall tape i) .any w.heap.size f i ∧
      s.pre6 enc C.prog fn conds false (w.forCall tape i).memory i.args ∧ ({} : Assume).holds C.prog (lone (Frame.enter C.prog f i.args .normal) [] (w.forCall tape i)))
    (hcon : ∀ L avs, TyAll T L n ts avs → Con C.prog f avs (.b true)) :
    ReturnsInHanded {} C os f .any (s.pre6 enc C.prog fn conds false) (s.post enc C.prog fn false true false false) := by
  refine returnsInHanded_of_change_sized own started noInit hfn witness ?_
  intro W base args ds gs before hval hW _ hsz _
  exact law_core ts tb (bulkDs (ds ++ gs)) n hT hl hts htb hub hpl hvars hspec (hcon _) hval hW hsz (Nat.le_refl _)
/-- **The same of the second form**: where what is read is of a bounded bulk. -/
theorem law_lifted_upto {T : Tab} {C : Checked} {os : Os} {f : FuncId} {fn : Func} {s : ChangeSpec} {u : OpenSpec} {k : (H : Type) → List (DataW H) → Bool} {conds : List PathCond} {H : Type} {enc : TypeId × Value → H} (F : Stop.Interp) (ts : List Nat) (tb L n : Nat)
    (hu : u = { OpenSpec.ofChange s with cond := some k }) (hk : ∀ ds : List (DataW H), k H ds = true → bulkDs ds ≤ L)
    (hT : TabOk C.prog T) (hl : laidOutB C.prog = true) (own : ownKnob C.prog.godebug = none) (started : os.Started) (noInit : C.prog.inits.idxOf? f = none) (hfn : C.prog.funcs[f]? = some fn)
    (hts : fn.params = ts.toArray) (htb : fn.resultTypes = #[tb]) (hub : C.prog.underlying tb = some .bool) (hpl : ts.all (fun t => plainT T n t && C.prog.readableRec t && Nat.blt t C.prog.types.size) = true)
    (hvars : s.vars = []) (hspec : ∀ ds : List (DataW H), ds.length = ts.length → s.fn H (ds ++ []) = { results := [.lit (.bool true)], args := ds })
    (witness : ∃ (w : World) (tape : Tape) (i : Input), w.os = os ∧ (w.forCall tape i).Shaped C.prog ∧ i.vars = [] ∧ Input.okWide C.prog (w.forCall tape i) .any w.heap.size f i ∧
      u.pre6 enc C.prog fn conds false (w.forCall tape i).memory i.args ∧ ({} : Assume).holds C.prog (lone (Frame.enter C.prog f i.args .normal) [] (w.forCall tape i)))
    (hcon : ∀ avs, TyAll T L n ts avs → Con C.prog f avs (.b true)) :
    ReturnsInHanded {} C os f .any (u.pre6 enc C.prog fn conds false) ((u.at F).post enc C.prog fn false true false false) := by
  subst hu
  refine returnsInHanded_of_cond_sized (k := k) rfl own started noInit hfn witness ?_
  intro W base args ds gs before hval hW _ hkk hsz _
  exact law_core ts tb L n hT hl hts htb hub hpl hvars hspec hcon hval hW hsz (hk _ hkk)
theorem rows_typed {α : Type} {g : α → List AV} {Q : α → Prop} {C : List AV → Prop} (h : ∀ r, C r → ∃ x, r = g x ∧ Q x) : ∀ (rows : List (List AV)), (∀ r ∈ rows, C r) → ∃ xs : List α, rows = xs.map g ∧ ∀ x ∈ xs, Q x
  | [], _ => ⟨[], rfl, fun x hx => by simp at hx⟩
  | r :: rows, hr => by
    obtain ⟨x, h1, h2⟩ := h r (hr r (by simp))
    obtain ⟨xs, h3, h4⟩ := rows_typed h rows fun q hq => hr q (List.mem_cons_of_mem _ hq)
    refine ⟨x :: xs, by rw [h1, h3]; rfl, fun y hy => ?_⟩
    rcases List.mem_cons.1 hy with rfl | hy
    · exact h2
    · exact h4 y hy
end Go.E
namespace Go.Proofs.Ytjngmlkaijpbgaa
open Go.E
set_option maxRecDepth 100000
set_option maxHeartbeats 4000000
open Go.ChangeShapes Go.WideShapes Go.ChangeAt Go.RowKit Go
theorem Try.own : Go.ownKnob Try.prog.godebug = none := by kernel_rfl
theorem Try.laidOut : laidOutB Try.prog = true := by kernel_rfl
def inr (n : Int) : Prop := -9223372036854775808 ≤ n ∧ n ≤ 9223372036854775807
theorem ty3 {L n : Nat} {cs : List AV} (h : TyC tab L (n + 1) 3 cs) : ∃ x, cs = c3 x ∧ inr x := by
  obtain ⟨x, rfl, h1, h2⟩ := h
  exact ⟨x, rfl, h1, h2⟩
theorem ty33 {L n : Nat} {cs : List AV} (h : TyC tab L (n + 2) 33 cs) : ∃ xs : List Int, cs = c33 xs ∧ sz22 xs := by
  obtain ⟨rows, rfl, h1, h2, hL, h3⟩ := h
  obtain ⟨xs, rfl, hx⟩ := rows_typed (fun r hr => ty3 hr) rows h3
  exact ⟨xs, rfl, by rw [List.length_map] at h2; exact h2⟩
theorem ty26 {L n : Nat} {cs : List AV} (h : TyC tab L (n + 2) 26 cs) : ∃ d : Dot, cs = c26 d ∧ inr d.rep ∧ inr d.num := by
  obtain ⟨a, b, rfl, ha, c, d, rfl, hc, rfl⟩ := h
  obtain ⟨x, rfl, hx⟩ := ty3 ha
  obtain ⟨y, rfl, hy⟩ := ty3 hc
  exact ⟨⟨x, y⟩, rfl, hx, hy⟩
theorem one_eq {a b : AV} (h : [a] = [b]) : a = b := by simpa using h
theorem ta3 {L : Nat} {a : AV} (h : TyA tab L 9 3 a) : ∃ x, a = .i .i64 x ∧ inr x := by
  obtain ⟨x, hx, k⟩ := ty3 (L := L) (n := 8) (cs := [a]) h
  exact ⟨x, one_eq hx, k⟩
theorem ta33 {L : Nat} {a : AV} (h : TyA tab L 9 33 a) : ∃ x : List Int, a = .sl (x.map c3) ∧ sz22 x := by
  obtain ⟨x, hx, k⟩ := ty33 (L := L) (n := 7) (cs := [a]) h
  exact ⟨x, one_eq hx, k⟩
theorem ta26 {L : Nat} {a : AV} (h : TyA tab L 9 26 a) : ∃ x : Dot, a = .agg (c26 x) ∧ inr x.rep ∧ inr x.num := by
  obtain ⟨cs, rfl, h2⟩ := (show ∃ cs, a = .agg cs ∧ TyC tab L 9 26 cs from h)
  obtain ⟨d, rfl, k⟩ := ty26 (L := L) (n := 7) h2
  exact ⟨d, rfl, k⟩
theorem ty9 {L n : Nat} {cs : List AV} (h : TyC tab L (n + 1) 9 cs) : ∃ s : ByteArray, cs = [.s s] ∧ s.size ≤ 140737488351232 := by
  obtain ⟨s, rfl, _, h2, _⟩ := h
  exact ⟨s, rfl, h2⟩
theorem ta9 {L : Nat} {a : AV} (h : TyA tab L 9 9 a) : ∃ s : ByteArray, a = .s s ∧ s.size ≤ 140737488351232 := by
  obtain ⟨x, hx, k⟩ := ty9 (L := L) (n := 8) (cs := [a]) h
  exact ⟨x, one_eq hx, k⟩
theorem ty81 {L n : Nat} {cs : List AV} (h : TyC tab L (n + 2) 81 cs) : ∃ d : Span, cs = c81 d ∧ inr d.rep ∧ inr d.lo ∧ inr d.hi := by
  obtain ⟨a, b, rfl, ha, c, d, rfl, hc, e, f, rfl, he, rfl⟩ := h
  obtain ⟨x, rfl, hx⟩ := ty3 ha
  obtain ⟨y, rfl, hy⟩ := ty3 hc
  obtain ⟨z, rfl, hz⟩ := ty3 he
  exact ⟨⟨x, y, z⟩, rfl, hx, hy, hz⟩
def inE (e : Entry) : Prop := inr e.dot.rep ∧ inr e.dot.num ∧ e.sku.size ≤ 140737488351232 ∧ inr e.qty
theorem ty28 {L n : Nat} {cs : List AV} (h : TyC tab L (n + 3) 28 cs) : ∃ e : Entry, cs = c28 e ∧ inE e := by
  obtain ⟨a, b, rfl, ha, c, d, rfl, hc, e, f, rfl, he, rfl⟩ := h
  obtain ⟨x, rfl, hx⟩ := ty26 ha
  obtain ⟨y, rfl, hy⟩ := ty9 hc
  obtain ⟨z, rfl, hz⟩ := ty3 he
  exact ⟨⟨x, y, z⟩, rfl, hx.1, hx.2, hy, hz⟩
theorem ty22 {L n : Nat} {cs : List AV} (h : TyC tab L (n + 4) 22 cs) : ∃ xs : List Entry, cs = [.sl (xs.map c28)] ∧ ((∀ x ∈ xs, inE x) ∧ xs.length * 40 ≤ 140737488351232) ∧ xs.length ≤ L := by
  obtain ⟨rows, rfl, h1, h2, hL, h3⟩ := h
  obtain ⟨xs, rfl, hx⟩ := rows_typed (fun r hr => ty28 hr) rows h3
  exact ⟨xs, rfl, ⟨hx, by rw [List.length_map] at h2; exact h2⟩, by rw [List.length_map] at hL; exact hL⟩
theorem ta22 {L : Nat} {a : AV} (h : TyA tab L 9 22 a) : ∃ xs : List Entry, a = .sl (xs.map c28) ∧ ((∀ x ∈ xs, inE x) ∧ xs.length * 40 ≤ 140737488351232) ∧ xs.length ≤ L := by
  obtain ⟨x, hx, k⟩ := ty22 (L := L) (n := 5) (cs := [a]) h
  exact ⟨x, one_eq hx, k⟩
theorem ty34 {L n : Nat} {cs : List AV} (h : TyC tab L (n + 3) 34 cs) : ∃ xs : List Span, cs = [.sl (xs.map c81)] ∧ (∀ x ∈ xs, inr x.rep ∧ inr x.lo ∧ inr x.hi) ∧ xs.length * 24 ≤ 140737488351232 := by
  obtain ⟨rows, rfl, h1, h2, hL, h3⟩ := h
  obtain ⟨xs, rfl, hx⟩ := rows_typed (fun r hr => ty81 hr) rows h3
  exact ⟨xs, rfl, hx, by rw [List.length_map] at h2; exact h2⟩
def inP (p : Past) : Prop := p.vec.length * 8 ≤ 140737488351232 ∧ (∀ x ∈ p.cloud, inr x.rep ∧ inr x.lo ∧ inr x.hi) ∧ p.cloud.length * 24 ≤ 140737488351232
theorem ty36 {L n : Nat} {cs : List AV} (h : TyC tab L (n + 4) 36 cs) : ∃ p : Past, cs = c36 p ∧ inP p := by
  obtain ⟨a, b, rfl, ha, c, d, rfl, hc, rfl⟩ := h
  obtain ⟨x, rfl, hx⟩ := ty33 (L := L) (n := n + 1) ha
  obtain ⟨y, rfl, hy⟩ := ty34 hc
  exact ⟨⟨x, y⟩, rfl, hx, hy⟩
def inC (c : Case) : Prop := ((∀ x ∈ c.a, inE x) ∧ c.a.length * 40 ≤ 140737488351232) ∧ ((∀ x ∈ c.b, inE x) ∧ c.b.length * 40 ≤ 140737488351232) ∧ inP c.p ∧ c.sku.size ≤ 140737488351232
theorem ty38 {L n : Nat} {cs : List AV} (h : TyC tab L (n + 5) 38 cs) : ∃ c : Case, cs = c38 c ∧ inC c ∧ c.a.length ≤ L ∧ c.b.length ≤ L := by
  obtain ⟨a, b, rfl, ha, a2, b2, rfl, ha2, a3, b3, rfl, ha3, a4, b4, rfl, ha4, a5, b5, rfl, ha5, a6, b6, rfl, ha6, rfl⟩ := h
  obtain ⟨x1, rfl, h1⟩ := ty22 ha
  obtain ⟨x2, rfl, h2⟩ := ty22 ha2
  obtain ⟨x3, rfl, h3⟩ := ty36 ha3
  obtain ⟨x4, rfl, h4⟩ := ty26 (L := L) (n := n + 2) ha4
  obtain ⟨x5, rfl, h5⟩ := ty3 (L := L) (n := n + 3) ha5
  obtain ⟨x6, rfl, h6⟩ := ty9 (L := L) (n := n + 3) ha6
  exact ⟨⟨x1, x2, x3, x4, x5, x6⟩, rfl, ⟨h1.1, h2.1, h3, h6⟩, h1.2, h2.2⟩
theorem ta38 {L : Nat} {a : AV} (h : TyA tab L 9 38 a) : ∃ c : Case, a = .agg (c38 c) ∧ inC c ∧ c.a.length ≤ L ∧ c.b.length ≤ L := by
  obtain ⟨cs, rfl, h2⟩ := (show ∃ cs, a = .agg cs ∧ TyC tab L 9 38 cs from h)
  obtain ⟨d, rfl, k⟩ := ty38 (L := L) (n := 4) h2
  exact ⟨d, rfl, k⟩
mutual
theorem bulk_eq {H : Type} : ∀ d : DataW H, Rows.uptoBulk d = bulkD d
  | .lit l => by cases l <;> simp [Rows.uptoBulk, bulkD]
  | .nil => by simp [Rows.uptoBulk, bulkD]
  | .ptr d => by simp only [Rows.uptoBulk, bulkD, bulk_eq d]
  | .slice elems spare => by simp only [Rows.uptoBulk, bulkD, bulks_eq elems, bulks_eq spare]
  | .agg parts => by simp only [Rows.uptoBulk, bulkD, bulks_eq parts]
  | .iface _ d => by simp only [Rows.uptoBulk, bulkD, bulk_eq d]
  | .map entries => by simp only [Rows.uptoBulk, bulkD, bulkm_eq entries]
  | .held _ => by simp [Rows.uptoBulk, bulkD]
theorem bulks_eq {H : Type} : ∀ l : List (DataW H), Rows.uptoBulkAll l = bulkDs l
  | [] => by simp [Rows.uptoBulkAll, bulkDs]
  | d :: r => by simp only [Rows.uptoBulkAll, bulkDs, bulk_eq d, bulks_eq r]
theorem bulkm_eq {H : Type} : ∀ l : List (Lit × DataW H), Rows.uptoBulkEntries l = bulkDm l
  | [] => by simp [Rows.uptoBulkEntries, bulkDm]
  | x :: r => by simp only [Rows.uptoBulkEntries, bulkDm, bulke_eq x, bulkm_eq r]
theorem bulke_eq {H : Type} : ∀ x : Lit × DataW H, Rows.uptoBulkEntry x = bulkDe x
  | (l, d) => by cases l <;> simp only [Rows.uptoBulkEntry, bulkDe, bulk_eq d]
end
theorem bulk_small {H : Type} (ds : List (DataW H)) (h : Rows.uptoSmall H ds = true) : bulkDs ds ≤ 1048576 := by
  rw [← bulks_eq]
  exact of_decide_eq_true h
end Go.Proofs.Ytjngmlkaijpbgaa
namespace Go.Proofs.Ytjngmlkaijpbgaa
open Go.E Go.ChangeShapes Go.WideShapes Go.ChangeAt Go.RowKit
set_option maxRecDepth 100000
theorem law8 {L : Nat} {a1 : AV} (h1 : TyA tab L 9 22 a1) {a2 : AV} (h2 : TyA tab L 9 9 a2) : Con Try.prog 8 [a1, a2] (.b true) := by
  obtain ⟨x1, rfl, k1⟩ := ta22 h1
  obtain ⟨x2, rfl, k2⟩ := ta9 h2
  exact con8 x1 x2 k1.1.2
theorem LinesReads_lifted (os : Os) (started : os.Started) (H : Type) (enc : TypeId × Value → H) :
    ReturnsInHanded {} Try.checked os 8 .any (Rows.linesReadsSpec.pre6 enc Try.prog Try.f8 Rows.linesReadsRow.domain false) (Rows.linesReadsSpec.post enc Try.prog Try.f8 false true false false) := by
  refine law_lifted (C := Try.checked) [22, 9] 4 9 tab_ok Try.laidOut Try.own started (by kernel_rfl) Try.func8 rfl rfl (by kernel_rfl) (by kernel_rfl) rfl ?_
    (ChangeSpec.witness6 (enc := enc) (C := Try.checked) false ⟨#[], #[.slice none 0 0, .string ⟨#[]⟩], []⟩ 8 (by kernel_rfl) (by kernel_rfl) (by kernel_rfl) (by kernel_rfl)) ?_
  · intro ds hds
    rcases ds with _ | ⟨d1, _ | ⟨d2, _ | ⟨d3, l⟩⟩⟩
    · exact absurd hds (by simp)
    · exact absurd hds (by simp)
    · kernel_rfl
    · exact absurd hds (by simp)
  · intro L avs h
    rcases avs with _ | ⟨a1, _ | ⟨a2, _ | ⟨a3, l⟩⟩⟩
    · exact h.elim
    · exact h.2.elim
    · exact law8 h.1 h.2.1
    · exact h.2.2.elim
theorem LinesReads_holds : Rows.LinesReadsSaid :=
  OpenClaim.holds_of_wide 8 Try.f8 rfl rfl rfl rfl rfl rfl rfl ⟨rfl, rfl, rfl, rfl, rfl⟩ rfl rfl rfl rfl rfl (by kernel_rfl) Try.func8 (by kernel_rfl)
    (of_decide_eq_true (by kernel_rfl)) (by unfold Func.isWrapper; first | (rw [if_pos (by decide +kernel)]; kernel_rfl) | (rw [if_neg (by decide +kernel)]; exact ⟨rfl, rfl⟩))
    (fun os started H enc _ => LinesReads_lifted os started H enc)
end Go.Proofs.Ytjngmlkaijpbgaa
namespace Go.Proofs.Ytjngmlkaijpbgaa
open Go.E
set_option maxRecDepth 100000
set_option maxHeartbeats 4000000
def sumF (f : Line → Int) : List Line → Int
  | [] => 0
  | x :: l => f x + sumF f l
def qtyL (l : List Line) : Int := sumF (fun x => x.qty) l
def partL (l : List Line) : Int := sumF (fun x => x.parts) l
theorem sumF_app (f : Line → Int) (a b : List Line) : sumF f (a ++ b) = sumF f a + sumF f b := by
  induction a with
  | nil => simp [sumF]
  | cons e a ih => simp only [List.cons_append, sumF, ih]; omega
theorem sumF_perm (f : Line → Int) {a b : List Line} (h : a.Perm b) : sumF f a = sumF f b := by
  induction h with
  | nil => rfl
  | cons x _ ih => simp only [sumF, ih]
  | swap x y l => simp only [sumF]; omega
  | trans _ _ h1 h2 => rw [h1, h2]
theorem sumF_nn (f : Line → Int) : ∀ {l : List Line}, (∀ x ∈ l, 0 ≤ f x) → 0 ≤ sumF f l
  | [], _ => by simp [sumF]
  | x :: l, h => by
    have h1 := h x (by simp)
    have h2 := sumF_nn f (l := l) fun y hy => h y (by simp [hy])
    simp only [sumF]
    omega
theorem sumF_take (f : Line → Int) {l : List Line} (h : ∀ x ∈ l, 0 ≤ f x) (i : Nat) : 0 ≤ sumF f (l.take i) ∧ sumF f (l.take i) ≤ sumF f l := by
  have h1 := sumF_nn f (l := l.take i) fun x hx => h x (List.mem_of_mem_take hx)
  have h2 := sumF_nn f (l := l.drop i) fun x hx => h x (List.mem_of_mem_drop hx)
  have h3 := congrArg (sumF f) (List.take_append_drop i l)
  rw [sumF_app] at h3
  omega
theorem sumF_step (f : Line → Int) {l : List Line} {i : Int} (h0 : 0 ≤ i) (h : i < l.length) : sumF f (l.take (i + 1).toNat) = sumF f (l.take i.toNat) + f l[i.toNat]! := by
  rw [← take_step h0 h, sumF_app]
  simp [sumF]
theorem sumF_mset (f : Line → Int) (hf : f default = 0) (k : ByteArray) (v : Line) : ∀ m : List (ByteArray × Line), sumF f ((mset k v m).map (fun p => p.2)) = sumF f (m.map (fun p => p.2)) - f (lkp k m) + f v
  | [] => by
    have : lkp k ([] : List (ByteArray × Line)) = default := rfl
    rw [this, hf]
    simp [mset, sumF]
  | p :: m => by
    have ih := sumF_mset f hf k v m
    rw [mset]
    by_cases h : p.1 = k
    · have : lkp k (p :: m) = p.2 := by simp [lkp, h]
      rw [if_pos h, this, List.map_cons, List.map_cons]
      simp only [sumF]
      omega
    · have : lkp k (p :: m) = lkp k m := by simp [lkp, h]
      rw [if_neg h, this, List.map_cons, List.map_cons]
      simp only [sumF]
      omega
theorem fill_sums (es : List Entry) : sumF (fun x => x.parts) ((fillL es).map (fun p => p.2)) = es.length ∧ sumF (fun x => x.qty) ((fillL es).map (fun p => p.2)) = sumE es := by
  have h : ∀ n, n ≤ es.length → sumF (fun x => x.parts) ((fillL (es.take n)).map (fun p => p.2)) = n ∧ sumF (fun x => x.qty) ((fillL (es.take n)).map (fun p => p.2)) = sumE (es.take n) := by
    intro n
    induction n with
    | zero => intro _; simp [fillL, sumF, sumE]
    | succ n ih =>
      intro hn
      obtain ⟨h1, h2⟩ := ih (by omega)
      rw [List.take_succ_eq_append_getElem (by omega), fillL_app, sumF_mset _ rfl, sumF_mset _ rfl, h1, h2, sumE_app]
      simp only [addV, sumE]
      omega
  have := h es.length (Nat.le_refl _)
  rwa [List.take_length] at this
theorem lines_sums (es : List Entry) : partL (linesU es) = es.length ∧ qtyL (linesU es) = sumE es := by
  unfold partL qtyL linesU
  rw [sumF_perm _ (pdqL_perm _), sumF_perm _ (pdqL_perm _)]
  exact fill_sums es
theorem ent_good {e : Entry} (h : entE e = 0) : good e.sku = true := by
  unfold entE at h
  split at h
  · cases h
  · split at h
    · cases h
    · split at h
      · cases h
      · rename_i hg
        simpa using hg
theorem line_at {es : List Entry} (h : lstE es = 0) {e : Entry} (he : e ∈ es) : lineR es e.sku = (lineOf es e.sku, 0) := by
  unfold lineR
  rw [if_pos h, if_pos (ent_good (okL_mem h e he)), if_neg]
  intro k
  unfold ofSku at k
  rw [List.filter_eq_nil_iff] at k
  exact k e he (by simp)
theorem sumE_mem {l : List Entry} (h : ∀ e ∈ l, entE e = 0) {e : Entry} (he : e ∈ l) : e.qty ≤ sumE l := by
  obtain ⟨B, C, rfl⟩ := List.append_of_mem he
  have h1 := sumE_bound (l := B) fun x hx => h x (by simp [hx])
  have h2 := sumE_bound (l := C) fun x hx => h x (by simp [hx])
  rw [sumE_app]
  simp only [sumE]
  omega
theorem lineU_at {es : List Entry} (h : lstE es = 0) {i : Int} (h0 : 0 ≤ i) (hi : i < (linesU es).length) :
    lineR es (linesU es)[i.toNat]!.sku = ((linesU es)[i.toNat]!, 0) ∧ 1 ≤ (linesU es)[i.toNat]!.parts := by
  have hm : (linesU es)[i.toNat]! ∈ linesU es := bang_mem (by omega)
  obtain ⟨⟨e, he, k⟩, k2⟩ := ((linesU_is es).mem _).1 hm
  have h1 := line_at h he
  rw [k, ← k2] at h1
  refine ⟨h1, ?_⟩
  rw [k2]
  unfold lineOf
  have : e ∈ ofSku es (linesU es)[i.toNat]!.sku := List.mem_filter.2 ⟨he, by simpa using k⟩
  have := List.length_pos_of_mem this
  simp only
  omega
theorem lineU_nn {es : List Entry} (h : lstE es = 0) : ∀ x ∈ linesU es, 0 ≤ x.qty ∧ 0 ≤ x.parts := fun x hx => by
  have h1 := ((linesU_is es).mem x).1 hx
  have h2 := line_bound h (l := es) (fun e he => he) x.sku
  rw [← h1.2] at h2
  exact ⟨h2.1, h2.2.2.1⟩
theorem lineU_bound {es : List Entry} (h : lstE es = 0) {i : Int} (h0 : 0 ≤ i) (hi : i < (linesU es).length) :
    0 ≤ partL ((linesU es).take i.toNat) + (linesU es)[i.toNat]!.parts ∧ partL ((linesU es).take i.toNat) + (linesU es)[i.toNat]!.parts ≤ es.length ∧
    0 ≤ qtyL ((linesU es).take i.toNat) + (linesU es)[i.toNat]!.qty ∧ qtyL ((linesU es).take i.toNat) + (linesU es)[i.toNat]!.qty ≤ 1000000 * es.length := by
  have h1 := sumF_take (fun x => x.parts) (l := linesU es) (fun x hx => (lineU_nn h x hx).2) (i + 1).toNat
  have h2 := sumF_take (fun x => x.qty) (l := linesU es) (fun x hx => (lineU_nn h x hx).1) (i + 1).toNat
  rw [sumF_step _ h0 hi] at h1 h2
  obtain ⟨h3, h4⟩ := lines_sums es
  have h5 := sumE_bound (l := es) (okL_mem h)
  unfold partL qtyL at *
  omega
theorem lineU_up {es : List Entry} {i : Int} (h0 : 0 < i) (hi : i < (linesU es).length) : sLt (linesU es)[(i - 1).toNat]!.sku (linesU es)[i.toNat]!.sku = true := by
  have := List.pairwise_iff_getElem.1 (linesU_is es).up (i - 1).toNat i.toNat (by omega) (by omega) (by omega)
  rwa [getElem!_pos _ _ (by omega), getElem!_pos _ _ (by omega)]
def invA (es : List Entry) (l : List Line) (parts sum i : Int) : Prop := 0 ≤ i ∧ i ≤ l.length ∧ parts = partL (l.take i.toNat) ∧ sum = qtyL (l.take i.toNat)
def decA (l : List Line) (parts sum i : Int) : Nat := (l.length - i).toNat
def invB (es : List Entry) (i : Int) : Prop := 0 ≤ i ∧ i ≤ es.length
def decB (es : List Entry) (i : Int) : Nat := (es.length - i).toNat
theorem con9 (es : List Entry) (hs : es.length * 40 ≤ 140737488351232) : Con Try.prog 9 [.sl (es.map c28)] (.b true) :=
  by
  refine con_lens 0 (c28) (es) (by kernel_rfl) Go.Proofs.Try.func9 (by kernel_rfl) fun hl_0 => ?_
  refine st_con tab_ok (by kernel_rfl) [.tmp 2] 131 Go.Proofs.Try.func9 (by kernel_rfl) (by kernel_rfl) ?_
  intro e0 cx
  refine sq ?_
  refine rg (A := True) cx [] [0] [] trivial ?_
  refine sn ?_
  refine sq ?_
  refine sq ?_
  refine rg (A := _) cx [(0, { val := some (.b (true)) })] [0, 17] [] (con31 ) ?_
  refine sn ?_
  refine st_false (by kernel_rfl) (by kernel_rfl) ?_
  refine st_skip (by kernel_rfl) ?_
  refine sn ?_
  refine sq ?_
  refine rg (A := _) cx [(1, { val := some (.tup [.sl (List.map c55 (linesV es).fst), .i .i64 ((linesV es).snd)]) })] [0, 3, 4] [] (con35 (es) (by (with_reducible assumption))) ?_
  refine sn ?_
  refine sq ?_
  refine sq ?_
  refine rg (A := _ ∧ (AV.b (lstE es != (0 : Int)) = AV.b (decide ¬lstE es = (0 : Int)))) cx [(1, { val := some (.i .i64 (lstE es)) }), (2, { tell := some (.b (decide ¬lstE es = (0 : Int))) })] [0, 3, 4, 25] [] ⟨(con16 (es)), (told_neq)⟩ ?_
  refine sn ?_
  refine st_dec (¬lstE es = (0 : Int)) (by kernel_rfl) (by kernel_rfl) (fun h_0 => ?_) (fun h_0 => ?_)
  refine sq ?_
  refine st_join (σ' := ⟨[(2, .b (decide ((linesV es).snd = (1 : Int) ∧ (↑(linesV es).fst.length : Int) = (0 : Int))))], []⟩) ?_ ?_
  refine st_split ((linesV es).snd = (1 : Int)) (fun h_2 => ?_) (fun h_2 => ?_)
  refine rg (A := _ ∧ _ ∧ (AV.b ((↑(linesV es).fst.length : Int) == (0 : Int)) = AV.b (decide ((↑(linesV es).fst.length : Int) = (0 : Int)))) ∧ (AV.b (decide ((↑(linesV es).fst.length : Int) = (0 : Int))) = AV.b (decide ((linesV es).snd = (1 : Int) ∧ (↑(linesV es).fst.length : Int) = (0 : Int))))) cx [(1, { tell := some (.b (true)) }), (4, { tell := some (.i .i64 ((↑(linesV es).fst.length : Int))) }), (5, { tell := some (.b (decide ((↑(linesV es).fst.length : Int) = (0 : Int)))) }), (7, { tell := some (.b (decide ((linesV es).snd = (1 : Int) ∧ (↑(linesV es).fst.length : Int) = (0 : Int)))) })] [2] [] ⟨(told_true h_2), (told_len c55 (linesV es).fst), (by kernel_rfl), (by simp only [eq_true h_2, told_simp1, told_simp2, and_true, true_and, and_false, false_and, or_true, true_or, or_false, false_or, not_true_eq_false, not_false_eq_true, decide_true, decide_false, Bool.decide_eq_true])⟩ ?_
  exact ⟨rfl, by kernel_rfl⟩
  refine rg (A := _ ∧ (AV.b false = AV.b (decide ((linesV es).snd = (1 : Int) ∧ (↑(linesV es).fst.length : Int) = (0 : Int))))) cx [(1, { tell := some (.b (false)) }), (7, { tell := some (.b (decide ((linesV es).snd = (1 : Int) ∧ (↑(linesV es).fst.length : Int) = (0 : Int)))) })] [2] [] ⟨(told_false h_2), (by simp only [eq_false h_2, told_simp1, told_simp2, and_true, true_and, and_false, false_and, or_true, true_or, or_false, false_or, not_true_eq_false, not_false_eq_true, decide_true, decide_false, Bool.decide_eq_true])⟩ ?_
  exact ⟨rfl, by kernel_rfl⟩
  refine sn ?_
  refine st_ret (by kernel_rfl) ?_
  refine q_seq_ret ?_
  refine q_ret (r := .b (decide ((linesV es).snd = (1 : Int) ∧ (↑(linesV es).fst.length : Int) = (0 : Int)))) (obl := []) (by kernel_rfl) trivial (AVle.eq (show AV.b (decide ((linesV es).snd = (1 : Int) ∧ (↑(linesV es).fst.length : Int) = (0 : Int))) = AV.b true from ?g0)); rotate_left 1
  refine st_skip (by kernel_rfl) ?_
  refine sn ?_
  refine sq ?_
  refine sq ?_
  refine rg (A := (AV.b ((linesV es).snd != (0 : Int)) = AV.b (decide ¬(linesV es).snd = (0 : Int)))) cx [(1, { tell := some (.b (decide ¬(linesV es).snd = (0 : Int))) })] [0, 3, 34] [] (told_neq) ?_
  refine sn ?_
  refine st_dec (¬(linesV es).snd = (0 : Int)) (by kernel_rfl) (by kernel_rfl) (fun h_3 => ?_) (fun h_3 => ?_)
  refine sq ?_
  refine rg (A := True) cx [] [2] [] trivial ?_
  refine sn ?_
  refine st_ret (by kernel_rfl) ?_
  refine q_seq_ret ?_
  refine q_ret (r := .b (false)) (obl := []) (by kernel_rfl) trivial (AVle.eq (show AV.b false = AV.b true from ?g1)); rotate_left 1
  refine st_skip (by kernel_rfl) ?_
  refine sn ?_
  refine sq ?_
  refine rg (A := True) cx [] [0, 3, 5] [] trivial ?_
  refine sn ?_
  refine sq ?_
  refine rg (A := True) cx [] [0, 3, 5, 6] [] trivial ?_
  refine sn ?_
  refine sq ?_
  refine sq ?_
  refine rg (A := _) cx [(1, { tell := some (.i .i64 ((↑(linesV es).fst.length : Int))) })] [0, 3, 5, 6, 35, 36, 37] [] (told_len c55 (linesV es).fst) ?_
  refine sn ?_
  refine st_block 0 (by kernel_rfl) ?_
  refine st_loop (X := Int × Int × Int) (fun x => ⟨[(0, .sl (List.map c28 es)), (3, .sl (List.map c55 (linesV es).fst)), (5, .i .i64 (x.fst)), (6, .i .i64 (x.snd.fst)), (35, .sl (List.map c55 (linesV es).fst)), (36, .i .i64 ((↑(linesV es).fst.length : Int))), (37, .i .i64 (x.snd.snd))], []⟩) (fun x ↦ decA (linesU es) x.fst x.snd.fst x.snd.snd) (fun x ↦ invA es (linesU es) x.fst x.snd.fst x.snd.snd) [0, 3, 5, 6, 35, 36, 37] [] (((0 : Int), (0 : Int), (0 : Int))) (by kernel_rfl) (by kernel_rfl) (show invA es (linesU es) (0 : Int) (0 : Int) (0 : Int) from ?g2) ?_; rotate_left 1
  rintro ⟨parts_4, sum_5, i_6⟩ h_7
  obtain ⟨h_8, h_9, h_10, h_11⟩ : (0 : Int) ≤ i_6 ∧ i_6 ≤ (↑(linesU es).length : Int) ∧ parts_4 = partL (List.take i_6.toNat (linesU es)) ∧ sum_5 = qtyL (List.take i_6.toNat (linesU es)) := h_7
  refine sq ?_
  refine rg (A := (AV.b (decide (i_6 < (↑(linesV es).fst.length : Int))) = AV.b (decide (i_6 < (↑(linesV es).fst.length : Int))))) cx [(0, { tell := some (.b (decide (i_6 < (↑(linesV es).fst.length : Int)))) })] [0, 3, 5, 6, 35, 36, 37, 38] [] (by kernel_rfl) ?_
  refine sn ?_
  refine sq ?_
  refine st_dec (i_6 < (↑(linesV es).fst.length : Int)) (by kernel_rfl) (by kernel_rfl) (fun h_12 => ?_) (fun h_12 => ?_)
  refine st_skip (by kernel_rfl) ?_
  refine sn ?_
  refine sq ?_
  refine st_block 1 (by kernel_rfl) ?_
  refine sq ?_
  refine rg (A := ((0 : Int) ≤ i_6) ∧ ((List.map c55 (linesV es).fst)[i_6.toNat]? = some (c55 (linesV es).fst[i_6.toNat]!)) ∧ ((c55 (linesV es).fst[i_6.toNat]!).length = (3 : Nat)) ∧ ((3 : Nat) ≤ [AV.s (linesV es).fst[i_6.toNat]!.sku, AV.i IntKind.i64 (linesV es).fst[i_6.toNat]!.qty, AV.i IntKind.i64 (linesV es).fst[i_6.toNat]!.parts].length)) cx [(1, { row := (c55 (linesV es).fst[i_6.toNat]!) })] [0, 3, 5, 6, 35, 36, 37, 8, 7] [8] ⟨(by (with_reducible assumption)), (by (with_reducible refine get_map ?_; omega)), (by kernel_rfl), (by (simp only [List.length_append, List.length_cons, List.length_nil]; omega))⟩ ?_
  refine sn ?_
  refine sq ?_
  refine sq ?_
  refine st_join (σ' := ⟨[(0, .sl (List.map c28 es)), (3, .sl (List.map c55 (linesV es).fst)), (5, .i .i64 (parts_4)), (6, .i .i64 (sum_5)), (35, .sl (List.map c55 (linesV es).fst)), (36, .i .i64 ((↑(linesV es).fst.length : Int))), (37, .i .i64 (i_6)), (8, .ptr (8) (0) (0) (0)), (54, .b (decide ((0 : Int) < i_6 ∧ ¬sLt (linesV es).fst[(i_6 - (1 : Int)).toNat]!.sku (linesV es).fst[i_6.toNat]!.sku = true)))], [(8, ⟨0, 55, .var [.s ((linesV es).fst[i_6.toNat]!.sku), .i .i64 ((linesV es).fst[i_6.toNat]!.qty), .i .i64 ((linesV es).fst[i_6.toNat]!.parts)]⟩)]⟩) ?_ ?_
  refine st_split ((0 : Int) < i_6) (fun h_14 => ?_) (fun h_14 => ?_)
  refine ra (A := _ ∧ (AV.i IntKind.i64 (IntKind.i64.wrap (i_6 - (1 : Int))) = AV.i IntKind.i64 (i_6 - (1 : Int))) ∧ ((0 : Int) ≤ i_6 - (1 : Int)) ∧ ((List.map c55 (linesV es).fst)[(i_6 - (1 : Int)).toNat]? = some (c55 (linesV es).fst[(i_6 - (1 : Int)).toNat]!)) ∧ ((c55 (linesV es).fst[(i_6 - (1 : Int)).toNat]!).length = (3 : Nat)) ∧ ((AV.b !Op.bytesLess (linesV es).fst[(i_6 - (1 : Int)).toNat]!.sku.toList (linesV es).fst[i_6.toNat]!.sku.toList) = AV.b (decide ¬sLt (linesV es).fst[(i_6 - (1 : Int)).toNat]!.sku (linesV es).fst[i_6.toNat]!.sku = true)) ∧ (AV.b (decide ¬sLt (linesV es).fst[(i_6 - (1 : Int)).toNat]!.sku (linesV es).fst[i_6.toNat]!.sku = true) = AV.b (decide ((0 : Int) < i_6 ∧ ¬sLt (linesV es).fst[(i_6 - (1 : Int)).toNat]!.sku (linesV es).fst[i_6.toNat]!.sku = true)))) cx [(1, { tell := some (.b (true)) }), (5, { tell := some (.i .i64 (i_6 - (1 : Int))) }), (6, { row := (c55 (linesV es).fst[(i_6 - (1 : Int)).toNat]!) }), (11, { tell := some (.b (decide ¬sLt (linesV es).fst[(i_6 - (1 : Int)).toNat]!.sku (linesV es).fst[i_6.toNat]!.sku = true)) }), (12, { tell := some (.b (decide ((0 : Int) < i_6 ∧ ¬sLt (linesV es).fst[(i_6 - (1 : Int)).toNat]!.sku (linesV es).fst[i_6.toNat]!.sku = true))) })] [0, 3, 5, 6, 35, 36, 37, 8, 54] [8] ⟨(told_true h_14), (told_i64 (by omega) ?g3), (by omega), (by (with_reducible refine get_map ?_; omega)), (by kernel_rfl), (told_sge), (by simp only [eq_true h_14, told_simp1, told_simp2, and_true, true_and, and_false, false_and, or_true, true_or, or_false, false_or, not_true_eq_false, not_false_eq_true, decide_true, decide_false, Bool.decide_eq_true])⟩ ?_; rotate_left 1
  exact ⟨rfl, by kernel_rfl⟩
  refine ra (A := _ ∧ (AV.b false = AV.b (decide ((0 : Int) < i_6 ∧ ¬sLt (linesV es).fst[(i_6 - (1 : Int)).toNat]!.sku (linesV es).fst[i_6.toNat]!.sku = true)))) cx [(1, { tell := some (.b (false)) }), (12, { tell := some (.b (decide ((0 : Int) < i_6 ∧ ¬sLt (linesV es).fst[(i_6 - (1 : Int)).toNat]!.sku (linesV es).fst[i_6.toNat]!.sku = true))) })] [0, 3, 5, 6, 35, 36, 37, 8, 54] [8] ⟨(told_false h_14), (by simp only [eq_false h_14, told_simp1, told_simp2, and_true, true_and, and_false, false_and, or_true, true_or, or_false, false_or, not_true_eq_false, not_false_eq_true, decide_true, decide_false, Bool.decide_eq_true])⟩ ?_
  exact ⟨rfl, by kernel_rfl⟩
  refine sn ?_
  refine st_dec ((0 : Int) < i_6 ∧ ¬sLt (linesV es).fst[(i_6 - (1 : Int)).toNat]!.sku (linesV es).fst[i_6.toNat]!.sku = true) (by kernel_rfl) (by kernel_rfl) (fun h_15 => ?_) (fun h_15 => ?_)
  refine sq ?_
  refine rg (A := True) cx [] [2] [] trivial ?_
  refine sn ?_
  refine st_ret (by kernel_rfl) ?_
  refine q_seq_ret ?_
  refine q_blk_ret ?_
  refine q_seq_ret ?_
  refine q_seq_ret ?_
  refine q_blk_ret ?_
  refine q_seq_ret ?_
  refine q_ret (r := .b (false)) (obl := []) (by kernel_rfl) trivial (AVle.eq (show AV.b false = AV.b true from ?g4)); rotate_left 1
  refine st_skip (by kernel_rfl) ?_
  refine sn ?_
  refine sq ?_
  refine rg (A := _) cx [(3, { val := some (.tup [.agg [.s ((lineR es (linesV es).fst[i_6.toNat]!.sku).fst.sku), .i .i64 ((lineR es (linesV es).fst[i_6.toNat]!.sku).fst.qty), .i .i64 ((lineR es (linesV es).fst[i_6.toNat]!.sku).fst.parts)], .i .i64 ((lineR es (linesV es).fst[i_6.toNat]!.sku).snd)]) })] [0, 3, 5, 6, 35, 36, 37, 8, 9, 10] [8, 9] (con37 (es) ((linesV es).fst[i_6.toNat]!.sku) (by (with_reducible assumption))) ?_
  refine sn ?_
  refine sq ?_
  refine sq ?_
  refine st_join (σ' := ⟨[(0, .sl (List.map c28 es)), (3, .sl (List.map c55 (linesV es).fst)), (5, .i .i64 (parts_4)), (6, .i .i64 (sum_5)), (35, .sl (List.map c55 (linesV es).fst)), (36, .i .i64 ((↑(linesV es).fst.length : Int))), (37, .i .i64 (i_6)), (8, .ptr (8) (0) (0) (0)), (73, .b (decide (¬(lineR es (linesV es).fst[i_6.toNat]!.sku).snd = (0 : Int) ∨ ¬(linesV es).fst[i_6.toNat]! = (lineR es (linesV es).fst[i_6.toNat]!.sku).fst ∨ (linesV es).fst[i_6.toNat]!.parts < (1 : Int))))], [(8, ⟨0, 55, .var [.s ((linesV es).fst[i_6.toNat]!.sku), .i .i64 ((linesV es).fst[i_6.toNat]!.qty), .i .i64 ((linesV es).fst[i_6.toNat]!.parts)]⟩)]⟩) ?_ ?_
  refine st_split (¬(lineR es (linesV es).fst[i_6.toNat]!.sku).snd = (0 : Int)) (fun h_17 => ?_) (fun h_17 => ?_)
  refine rg (A := (AV.b ((lineR es (linesV es).fst[i_6.toNat]!.sku).snd != (0 : Int)) = AV.b true) ∧ (AV.b true = AV.b (decide (¬(lineR es (linesV es).fst[i_6.toNat]!.sku).snd = (0 : Int) ∨ ¬(linesV es).fst[i_6.toNat]! = (lineR es (linesV es).fst[i_6.toNat]!.sku).fst ∨ (linesV es).fst[i_6.toNat]!.parts < (1 : Int))))) cx [(1, { tell := some (.b (true)) }), (11, { tell := some (.b (decide (¬(lineR es (linesV es).fst[i_6.toNat]!.sku).snd = (0 : Int) ∨ ¬(linesV es).fst[i_6.toNat]! = (lineR es (linesV es).fst[i_6.toNat]!.sku).fst ∨ (linesV es).fst[i_6.toNat]!.parts < (1 : Int)))) })] [0, 3, 5, 6, 35, 36, 37, 8, 73] [8] ⟨(told_neqt h_17), (by simp only [eq_false h_17, told_simp1, told_simp2, and_true, true_and, and_false, false_and, or_true, true_or, or_false, false_or, not_true_eq_false, not_false_eq_true, decide_true, decide_false, Bool.decide_eq_true])⟩ ?_
  exact ⟨rfl, by kernel_rfl⟩
  refine st_split (¬(linesV es).fst[i_6.toNat]! = (lineR es (linesV es).fst[i_6.toNat]!.sku).fst) (fun h_18 => ?_) (fun h_18 => ?_)
  refine rg (A := (AV.b ((lineR es (linesV es).fst[i_6.toNat]!.sku).snd != (0 : Int)) = AV.b (decide ¬(lineR es (linesV es).fst[i_6.toNat]!.sku).snd = (0 : Int))) ∧ _ ∧ (AggEq Try.prog (55 : Nat) [AV.s (linesV es).fst[i_6.toNat]!.sku, AV.i IntKind.i64 (linesV es).fst[i_6.toNat]!.qty, AV.i IntKind.i64 (linesV es).fst[i_6.toNat]!.parts] [AV.s (lineR es (linesV es).fst[i_6.toNat]!.sku).fst.sku, AV.i IntKind.i64 (lineR es (linesV es).fst[i_6.toNat]!.sku).fst.qty, AV.i IntKind.i64 (lineR es (linesV es).fst[i_6.toNat]!.sku).fst.parts] !true) ∧ (AV.b true = AV.b (decide (¬(lineR es (linesV es).fst[i_6.toNat]!.sku).snd = (0 : Int) ∨ ¬(linesV es).fst[i_6.toNat]! = (lineR es (linesV es).fst[i_6.toNat]!.sku).fst ∨ (linesV es).fst[i_6.toNat]!.parts < (1 : Int))))) cx [(1, { tell := some (.b (decide ¬(lineR es (linesV es).fst[i_6.toNat]!.sku).snd = (0 : Int))) }), (2, { tell := some (.b (false)) }), (5, { val := some (.b (true)) }), (11, { tell := some (.b (decide (¬(lineR es (linesV es).fst[i_6.toNat]!.sku).snd = (0 : Int) ∨ ¬(linesV es).fst[i_6.toNat]! = (lineR es (linesV es).fst[i_6.toNat]!.sku).fst ∨ (linesV es).fst[i_6.toNat]!.parts < (1 : Int)))) })] [0, 3, 5, 6, 35, 36, 37, 8, 73] [8] ⟨(told_neq), (told_false h_17), (aggEq_false (eq55 (linesV es).fst[i_6.toNat]! (lineR es (linesV es).fst[i_6.toNat]!.sku).fst) h_18), (by simp only [eq_false h_17, eq_false h_18, told_simp1, told_simp2, and_true, true_and, and_false, false_and, or_true, true_or, or_false, false_or, not_true_eq_false, not_false_eq_true, decide_true, decide_false, Bool.decide_eq_true])⟩ ?_
  exact ⟨rfl, by kernel_rfl⟩
  refine rg (A := (AV.b ((lineR es (linesV es).fst[i_6.toNat]!.sku).snd != (0 : Int)) = AV.b (decide ¬(lineR es (linesV es).fst[i_6.toNat]!.sku).snd = (0 : Int))) ∧ _ ∧ (AggEq Try.prog (55 : Nat) [AV.s (linesV es).fst[i_6.toNat]!.sku, AV.i IntKind.i64 (linesV es).fst[i_6.toNat]!.qty, AV.i IntKind.i64 (linesV es).fst[i_6.toNat]!.parts] [AV.s (lineR es (linesV es).fst[i_6.toNat]!.sku).fst.sku, AV.i IntKind.i64 (lineR es (linesV es).fst[i_6.toNat]!.sku).fst.qty, AV.i IntKind.i64 (lineR es (linesV es).fst[i_6.toNat]!.sku).fst.parts] !decide ¬(linesV es).fst[i_6.toNat]! = (lineR es (linesV es).fst[i_6.toNat]!.sku).fst) ∧ _ ∧ (AV.b (decide ((linesV es).fst[i_6.toNat]!.parts < (1 : Int))) = AV.b (decide ((linesV es).fst[i_6.toNat]!.parts < (1 : Int)))) ∧ (AV.b (decide ((linesV es).fst[i_6.toNat]!.parts < (1 : Int))) = AV.b (decide (¬(lineR es (linesV es).fst[i_6.toNat]!.sku).snd = (0 : Int) ∨ ¬(linesV es).fst[i_6.toNat]! = (lineR es (linesV es).fst[i_6.toNat]!.sku).fst ∨ (linesV es).fst[i_6.toNat]!.parts < (1 : Int))))) cx [(1, { tell := some (.b (decide ¬(lineR es (linesV es).fst[i_6.toNat]!.sku).snd = (0 : Int))) }), (2, { tell := some (.b (false)) }), (5, { val := some (.b (decide ¬(linesV es).fst[i_6.toNat]! = (lineR es (linesV es).fst[i_6.toNat]!.sku).fst)) }), (6, { tell := some (.b (false)) }), (10, { tell := some (.b (decide ((linesV es).fst[i_6.toNat]!.parts < (1 : Int)))) }), (11, { tell := some (.b (decide (¬(lineR es (linesV es).fst[i_6.toNat]!.sku).snd = (0 : Int) ∨ ¬(linesV es).fst[i_6.toNat]! = (lineR es (linesV es).fst[i_6.toNat]!.sku).fst ∨ (linesV es).fst[i_6.toNat]!.parts < (1 : Int)))) })] [0, 3, 5, 6, 35, 36, 37, 8, 73] [8] ⟨(told_neq), (told_false h_17), (aggNe_dec (eq55 (linesV es).fst[i_6.toNat]! (lineR es (linesV es).fst[i_6.toNat]!.sku).fst)), (told_false h_18), (by kernel_rfl), (by simp only [eq_false h_17, eq_false h_18, told_simp1, told_simp2, and_true, true_and, and_false, false_and, or_true, true_or, or_false, false_or, not_true_eq_false, not_false_eq_true, decide_true, decide_false, Bool.decide_eq_true])⟩ ?_
  exact ⟨rfl, by kernel_rfl⟩
  refine sn ?_
  refine st_dec (¬(lineR es (linesV es).fst[i_6.toNat]!.sku).snd = (0 : Int) ∨ ¬(linesV es).fst[i_6.toNat]! = (lineR es (linesV es).fst[i_6.toNat]!.sku).fst ∨ (linesV es).fst[i_6.toNat]!.parts < (1 : Int)) (by kernel_rfl) (by kernel_rfl) (fun h_19 => ?_) (fun h_19 => ?_)
  refine sq ?_
  refine rg (A := True) cx [] [2] [] trivial ?_
  refine sn ?_
  refine st_ret (by kernel_rfl) ?_
  refine q_seq_ret ?_
  refine q_blk_ret ?_
  refine q_seq_ret ?_
  refine q_seq_ret ?_
  refine q_blk_ret ?_
  refine q_seq_ret ?_
  refine q_ret (r := .b (false)) (obl := []) (by kernel_rfl) trivial (AVle.eq (show AV.b false = AV.b true from ?g5)); rotate_left 1
  refine st_skip (by kernel_rfl) ?_
  refine sn ?_
  refine sq ?_
  refine rg (A := (AV.i IntKind.i64 (IntKind.i64.wrap (parts_4 + (linesV es).fst[i_6.toNat]!.parts)) = AV.i IntKind.i64 (parts_4 + (linesV es).fst[i_6.toNat]!.parts))) cx [(3, { tell := some (.i .i64 (parts_4 + (linesV es).fst[i_6.toNat]!.parts)) })] [0, 3, 5, 6, 35, 36, 37, 8] [8] (told_i64 ?g6 ?g7) ?_; rotate_left 2
  refine sn ?_
  refine rg (A := (AV.i IntKind.i64 (IntKind.i64.wrap (sum_5 + (linesV es).fst[i_6.toNat]!.qty)) = AV.i IntKind.i64 (sum_5 + (linesV es).fst[i_6.toNat]!.qty))) cx [(3, { tell := some (.i .i64 (sum_5 + (linesV es).fst[i_6.toNat]!.qty)) })] [0, 3, 5, 6, 35, 36, 37] [] (told_i64 ?g8 ?g9) ?_; rotate_left 2
  refine q_blk_normal ?_
  refine sn ?_
  refine rg (A := (AV.i IntKind.i64 (IntKind.i64.wrap (i_6 + (1 : Int))) = AV.i IntKind.i64 (i_6 + (1 : Int)))) cx [(0, { tell := some (.i .i64 (i_6 + (1 : Int))) })] [0, 3, 5, 6, 35, 36, 37] [] (told_i64 (by omega) ?g10) ?_; rotate_left 1
  refine sn ?_
  refine loop_next ((parts_4 + (linesV es).fst[i_6.toNat]!.parts, sum_5 + (linesV es).fst[i_6.toNat]!.qty, i_6 + (1 : Int))) (by kernel_rfl) (show ((↑(linesU es).length : Int) - (i_6 + (1 : Int))).toNat < ((↑(linesU es).length : Int) - i_6).toNat from ?g11) (show invA es (linesU es) (parts_4 + (linesV es).fst[i_6.toNat]!.parts) (sum_5 + (linesV es).fst[i_6.toNat]!.qty) (i_6 + (1 : Int)) from ?g12); rotate_left 2
  refine st_exit 0 (by kernel_rfl) ?_
  refine q_seq_exit ?_
  refine q_seq_exit ?_
  refine q_blk_hit ?_
  refine sn ?_
  refine sq ?_
  refine rg (A := _) cx [(1, { val := some (.tup [.i .i64 ((totR es).fst), .i .i64 ((totR es).snd)]) })] [0, 5, 6, 11, 4] [] (con38 (es) (by (with_reducible assumption))) ?_
  refine sn ?_
  refine sq ?_
  refine sq ?_
  refine st_join (σ' := ⟨[(0, .sl (List.map c28 es)), (100, .b (decide (¬(totR es).snd = (0 : Int) ∨ ¬(totR es).fst = sum_5 ∨ ¬parts_4 = (↑es.length : Int))))], []⟩) ?_ ?_
  refine st_split (¬(totR es).snd = (0 : Int)) (fun h_21 => ?_) (fun h_21 => ?_)
  refine rg (A := (AV.b ((totR es).snd != (0 : Int)) = AV.b true) ∧ (AV.b true = AV.b (decide (¬(totR es).snd = (0 : Int) ∨ ¬(totR es).fst = sum_5 ∨ ¬parts_4 = (↑es.length : Int))))) cx [(1, { tell := some (.b (true)) }), (12, { tell := some (.b (decide (¬(totR es).snd = (0 : Int) ∨ ¬(totR es).fst = sum_5 ∨ ¬parts_4 = (↑es.length : Int)))) })] [0, 100] [] ⟨(told_neqt h_21), (by simp only [eq_false h_21, told_simp1, told_simp2, and_true, true_and, and_false, false_and, or_true, true_or, or_false, false_or, not_true_eq_false, not_false_eq_true, decide_true, decide_false, Bool.decide_eq_true])⟩ ?_
  exact ⟨rfl, by kernel_rfl⟩
  refine st_split (¬(totR es).fst = sum_5) (fun h_22 => ?_) (fun h_22 => ?_)
  refine rg (A := (AV.b ((totR es).snd != (0 : Int)) = AV.b (decide ¬(totR es).snd = (0 : Int))) ∧ _ ∧ (AV.b ((totR es).fst != sum_5) = AV.b true) ∧ (AV.b true = AV.b (decide (¬(totR es).snd = (0 : Int) ∨ ¬(totR es).fst = sum_5 ∨ ¬parts_4 = (↑es.length : Int))))) cx [(1, { tell := some (.b (decide ¬(totR es).snd = (0 : Int))) }), (2, { tell := some (.b (false)) }), (5, { tell := some (.b (true)) }), (12, { tell := some (.b (decide (¬(totR es).snd = (0 : Int) ∨ ¬(totR es).fst = sum_5 ∨ ¬parts_4 = (↑es.length : Int)))) })] [0, 100] [] ⟨(told_neq), (told_false h_21), (told_neqt h_22), (by simp only [eq_false h_21, eq_false h_22, told_simp1, told_simp2, and_true, true_and, and_false, false_and, or_true, true_or, or_false, false_or, not_true_eq_false, not_false_eq_true, decide_true, decide_false, Bool.decide_eq_true])⟩ ?_
  exact ⟨rfl, by kernel_rfl⟩
  refine rg (A := (AV.b ((totR es).snd != (0 : Int)) = AV.b (decide ¬(totR es).snd = (0 : Int))) ∧ _ ∧ (AV.b ((totR es).fst != sum_5) = AV.b (decide ¬(totR es).fst = sum_5)) ∧ _ ∧ _ ∧ (AV.b (parts_4 != (↑es.length : Int)) = AV.b (decide ¬parts_4 = (↑es.length : Int))) ∧ (AV.b (decide ¬parts_4 = (↑es.length : Int)) = AV.b (decide (¬(totR es).snd = (0 : Int) ∨ ¬(totR es).fst = sum_5 ∨ ¬parts_4 = (↑es.length : Int))))) cx [(1, { tell := some (.b (decide ¬(totR es).snd = (0 : Int))) }), (2, { tell := some (.b (false)) }), (5, { tell := some (.b (decide ¬(totR es).fst = sum_5)) }), (6, { tell := some (.b (false)) }), (10, { tell := some (.i .i64 ((↑es.length : Int))) }), (11, { tell := some (.b (decide ¬parts_4 = (↑es.length : Int))) }), (12, { tell := some (.b (decide (¬(totR es).snd = (0 : Int) ∨ ¬(totR es).fst = sum_5 ∨ ¬parts_4 = (↑es.length : Int)))) })] [0, 100] [] ⟨(told_neq), (told_false h_21), (told_neq), (told_false h_22), (told_len c28 es), (told_neq), (by simp only [eq_false h_21, eq_false h_22, told_simp1, told_simp2, and_true, true_and, and_false, false_and, or_true, true_or, or_false, false_or, not_true_eq_false, not_false_eq_true, decide_true, decide_false, Bool.decide_eq_true])⟩ ?_
  exact ⟨rfl, by kernel_rfl⟩
  refine sn ?_
  refine st_dec (¬(totR es).snd = (0 : Int) ∨ ¬(totR es).fst = sum_5 ∨ ¬parts_4 = (↑es.length : Int)) (by kernel_rfl) (by kernel_rfl) (fun h_23 => ?_) (fun h_23 => ?_)
  refine sq ?_
  refine rg (A := True) cx [] [2] [] trivial ?_
  refine sn ?_
  refine st_ret (by kernel_rfl) ?_
  refine q_seq_ret ?_
  refine q_ret (r := .b (false)) (obl := []) (by kernel_rfl) trivial (AVle.eq (show AV.b false = AV.b true from ?g13)); rotate_left 1
  refine st_skip (by kernel_rfl) ?_
  refine sn ?_
  refine sq ?_
  refine sq ?_
  refine rg (A := _) cx [(1, { tell := some (.i .i64 ((↑es.length : Int))) })] [0, 101, 102, 103] [] (told_len c28 es) ?_
  refine sn ?_
  refine st_block 2 (by kernel_rfl) ?_
  refine st_loop (X := Int) (fun x => ⟨[(0, .sl (List.map c28 es)), (101, .sl (List.map c28 es)), (102, .i .i64 ((↑es.length : Int))), (103, .i .i64 (x))], []⟩) (fun x ↦ decB es x) (fun x ↦ invB es x) [0, 101, 102, 103] [] ((0 : Int)) (by kernel_rfl) (by kernel_rfl) (show invB es (0 : Int) from ?g14) ?_; rotate_left 1
  intro i_24 h_25
  obtain ⟨h_26, h_27⟩ : (0 : Int) ≤ i_24 ∧ i_24 ≤ (↑es.length : Int) := h_25
  refine sq ?_
  refine rg (A := (AV.b (decide (i_24 < (↑es.length : Int))) = AV.b (decide (i_24 < (↑es.length : Int))))) cx [(0, { tell := some (.b (decide (i_24 < (↑es.length : Int)))) })] [0, 101, 102, 103, 104] [] (by kernel_rfl) ?_
  refine sn ?_
  refine sq ?_
  refine st_dec (i_24 < (↑es.length : Int)) (by kernel_rfl) (by kernel_rfl) (fun h_28 => ?_) (fun h_28 => ?_)
  refine st_skip (by kernel_rfl) ?_
  refine sn ?_
  refine sq ?_
  refine st_block 3 (by kernel_rfl) ?_
  refine sq ?_
  refine rg (A := ((0 : Int) ≤ i_24) ∧ ((List.map c28 es)[i_24.toNat]? = some (c28 es[i_24.toNat]!)) ∧ ((c28 es[i_24.toNat]!).length = (4 : Nat)) ∧ ((4 : Nat) ≤ [AV.i IntKind.i64 es[i_24.toNat]!.dot.rep, AV.i IntKind.i64 es[i_24.toNat]!.dot.num, AV.s es[i_24.toNat]!.sku, AV.i IntKind.i64 es[i_24.toNat]!.qty].length)) cx [(0, { row := (c28 es[i_24.toNat]!) })] [0, 101, 102, 103, 13] [13] ⟨(by (with_reducible assumption)), (by (with_reducible refine get_map ?_; omega)), (by kernel_rfl), (by (simp only [List.length_append, List.length_cons, List.length_nil]; omega))⟩ ?_
  refine sn ?_
  refine sq ?_
  refine rg (A := _) cx [(3, { val := some (.tup [.agg [.s ((lineR es es[i_24.toNat]!.sku).fst.sku), .i .i64 ((lineR es es[i_24.toNat]!.sku).fst.qty), .i .i64 ((lineR es es[i_24.toNat]!.sku).fst.parts)], .i .i64 ((lineR es es[i_24.toNat]!.sku).snd)]) })] [0, 101, 102, 103, 13, 14, 15] [13, 14] (con37 (es) (es[i_24.toNat]!.sku) (by (with_reducible assumption))) ?_
  refine sn ?_
  refine sq ?_
  refine st_join (σ' := ⟨[(0, .sl (List.map c28 es)), (101, .sl (List.map c28 es)), (102, .i .i64 ((↑es.length : Int))), (103, .i .i64 (i_24)), (129, .b (decide (¬(lineR es es[i_24.toNat]!.sku).snd = (0 : Int) ∨ ¬(lineR es es[i_24.toNat]!.sku).fst.sku = es[i_24.toNat]!.sku ∨ (lineR es es[i_24.toNat]!.sku).fst.qty < es[i_24.toNat]!.qty)))], []⟩) ?_ ?_
  refine st_split (¬(lineR es es[i_24.toNat]!.sku).snd = (0 : Int)) (fun h_30 => ?_) (fun h_30 => ?_)
  refine rg (A := (AV.b ((lineR es es[i_24.toNat]!.sku).snd != (0 : Int)) = AV.b true) ∧ (AV.b true = AV.b (decide (¬(lineR es es[i_24.toNat]!.sku).snd = (0 : Int) ∨ ¬(lineR es es[i_24.toNat]!.sku).fst.sku = es[i_24.toNat]!.sku ∨ (lineR es es[i_24.toNat]!.sku).fst.qty < es[i_24.toNat]!.qty)))) cx [(1, { tell := some (.b (true)) }), (15, { tell := some (.b (decide (¬(lineR es es[i_24.toNat]!.sku).snd = (0 : Int) ∨ ¬(lineR es es[i_24.toNat]!.sku).fst.sku = es[i_24.toNat]!.sku ∨ (lineR es es[i_24.toNat]!.sku).fst.qty < es[i_24.toNat]!.qty))) })] [0, 101, 102, 103, 129] [] ⟨(told_neqt h_30), (by simp only [eq_false h_30, told_simp1, told_simp2, and_true, true_and, and_false, false_and, or_true, true_or, or_false, false_or, not_true_eq_false, not_false_eq_true, decide_true, decide_false, Bool.decide_eq_true])⟩ ?_
  exact ⟨rfl, by kernel_rfl⟩
  refine st_split (¬(lineR es es[i_24.toNat]!.sku).fst.sku = es[i_24.toNat]!.sku) (fun h_31 => ?_) (fun h_31 => ?_)
  refine rg (A := (AV.b ((lineR es es[i_24.toNat]!.sku).snd != (0 : Int)) = AV.b (decide ¬(lineR es es[i_24.toNat]!.sku).snd = (0 : Int))) ∧ _ ∧ ((AV.b !(lineR es es[i_24.toNat]!.sku).fst.sku.toList == es[i_24.toNat]!.sku.toList) = AV.b true) ∧ (AV.b true = AV.b (decide (¬(lineR es es[i_24.toNat]!.sku).snd = (0 : Int) ∨ ¬(lineR es es[i_24.toNat]!.sku).fst.sku = es[i_24.toNat]!.sku ∨ (lineR es es[i_24.toNat]!.sku).fst.qty < es[i_24.toNat]!.qty)))) cx [(1, { tell := some (.b (decide ¬(lineR es es[i_24.toNat]!.sku).snd = (0 : Int))) }), (2, { tell := some (.b (false)) }), (7, { tell := some (.b (true)) }), (15, { tell := some (.b (decide (¬(lineR es es[i_24.toNat]!.sku).snd = (0 : Int) ∨ ¬(lineR es es[i_24.toNat]!.sku).fst.sku = es[i_24.toNat]!.sku ∨ (lineR es es[i_24.toNat]!.sku).fst.qty < es[i_24.toNat]!.qty))) })] [0, 101, 102, 103, 129] [] ⟨(told_neq), (told_false h_30), (told_snet h_31), (by simp only [eq_false h_30, eq_false h_31, told_simp1, told_simp2, and_true, true_and, and_false, false_and, or_true, true_or, or_false, false_or, not_true_eq_false, not_false_eq_true, decide_true, decide_false, Bool.decide_eq_true])⟩ ?_
  exact ⟨rfl, by kernel_rfl⟩
  refine rg (A := (AV.b ((lineR es es[i_24.toNat]!.sku).snd != (0 : Int)) = AV.b (decide ¬(lineR es es[i_24.toNat]!.sku).snd = (0 : Int))) ∧ _ ∧ ((AV.b !(lineR es es[i_24.toNat]!.sku).fst.sku.toList == es[i_24.toNat]!.sku.toList) = AV.b (decide ¬(lineR es es[i_24.toNat]!.sku).fst.sku = es[i_24.toNat]!.sku)) ∧ _ ∧ (AV.b (decide ((lineR es es[i_24.toNat]!.sku).fst.qty < es[i_24.toNat]!.qty)) = AV.b (decide ((lineR es es[i_24.toNat]!.sku).fst.qty < es[i_24.toNat]!.qty))) ∧ (AV.b (decide ((lineR es es[i_24.toNat]!.sku).fst.qty < es[i_24.toNat]!.qty)) = AV.b (decide (¬(lineR es es[i_24.toNat]!.sku).snd = (0 : Int) ∨ ¬(lineR es es[i_24.toNat]!.sku).fst.sku = es[i_24.toNat]!.sku ∨ (lineR es es[i_24.toNat]!.sku).fst.qty < es[i_24.toNat]!.qty)))) cx [(1, { tell := some (.b (decide ¬(lineR es es[i_24.toNat]!.sku).snd = (0 : Int))) }), (2, { tell := some (.b (false)) }), (7, { tell := some (.b (decide ¬(lineR es es[i_24.toNat]!.sku).fst.sku = es[i_24.toNat]!.sku)) }), (8, { tell := some (.b (false)) }), (14, { tell := some (.b (decide ((lineR es es[i_24.toNat]!.sku).fst.qty < es[i_24.toNat]!.qty))) }), (15, { tell := some (.b (decide (¬(lineR es es[i_24.toNat]!.sku).snd = (0 : Int) ∨ ¬(lineR es es[i_24.toNat]!.sku).fst.sku = es[i_24.toNat]!.sku ∨ (lineR es es[i_24.toNat]!.sku).fst.qty < es[i_24.toNat]!.qty))) })] [0, 101, 102, 103, 129] [] ⟨(told_neq), (told_false h_30), (told_sne), (told_false h_31), (by kernel_rfl), (by simp only [eq_false h_30, eq_false h_31, told_simp1, told_simp2, and_true, true_and, and_false, false_and, or_true, true_or, or_false, false_or, not_true_eq_false, not_false_eq_true, decide_true, decide_false, Bool.decide_eq_true])⟩ ?_
  exact ⟨rfl, by kernel_rfl⟩
  refine sn ?_
  refine st_dec (¬(lineR es es[i_24.toNat]!.sku).snd = (0 : Int) ∨ ¬(lineR es es[i_24.toNat]!.sku).fst.sku = es[i_24.toNat]!.sku ∨ (lineR es es[i_24.toNat]!.sku).fst.qty < es[i_24.toNat]!.qty) (by kernel_rfl) (by kernel_rfl) (fun h_32 => ?_) (fun h_32 => ?_)
  refine sq ?_
  refine rg (A := True) cx [] [2] [] trivial ?_
  refine sn ?_
  refine st_ret (by kernel_rfl) ?_
  refine q_blk_ret ?_
  refine q_seq_ret ?_
  refine q_seq_ret ?_
  refine q_blk_ret ?_
  refine q_seq_ret ?_
  refine q_ret (r := .b (false)) (obl := []) (by kernel_rfl) trivial (AVle.eq (show AV.b false = AV.b true from ?g15)); rotate_left 1
  refine st_skip (by kernel_rfl) ?_
  refine q_blk_normal ?_
  refine sn ?_
  refine rg (A := (AV.i IntKind.i64 (IntKind.i64.wrap (i_24 + (1 : Int))) = AV.i IntKind.i64 (i_24 + (1 : Int)))) cx [(0, { tell := some (.i .i64 (i_24 + (1 : Int))) })] [0, 101, 102, 103] [] (told_i64 (by omega) (by omega)) ?_
  refine sn ?_
  refine loop_next (i_24 + (1 : Int)) (by kernel_rfl) (show ((↑es.length : Int) - (i_24 + (1 : Int))).toNat < ((↑es.length : Int) - i_24).toNat from (by omega)) (show invB es (i_24 + (1 : Int)) from ?g16); rotate_left 1
  refine st_exit 2 (by kernel_rfl) ?_
  refine q_seq_exit ?_
  refine q_seq_exit ?_
  refine q_blk_hit ?_
  refine sn ?_
  refine sq ?_
  refine rg (A := True) cx [] [2] [] trivial ?_
  refine sn ?_
  refine st_ret (by kernel_rfl) ?_
  exact q_ret (r := .b (true)) (obl := []) (by kernel_rfl) trivial (AVle.refl _)
  revert h_0; rotate_left
  revert h_0 h_3; rotate_left
  revert h_0 h_3; rotate_left
  revert h_0 h_3 parts_4 sum_5 i_6 h_8 h_9 h_10 h_11 h_12 h_14; rotate_left
  revert h_0 h_3 parts_4 sum_5 i_6 h_8 h_9 h_10 h_11 h_12 h_15; rotate_left
  revert h_0 h_3 parts_4 sum_5 i_6 h_8 h_9 h_10 h_11 h_12 h_15 h_19; rotate_left
  revert h_0 h_3 parts_4 sum_5 i_6 h_8 h_9 h_10 h_11 h_12 h_15 h_19; rotate_left
  revert h_0 h_3 parts_4 sum_5 i_6 h_8 h_9 h_10 h_11 h_12 h_15 h_19; rotate_left
  revert h_0 h_3 parts_4 sum_5 i_6 h_8 h_9 h_10 h_11 h_12 h_15 h_19; rotate_left
  revert h_0 h_3 parts_4 sum_5 i_6 h_8 h_9 h_10 h_11 h_12 h_15 h_19; rotate_left
  revert h_0 h_3 parts_4 sum_5 i_6 h_8 h_9 h_10 h_11 h_12 h_15 h_19; rotate_left
  revert h_0 h_3 parts_4 sum_5 i_6 h_8 h_9 h_10 h_11 h_12 h_15 h_19; rotate_left
  revert h_0 h_3 parts_4 sum_5 i_6 h_8 h_9 h_10 h_11 h_12 h_15 h_19; rotate_left
  revert h_0 h_3 parts_4 sum_5 i_6 h_8 h_9 h_10 h_11 h_12 h_23; rotate_left
  revert h_0 h_3 parts_4 sum_5 i_6 h_8 h_9 h_10 h_11 h_12 h_23; rotate_left
  revert h_0 h_3 parts_4 sum_5 i_6 h_8 h_9 h_10 h_11 h_12 h_23 i_24 h_26 h_27 h_28 h_32; rotate_left
  revert h_0 h_3 parts_4 sum_5 i_6 h_8 h_9 h_10 h_11 h_12 h_23 i_24 h_26 h_27 h_28 h_32; rotate_left
  case g0 => intro h; rw [linesV_no h]; rfl
  case g1 => intro h h1; rw [linesV_ok (Classical.not_not.1 h)] at h1; exact absurd rfl h1
  case g2 => intro _ _; exact ⟨by omega, by omega, rfl, rfl⟩
  case g3 => intro h _ p s i h0 h1 h2 h3 h4 h5; have := linesU_len es; omega
  case g4 => intro h _ p s i h0 h1 h2 h3 h4 h5; rw [linesV_ok (Classical.not_not.1 h)] at h4 h5; exact absurd (lineU_up h5.1 h4) h5.2
  case g5 =>
    intro h _ p s i h0 h1 h2 h3 h4 _ h5
    rw [linesV_ok (Classical.not_not.1 h)] at h4 h5
    obtain ⟨k1, k2⟩ := lineU_at (Classical.not_not.1 h) h0 h4
    rw [k1] at h5
    rcases h5 with h5 | h5 | h5
    · exact absurd rfl h5
    · exact absurd rfl h5
    · simp only at h5; omega
  case g6 => intro h _ p s i h0 h1 h2 h3 h4 _ _; rw [linesV_ok (Classical.not_not.1 h)] at h4 ⊢; have := lineU_bound (Classical.not_not.1 h) h0 h4; simp only; omega
  case g7 => intro h _ p s i h0 h1 h2 h3 h4 _ _; rw [linesV_ok (Classical.not_not.1 h)] at h4 ⊢; have := lineU_bound (Classical.not_not.1 h) h0 h4; simp only; omega
  case g8 => intro h _ p s i h0 h1 h2 h3 h4 _ _; rw [linesV_ok (Classical.not_not.1 h)] at h4 ⊢; have := lineU_bound (Classical.not_not.1 h) h0 h4; simp only; omega
  case g9 => intro h _ p s i h0 h1 h2 h3 h4 _ _; rw [linesV_ok (Classical.not_not.1 h)] at h4 ⊢; have := lineU_bound (Classical.not_not.1 h) h0 h4; simp only; omega
  case g10 => intro h _ p s i h0 h1 h2 h3 h4 _ _; have := linesU_len es; omega
  case g11 => intro h _ p s i h0 h1 h2 h3 h4 _ _; rw [linesV_ok (Classical.not_not.1 h)] at h4; simp only at h4; omega
  case g12 =>
    intro h _ p s i h0 h1 h2 h3 h4 _ _
    rw [linesV_ok (Classical.not_not.1 h)] at h4 ⊢
    refine ⟨by omega, by simp only at h4; omega, ?_, ?_⟩
    · rw [h2]; unfold partL; rw [sumF_step _ h0 h4]
    · rw [h3]; unfold qtyL; rw [sumF_step _ h0 h4]
  case g13 =>
    intro h _ p s i h0 h1 h2 h3 h4 h5
    rw [linesV_ok (Classical.not_not.1 h)] at h4
    rw [totR_ok (Classical.not_not.1 h)] at h5
    obtain ⟨k1, k2⟩ := lines_sums es
    rw [List.take_of_length_le (by simp only at h4; omega)] at h2 h3
    rcases h5 with h5 | h5 | h5
    · exact absurd rfl h5
    · exact absurd (by rw [h3, k2]) h5
    · exact absurd (by rw [h2, k1]) h5
  case g14 => intros; exact ⟨by omega, by omega⟩
  case g15 =>
    intro h _ p s i h0 h1 h2 h3 h4 _ j k0 k1 k2 h5
    have he : es[j.toNat]! ∈ es := bang_mem (by omega)
    rw [line_at (Classical.not_not.1 h) he] at h5
    rcases h5 with h5 | h5 | h5
    · exact absurd rfl h5
    · exact absurd rfl h5
    · have := sumE_mem (l := ofSku es es[j.toNat]!.sku) (fun e he => okL_mem (Classical.not_not.1 h) e (List.mem_filter.1 he).1) (e := es[j.toNat]!) (List.mem_filter.2 ⟨he, by simp⟩)
      unfold lineOf at h5
      simp only at h5
      omega
  case g16 => intro h _ p s i h0 h1 h2 h3 h4 _ j k0 k1 k2 _; exact ⟨by omega, by omega⟩
end Go.Proofs.Ytjngmlkaijpbgaa
namespace Go.Proofs.Ytjngmlkaijpbgaa
open Go.E Go.ChangeShapes Go.WideShapes Go.ChangeAt Go.RowKit
set_option maxRecDepth 100000
theorem law9 {L : Nat} {a1 : AV} (h1 : TyA tab L 9 22 a1) : Con Try.prog 9 [a1] (.b true) := by
  obtain ⟨x1, rfl, k1⟩ := ta22 h1
  exact con9 x1 k1.1.2
theorem LinesAdds_lifted (os : Os) (started : os.Started) (H : Type) (enc : TypeId × Value → H) :
    ReturnsInHanded {} Try.checked os 9 .any (Rows.linesAddsSpec.pre6 enc Try.prog Try.f9 Rows.linesAddsRow.domain false) (Rows.linesAddsSpec.post enc Try.prog Try.f9 false true false false) := by
  refine law_lifted (C := Try.checked) [22] 4 9 tab_ok Try.laidOut Try.own started (by kernel_rfl) Try.func9 rfl rfl (by kernel_rfl) (by kernel_rfl) rfl ?_
    (ChangeSpec.witness6 (enc := enc) (C := Try.checked) false ⟨#[], #[.slice none 0 0], []⟩ 8 (by kernel_rfl) (by kernel_rfl) (by kernel_rfl) (by kernel_rfl)) ?_
  · intro ds hds
    rcases ds with _ | ⟨d1, _ | ⟨d2, l⟩⟩
    · exact absurd hds (by simp)
    · kernel_rfl
    · exact absurd hds (by simp)
  · intro L avs h
    rcases avs with _ | ⟨a1, _ | ⟨a2, l⟩⟩
    · exact h.elim
    · exact law9 h.1
    · exact h.2.elim
theorem LinesAdds_holds : Rows.LinesAddsSaid :=
  OpenClaim.holds_of_wide 9 Try.f9 rfl rfl rfl rfl rfl rfl rfl ⟨rfl, rfl, rfl, rfl, rfl⟩ rfl rfl rfl rfl rfl (by kernel_rfl) Try.func9 (by kernel_rfl)
    (of_decide_eq_true (by kernel_rfl)) (by unfold Func.isWrapper; first | (rw [if_pos (by decide +kernel)]; kernel_rfl) | (rw [if_neg (by decide +kernel)]; exact ⟨rfl, rfl⟩))
    (fun os started H enc _ => LinesAdds_lifted os started H enc)
end Go.Proofs.Ytjngmlkaijpbgaa
namespace Go.Proofs.Ytjngmlkaijpbgaa
end Go.Proofs.Ytjngmlkaijpbgaa
