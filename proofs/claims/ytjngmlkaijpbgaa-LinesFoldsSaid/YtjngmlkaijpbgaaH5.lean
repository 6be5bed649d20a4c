/- Lf: lines: Sort, Find and what the document says of them. Conditions: sizes. Lk: lines: the document's Lines and Line. Conditions: sizes. Li: LinesReads. Conditions: sizes. -/
import Derived.Test.YtjngmlkaijpbgaaH4
set_option linter.unusedVariables false
set_option linter.unusedSimpArgs false
namespace Go.Proofs.Ytjngmlkaijpbgaa
open Go.E
set_option maxRecDepth 100000
set_option maxHeartbeats 4000000
def laterV (a b : Entry) (m : Int) : Bool := if m = 1 then decide (¬ (sLt a.sku b.sku = true ∨ a.sku = b.sku)) else dLt b.dot a.dot
def leM (m : Int) (a b : Entry) : Bool := !laterV a b m
def inv57 (s : List Entry) (i : Int) (l : List Entry) : Prop := 0 ≤ i ∧ i ≤ s.length ∧ onceN s i.toNat = some l ∧ (l.length : Int) ≤ i
def dec57 (s : List Entry) (i : Int) (l : List Entry) : Nat := (s.length - i).toNat
def inv25c (s : List Entry) (i : Int) (a l : List Entry) : Prop := a = s ∧ 0 ≤ i ∧ i ≤ s.length ∧ onceN s i.toNat = some l ∧ (l.length : Int) ≤ i
def dec25c (s : List Entry) (i : Int) (a l : List Entry) : Nat := (s.length - i).toNat
def findE (es : List Entry) (d : Dot) : Entry × Bool := match es.find? (fun e => decide (e.dot = d)) with | some e => (e, true) | none => (default, false)
def inv28 (es : List Entry) (d : Dot) (i r n a b : Int) (s : ByteArray) (q : Int) : Prop := 0 ≤ i ∧ i ≤ es.length ∧ r = d.rep ∧ n = d.num ∧ ∀ j : Nat, (j : Int) < i → ¬ es[j]!.dot = d
def dec28 (es : List Entry) (i r n a b : Int) (s : ByteArray) (q : Int) : Nat := (es.length - i).toNat
def isPre {α : Type} (es : List α) (i : Int) (l : List α) : Prop := l = es.take i.toNat
def inv58a (es : List Entry) (i : Int) (l : List Entry) : Prop := 0 ≤ i ∧ i ≤ es.length ∧ (l.length : Int) = i ∧ isPre es i l
def dec58a (es : List Entry) (i : Int) (l : List Entry) : Nat := (es.length - i).toNat
theorem sortR_bad {es : List Entry} {i : Nat} (hi : i < es.length) (hb : ¬ entE es[i]! = 0) (hok : ∀ j : Nat, j < i → entE es[j]! = 0) : sortR es = ([], entE es[i]!) := by
  have := errL_bad hi hb hok
  unfold sortR
  rw [this, if_neg hb]
theorem sortR_ok {es : List Entry} (hok : ∀ j : Nat, j < es.length → entE es[j]! = 0) : sortR es = onceR (srtE es) := by
  unfold sortR
  rw [if_pos (errL_ok hok)]
theorem onceN_next {s l : List Entry} {i : Int} (h0 : 0 ≤ i) (h : onceN s i.toNat = some l) :
    onceN s (i + 1).toNat = if ¬ (0 < i ∧ s[(i - 1).toNat]!.dot = s[i.toNat]!.dot) then some (l ++ [s[i.toNat]!]) else if s[(i - 1).toNat]! = s[i.toNat]! then some l else none := by
  have e : (i + 1).toNat = i.toNat + 1 := by omega
  have e2 : (i - 1).toNat = i.toNat - 1 := by omega
  rw [e, onceN, h, e2]
  have hc : (i.toNat = 0 ∨ s[i.toNat - 1]!.dot ≠ s[i.toNat]!.dot) ↔ ¬ (0 < i ∧ s[i.toNat - 1]!.dot = s[i.toNat]!.dot) := by
    constructor
    · rintro (h | h) ⟨h1, h2⟩
      · omega
      · exact h h2
    · intro h
      by_cases z : i.toNat = 0
      · exact .inl z
      · exact .inr fun g => h ⟨by omega, g⟩
  simp only [hc]
theorem once_app {s l : List Entry} {i : Int} (h0 : 0 ≤ i) (h : onceN s i.toNat = some l) (hi : i < s.length) (hl : (l.length : Int) ≤ i) (hc : ¬ (0 < i ∧ s[(i - 1).toNat]!.dot = s[i.toNat]!.dot)) : inv57 s (i + 1) (l ++ [s[i.toNat]!]) :=
  ⟨by omega, by omega, by rw [onceN_next h0 h, if_pos hc], by simp; omega⟩
theorem once_skip {s l : List Entry} {i : Int} (h0 : 0 ≤ i) (h : onceN s i.toNat = some l) (hi : i < s.length) (hl : (l.length : Int) ≤ i) (hc : 0 < i ∧ s[(i - 1).toNat]!.dot = s[i.toNat]!.dot) (he : ¬ ¬ s[(i - 1).toNat]! = s[i.toNat]!) : inv57 s (i + 1) l :=
  ⟨by omega, by omega, by rw [onceN_next h0 h, if_neg (fun k => k hc), if_pos (Classical.not_not.1 he)], by omega⟩
theorem once_clash {s l : List Entry} {i : Int} (h0 : 0 ≤ i) (h : onceN s i.toNat = some l) (hi : i < s.length) (hc : 0 < i ∧ s[(i - 1).toNat]!.dot = s[i.toNat]!.dot) (he : ¬ s[(i - 1).toNat]! = s[i.toNat]!) : onceR s = ([], 10) := by
  have h1 : onceN s (i + 1).toNat = none := by rw [onceN_next h0 h, if_neg (fun k => k hc), if_neg he]
  have h2 := onceN_none h1 (s.length - (i + 1).toNat)
  rw [show (i + 1).toNat + (s.length - (i + 1).toNat) = s.length by omega] at h2
  unfold onceR
  rw [h2]
theorem once_end {s l : List Entry} {i : Int} (h0 : 0 ≤ i) (h : onceN s i.toNat = some l) (h1 : i ≤ s.length) (hi : ¬ i < s.length) : onceR s = (l, 0) := by
  unfold onceR
  rw [show s.length = i.toNat by omega, h]
theorem flip_dot {s : List Entry} {i : Int} (h0 : 0 ≤ i) : (i = 0 ∨ ¬ s[i.toNat]!.dot = s[(i - 1).toNat]!.dot) ↔ ¬ (0 < i ∧ s[(i - 1).toNat]!.dot = s[i.toNat]!.dot) := by
  constructor
  · rintro (h | h) ⟨h1, h2⟩
    · omega
    · exact h h2.symm
  · intro h
    by_cases z : i = 0
    · exact .inl z
    · exact .inr fun g => h ⟨by omega, g.symm⟩
theorem inv58a_init (es : List Entry) : inv58a es 0 [] := ⟨by omega, by omega, by simp, by simp [isPre]⟩
theorem inv58a_step {es l : List Entry} {i : Int} (h0 : 0 ≤ i) (h : i < es.length) (hl : (l.length : Int) = i) (hn : isPre es i l) : inv58a es (i + 1) (l ++ [es[i.toNat]!]) :=
  ⟨by omega, by omega, by simp; omega, by unfold isPre at *; rw [hn, take_step h0 h]⟩
theorem inv58a_done {es l : List Entry} {i m : Int} (h0 : i ≤ es.length) (h : ¬ i < es.length) (hl : (l.length : Int) = i) (hn : isPre es i l) : invB1 (leM m) es l.length 1 l := by
  have e : l = es := by unfold isPre at hn; rw [hn, List.take_of_length_le (by omega)]
  rw [e]
  exact invB1_init rfl
theorem leM_iff (m : Int) (a b : Entry) : leM m a b = true ↔ ¬ laterV a b m = true := by unfold leM; cases laterV a b m <;> simp
theorem invB3_leftM {C D : Prop} {k : Int} {l : List Entry} {f mid e i j : Int} {m0 l' m : List Entry} (h6 : m ++ List.merge (subP l i mid) (subP l j e) (leM k) = m0 ++ List.merge (subP l f mid) (subP l mid e) (leM k)) (hle : C ∨ (D ∧ ¬ laterV l'[i.toNat]! l'[j.toNat]! k = true)) (hC : C → e ≤ j) (hf : 0 ≤ f) (hm : mid ≤ l.length) (he : e ≤ l.length) (h0 : l' = l) (h1 : f ≤ i) (h2 : i ≤ mid) (h3 : mid ≤ j) (h4 : j ≤ e) (h5 : (m.length : Int) = i + (j - mid))
    (hi : i < mid) : invB3 (leM k) l f mid e m0 (i + 1) j l' (m ++ [l'[i.toNat]!]) :=
  invB3_left hf hm he h0 h1 h2 h3 h4 h5 h6 hi (hle.imp hC fun h => (leM_iff _ _ _).2 h.2)
theorem invB3_leftJ {k : Int} {l : List Entry} {f mid e i j : Int} {m0 l' m : List Entry} (h6 : m ++ List.merge (subP l i mid) (subP l j e) (leM k) = m0 ++ List.merge (subP l f mid) (subP l mid e) (leM k)) (hle : e ≤ j) (hf : 0 ≤ f) (hm : mid ≤ l.length) (he : e ≤ l.length) (h0 : l' = l) (h1 : f ≤ i) (h2 : i ≤ mid) (h3 : mid ≤ j) (h4 : j ≤ e) (h5 : (m.length : Int) = i + (j - mid))
    (hi : i < mid) : invB3 (leM k) l f mid e m0 (i + 1) j l' (m ++ [l'[i.toNat]!]) :=
  invB3_left hf hm he h0 h1 h2 h3 h4 h5 h6 hi (.inl hle)
theorem invB3_rightM {C D : Prop} {k : Int} {l : List Entry} {f mid e i j : Int} {m0 l' m : List Entry} (h6 : m ++ List.merge (subP l i mid) (subP l j e) (leM k) = m0 ++ List.merge (subP l f mid) (subP l mid e) (leM k)) (hle : ¬ (C ∨ (D ∧ ¬ laterV l'[i.toNat]! l'[j.toNat]! k = true))) (hD : i < mid → D) (hf : 0 ≤ f) (hm : mid ≤ l.length) (he : e ≤ l.length) (h0 : l' = l) (h1 : f ≤ i) (h2 : i ≤ mid) (h3 : mid ≤ j) (h4 : j ≤ e) (h5 : (m.length : Int) = i + (j - mid))
    (hj : j < e) : invB3 (leM k) l f mid e m0 i (j + 1) l' (m ++ [l'[j.toNat]!]) :=
  invB3_right hf hm he h0 h1 h2 h3 h4 h5 h6 hj fun h => hle (.inr ⟨hD h.1, (leM_iff _ _ _).1 h.2⟩)
theorem fin58 {es l : List Entry} {n w m : Int} (hb : botS (leM m) w.toNat l = botS (leM m) 1 es) (hl : (l.length : Int) = n) (h : ¬ w < n) (hw : 1 ≤ w) : AV.sl (l.map c28) = AV.sl ((botS (leM m) 1 es).map c28) := by
  rw [← hb, botS_done _ (by omega)]
theorem dot_eta (d : Dot) : (⟨d.rep, d.num⟩ : Dot) = d := rfl
theorem find_at {es : List Entry} {d : Dot} : ∀ {i : Nat}, i < es.length → es[i]!.dot = d → (∀ j : Nat, j < i → ¬ es[j]!.dot = d) → findE es d = (es[i]!, true) := by
  induction es with
  | nil => intro i hi; simp at hi
  | cons e es ih =>
    intro i hi hb hok
    cases i with
    | zero =>
      have hb' : e.dot = d := by simpa using hb
      unfold findE
      simp [List.find?_cons, hb']
    | succ i =>
      have h0 : ¬ e.dot = d := by simpa using hok 0 (by omega)
      have := ih (i := i) (by simpa using hi) (by simpa using hb) (fun j hj => by simpa using hok (j + 1) (by omega))
      unfold findE at this ⊢
      simpa [List.find?_cons, h0] using this
theorem find_no {es : List Entry} {d : Dot} (h : ∀ j : Nat, j < es.length → ¬ es[j]!.dot = d) : findE es d = (default, false) := by
  unfold findE
  have : es.find? (fun e => decide (e.dot = d)) = none := by
    rw [List.find?_eq_none]
    intro x hx
    obtain ⟨j, hj, rfl⟩ := List.mem_iff_getElem.1 hx
    have := h j hj
    rw [getElem!_pos es j hj] at this
    simpa using this
  rw [this]
theorem con76 (a b : Entry) (m : Int) : Con Try.prog 76 [.agg (c28 a), .agg (c28 b), .i .i64 m] (.b (laterV a b m)) :=
  by
  refine st_con tab_ok (by kernel_rfl) [.tmp 6] 19 Go.Proofs.Try.func76 (by kernel_rfl) (by kernel_rfl) ?_
  intro e0 cx
  refine sq ?_
  refine rg (A := True) cx [] [2, 3, 4] [3, 4] trivial ?_
  refine sn ?_
  refine sq ?_
  refine sq ?_
  refine rg (A := (AV.b (m == (1 : Int)) = AV.b (decide (m = (1 : Int))))) cx [(1, { tell := some (.b (decide (m = (1 : Int)))) })] [3, 4, 8] [3, 4] (by kernel_rfl) ?_
  refine sn ?_
  refine st_dec (m = (1 : Int)) (by kernel_rfl) (by kernel_rfl) (fun h_0 => ?_) (fun h_0 => ?_)
  refine sq ?_
  refine rg (A := ((AV.b !(Op.bytesLess a.sku.toList b.sku.toList || a.sku.toList == b.sku.toList)) = AV.b (decide ¬(sLt a.sku b.sku = true ∨ a.sku = b.sku)))) cx [(4, { tell := some (.b (decide ¬(sLt a.sku b.sku = true ∨ a.sku = b.sku))) })] [6] [] (told_sgt) ?_
  refine sn ?_
  refine st_ret (by kernel_rfl) ?_
  refine q_seq_ret ?_
  refine q_ret (r := .b (decide ¬(sLt a.sku b.sku = true ∨ a.sku = b.sku))) (obl := []) (by kernel_rfl) trivial (AVle.eq (show AV.b (decide ¬(sLt a.sku b.sku = true ∨ a.sku = b.sku)) = AV.b (laterV a b m) from ?g0)); rotate_left 1
  refine st_skip (by kernel_rfl) ?_
  refine sn ?_
  refine sq ?_
  refine rg (A := _) cx [(4, { val := some (.b (dLt b.dot a.dot)) })] [6] [] (con49 (b.dot) (a.dot)) ?_
  refine sn ?_
  refine st_ret (by kernel_rfl) ?_
  refine q_ret (r := .b (dLt b.dot a.dot)) (obl := []) (by kernel_rfl) trivial (AVle.eq (show AV.b (dLt b.dot a.dot) = AV.b (laterV a b m) from ?g1)); rotate_left 1
  revert h_0; rotate_left
  revert h_0; rotate_left
  case g0 => exact (fun h => by rw [laterV, if_pos h])
  case g1 => exact (fun h => by rw [laterV, if_neg h])
theorem con25 (es : List Entry) (hl : es.length * 40 ≤ 140737488355328) : Con Try.prog 25 [.sl (es.map c28)] (.tup [.sl ((sortR es).1.map c28), .i .i64 (sortR es).2]) :=
  by
  have hL : (es.mergeSort fun x y => !ltE y x).length = es.length := by simp
  have hS := srtE_length es
  refine con_lens 0 (c28) (es) (by kernel_rfl) Go.Proofs.Try.func25 (by kernel_rfl) fun hl_0 => ?_
  refine st_con tab_ok (by kernel_rfl) [.tmp 2, .tmp 3] 62 Go.Proofs.Try.func25 (by kernel_rfl) (by kernel_rfl) ?_
  intro e0 cx
  refine sq ?_
  refine rg (A := True) cx [] [0] [] trivial ?_
  refine sn ?_
  refine sq ?_
  refine sq ?_
  refine rg (A := _) cx [(1, { tell := some (.i .i64 ((↑es.length : Int))) })] [0, 11, 12, 13] [] (told_len c28 es) ?_
  refine sn ?_
  refine st_block 0 (by kernel_rfl) ?_
  refine st_loop (X := Int) (fun x => ⟨[(0, .sl (List.map c28 es)), (11, .sl (List.map c28 es)), (12, .i .i64 ((↑es.length : Int))), (13, .i .i64 (x))], []⟩) (fun x ↦ dec30i es x) (fun x ↦ inv25a es x) [0, 11, 12, 13] [] ((0 : Int)) (by kernel_rfl) (by kernel_rfl) (show inv25a es (0 : Int) from ?g0) ?_; rotate_left 1
  intro i_0 h_1
  obtain ⟨h_2, h_3, h_4⟩ : (0 : Int) ≤ i_0 ∧ i_0 ≤ (↑es.length : Int) ∧ ∀ (j : Nat), (↑j : Int) < i_0 → entE es[j]! = (0 : Int) := h_1
  refine sq ?_
  refine rg (A := (AV.b (decide (i_0 < (↑es.length : Int))) = AV.b (decide (i_0 < (↑es.length : Int))))) cx [(0, { tell := some (.b (decide (i_0 < (↑es.length : Int)))) })] [0, 11, 12, 13, 14] [] (by kernel_rfl) ?_
  refine sn ?_
  refine sq ?_
  refine st_dec (i_0 < (↑es.length : Int)) (by kernel_rfl) (by kernel_rfl) (fun h_5 => ?_) (fun h_5 => ?_)
  refine st_skip (by kernel_rfl) ?_
  refine sn ?_
  refine sq ?_
  refine st_block 1 (by kernel_rfl) ?_
  refine sq ?_
  refine rg (A := ((0 : Int) ≤ i_0) ∧ ((List.map c28 es)[i_0.toNat]? = some (c28 es[i_0.toNat]!)) ∧ ((c28 es[i_0.toNat]!).length = (4 : Nat)) ∧ ((4 : Nat) ≤ [AV.i IntKind.i64 es[i_0.toNat]!.dot.rep, AV.i IntKind.i64 es[i_0.toNat]!.dot.num, AV.s es[i_0.toNat]!.sku, AV.i IntKind.i64 es[i_0.toNat]!.qty].length)) cx [(0, { row := (c28 es[i_0.toNat]!) })] [0, 11, 12, 13, 5] [5] ⟨(by (with_reducible assumption)), (by (with_reducible refine get_map ?_; omega)), (by kernel_rfl), (by (simp only [List.length_append, List.length_cons, List.length_nil]; omega))⟩ ?_
  refine sn ?_
  refine sq ?_
  refine rg (A := _) cx [(1, { val := some (.i .i64 (entE es[i_0.toNat]!)) })] [0, 11, 12, 13, 6] [] (con14 (es[i_0.toNat]!)) ?_
  refine sn ?_
  refine sq ?_
  refine rg (A := (AV.b (entE es[i_0.toNat]! != (0 : Int)) = AV.b (decide ¬entE es[i_0.toNat]! = (0 : Int)))) cx [(1, { tell := some (.b (decide ¬entE es[i_0.toNat]! = (0 : Int))) })] [0, 11, 12, 13, 6, 20] [] (told_neq) ?_
  refine sn ?_
  refine st_dec (¬entE es[i_0.toNat]! = (0 : Int)) (by kernel_rfl) (by kernel_rfl) (fun h_6 => ?_) (fun h_6 => ?_)
  refine sq ?_
  refine rg (A := True) cx [] [2, 3] [] trivial ?_
  refine sn ?_
  refine st_ret (by kernel_rfl) ?_
  refine q_blk_ret ?_
  refine q_seq_ret ?_
  refine q_seq_ret ?_
  refine q_blk_ret ?_
  refine q_seq_ret ?_
  refine q_ret (r := .tup [.nl, .i .i64 (entE es[i_0.toNat]!)]) (obl := []) (by kernel_rfl) trivial (AVle.tup (ZLe.cons (AVle.nl' (show List.map c28 (sortR es).fst = [] from ?g2)) (ZLe.cons (AVle.eq (show AV.i IntKind.i64 (entE es[i_0.toNat]!) = AV.i IntKind.i64 (sortR es).snd from ?g1)) ZLe.nil))); rotate_left 2
  refine st_skip (by kernel_rfl) ?_
  refine q_blk_normal ?_
  refine sn ?_
  refine rg (A := (AV.i IntKind.i64 (IntKind.i64.wrap (i_0 + (1 : Int))) = AV.i IntKind.i64 (i_0 + (1 : Int)))) cx [(0, { tell := some (.i .i64 (i_0 + (1 : Int))) })] [0, 11, 12, 13] [] (told_i64 (by omega) (by omega)) ?_
  refine sn ?_
  refine loop_next (i_0 + (1 : Int)) (by kernel_rfl) (show ((↑es.length : Int) - (i_0 + (1 : Int))).toNat < ((↑es.length : Int) - i_0).toNat from (by omega)) (show inv25a es (i_0 + (1 : Int)) from ?g3); rotate_left 1
  refine st_exit 0 (by kernel_rfl) ?_
  refine q_seq_exit ?_
  refine q_seq_exit ?_
  refine q_blk_hit ?_
  refine sn ?_
  refine sq ?_
  refine rg (A := _) cx [(1, { val := some (.own (28 : Nat) (4 : Nat)), rows := some (List.map c28 es) })] [7] [24, 7] (con54 (es) (by (with_reducible assumption))) ?_
  refine sn ?_
  refine sq ?_
  refine rg (A := (AV.own (24) (0) = AV.own (24) (0)) ∧ (IOConG Try.prog (55 : FuncId) (56 : FuncId) (some (22 : Nat)) true (28 : Nat) (4 : Nat) (List.map c28 es) (List.map c28 (es.mergeSort fun x y ↦ !ltE y x)))) cx [(3, { rows := some (List.map c28 (es.mergeSort fun x y ↦ !ltE y x)) })] [7] [24, 7] ⟨(by kernel_rfl), (io55 (es) (by omega))⟩ ?_
  refine sn ?_
  refine sq ?_
  refine rg (A := True) cx [] [7, 8] [24, 7] trivial ?_
  refine sn ?_
  refine sq ?_
  refine sq ?_
  refine rg (A := _) cx [(1, { tell := some (.i .i64 ((↑(es.mergeSort fun x y ↦ !ltE y x).length : Int))) })] [7, 8, 29, 30, 31] [24, 7] (told_len c28 (es.mergeSort fun x y ↦ !ltE y x)) ?_
  refine sn ?_
  refine st_block 2 (by kernel_rfl) ?_
  refine awp_adopt 8 1008 28 4 (σ' := ⟨[(7, .ptr (7) (0) (0) (0)), (8, .own 1008 0), (29, .own 24 0), (30, .i .i64 ((↑(es.mergeSort fun x y ↦ !ltE y x).length : Int))), (31, .i .i64 ((0 : Int)))], [(24, ⟨0, 28, .row 4 (List.map c28 (es.mergeSort fun x y ↦ !ltE y x))⟩), (7, ⟨0, 22, .var [.own 24 0]⟩), (1008, ⟨0, 28, .row 4 (List.map c28 [])⟩)]⟩) (by kernel_rfl) ?_
  refine st_loop (X := Int × List Entry × List Entry) (fun x => ⟨[(7, .ptr (7) (0) (0) (0)), (8, .own 1008 0), (29, .own 24 0), (30, .i .i64 ((↑(es.mergeSort fun x y ↦ !ltE y x).length : Int))), (31, .i .i64 (x.fst))], [(24, ⟨0, 28, .row 4 (List.map c28 x.snd.fst)⟩), (7, ⟨0, 22, .var [.own 24 0]⟩), (1008, ⟨0, 28, .row 4 (List.map c28 x.snd.snd)⟩)]⟩) (fun x ↦ dec25c (srtE es) x.fst x.snd.fst x.snd.snd) (fun x ↦ inv25c (srtE es) x.fst x.snd.fst x.snd.snd) [7, 8, 29, 30, 31] [24, 7, 1008] (((0 : Int), es.mergeSort fun x y ↦ !ltE y x, [])) (by kernel_rfl) (by kernel_rfl) (show inv25c (srtE es) (0 : Int) (es.mergeSort fun x y ↦ !ltE y x) [] from ?g4) ?_; rotate_left 1
  rintro ⟨i_7, a_8, l_9⟩ h_10
  obtain ⟨h_11, h_12, h_13, h_14, h_15⟩ : a_8 = srtE es ∧ (0 : Int) ≤ i_7 ∧ i_7 ≤ (↑(srtE es).length : Int) ∧ onceN (srtE es) i_7.toNat = some l_9 ∧ (↑l_9.length : Int) ≤ i_7 := h_10
  refine sq ?_
  refine rg (A := (AV.b (decide (i_7 < (↑(es.mergeSort fun x y ↦ !ltE y x).length : Int))) = AV.b (decide (i_7 < (↑(es.mergeSort fun x y ↦ !ltE y x).length : Int))))) cx [(0, { tell := some (.b (decide (i_7 < (↑(es.mergeSort fun x y ↦ !ltE y x).length : Int)))) })] [7, 8, 29, 30, 31, 32] [24, 7, 1008] (by kernel_rfl) ?_
  refine sn ?_
  refine sq ?_
  refine st_dec (i_7 < (↑(es.mergeSort fun x y ↦ !ltE y x).length : Int)) (by kernel_rfl) (by kernel_rfl) (fun h_16 => ?_) (fun h_16 => ?_)
  refine st_skip (by kernel_rfl) ?_
  refine sn ?_
  refine sq ?_
  refine st_block 3 (by kernel_rfl) ?_
  refine sq ?_
  refine rg (A := ((0 : Int) ≤ i_7) ∧ (i_7.toNat < (List.map c28 a_8).length) ∧ ((4 : Nat) = 4) ∧ (E.rowAt { ver := 0, ty := 28, k := BK.row (4) (List.map c28 a_8) : Blk } i_7.toNat (c28 a_8[i_7.toNat]!)) ∧ (0 + (4 : Nat) ≤ (c28 a_8[i_7.toNat]!).length)) cx [(2, { row := (c28 a_8[i_7.toNat]!) })] [7, 8, 29, 30, 31, 10, 9] [24, 7, 1008, 10] ⟨(by (with_reducible assumption)), ?g5, (by kernel_rfl), ?g6, ?g7⟩ ?_; rotate_left 3
  refine sn ?_
  refine sq ?_
  refine sq ?_
  refine st_join (σ' := ⟨[(7, .ptr (7) (0) (0) (0)), (8, .own 1008 0), (29, .own 24 0), (30, .i .i64 ((↑(es.mergeSort fun x y ↦ !ltE y x).length : Int))), (31, .i .i64 (i_7)), (10, .ptr (10) (0) (0) (0)), (9, .i .i64 (i_7)), (48, .b (decide ((0 : Int) < i_7 ∧ a_8[(i_7 - (1 : Int)).toNat]!.dot = a_8[i_7.toNat]!.dot)))], [(24, ⟨0, 28, .row 4 (List.map c28 a_8)⟩), (7, ⟨0, 22, .var [.own 24 0]⟩), (1008, ⟨0, 28, .row 4 (List.map c28 l_9)⟩), (10, ⟨0, 28, .var [.i .i64 (a_8[i_7.toNat]!.dot.rep), .i .i64 (a_8[i_7.toNat]!.dot.num), .s (a_8[i_7.toNat]!.sku), .i .i64 (a_8[i_7.toNat]!.qty)]⟩)]⟩) ?_ ?_
  refine st_split ((0 : Int) < i_7) (fun h_18 => ?_) (fun h_18 => ?_)
  refine ra (A := _ ∧ (AV.i IntKind.i64 (IntKind.i64.wrap (i_7 - (1 : Int))) = AV.i IntKind.i64 (i_7 - (1 : Int))) ∧ ((0 : Int) ≤ i_7 - (1 : Int)) ∧ ((i_7 - (1 : Int)).toNat < (List.map c28 a_8).length) ∧ ((4 : Nat) = 4) ∧ (E.rowAt { ver := 0, ty := 28, k := BK.row (4) (List.map c28 a_8) : Blk } (i_7 - (1 : Int)).toNat (c28 a_8[(i_7 - (1 : Int)).toNat]!)) ∧ (0 + (2 : Nat) ≤ (c28 a_8[(i_7 - (1 : Int)).toNat]!).length) ∧ (AggEq Try.prog (26 : Nat) [AV.i IntKind.i64 a_8[(i_7 - (1 : Int)).toNat]!.dot.rep, AV.i IntKind.i64 a_8[(i_7 - (1 : Int)).toNat]!.dot.num] [AV.i IntKind.i64 a_8[i_7.toNat]!.dot.rep, AV.i IntKind.i64 a_8[i_7.toNat]!.dot.num] (decide (a_8[(i_7 - (1 : Int)).toNat]!.dot = a_8[i_7.toNat]!.dot))) ∧ (AV.b (decide (a_8[(i_7 - (1 : Int)).toNat]!.dot = a_8[i_7.toNat]!.dot)) = AV.b (decide ((0 : Int) < i_7 ∧ a_8[(i_7 - (1 : Int)).toNat]!.dot = a_8[i_7.toNat]!.dot)))) cx [(1, { tell := some (.b (true)) }), (5, { tell := some (.i .i64 (i_7 - (1 : Int))) }), (8, { row := (c28 a_8[(i_7 - (1 : Int)).toNat]!) }), (11, { val := some (.b (decide (a_8[(i_7 - (1 : Int)).toNat]!.dot = a_8[i_7.toNat]!.dot))) }), (12, { tell := some (.b (decide ((0 : Int) < i_7 ∧ a_8[(i_7 - (1 : Int)).toNat]!.dot = a_8[i_7.toNat]!.dot))) })] [7, 8, 29, 30, 31, 10, 9, 48] [24, 7, 1008, 10] ⟨(told_true h_18), (told_i64 (by omega) ?g8), (by omega), ?g9, (by kernel_rfl), ?g10, ?g11, (eq26 a_8[(i_7 - (1 : Int)).toNat]!.dot a_8[i_7.toNat]!.dot), (by simp only [eq_true h_18, told_simp1, told_simp2, and_true, true_and, and_false, false_and, or_true, true_or, or_false, false_or, not_true_eq_false, not_false_eq_true, decide_true, decide_false, Bool.decide_eq_true])⟩ ?_; rotate_left 4
  exact ⟨rfl, by kernel_rfl⟩
  refine ra (A := _ ∧ (AV.b false = AV.b (decide ((0 : Int) < i_7 ∧ a_8[(i_7 - (1 : Int)).toNat]!.dot = a_8[i_7.toNat]!.dot)))) cx [(1, { tell := some (.b (false)) }), (12, { tell := some (.b (decide ((0 : Int) < i_7 ∧ a_8[(i_7 - (1 : Int)).toNat]!.dot = a_8[i_7.toNat]!.dot))) })] [7, 8, 29, 30, 31, 10, 9, 48] [24, 7, 1008, 10] ⟨(told_false h_18), (by simp only [eq_false h_18, told_simp1, told_simp2, and_true, true_and, and_false, false_and, or_true, true_or, or_false, false_or, not_true_eq_false, not_false_eq_true, decide_true, decide_false, Bool.decide_eq_true])⟩ ?_
  exact ⟨rfl, by kernel_rfl⟩
  refine sn ?_
  refine st_dec ((0 : Int) < i_7 ∧ a_8[(i_7 - (1 : Int)).toNat]!.dot = a_8[i_7.toNat]!.dot) (by kernel_rfl) (by kernel_rfl) (fun h_19 => ?_) (fun h_19 => ?_)
  refine sq ?_
  refine sq ?_
  refine ra (A := (AV.i IntKind.i64 (IntKind.i64.wrap (i_7 - (1 : Int))) = AV.i IntKind.i64 (i_7 - (1 : Int))) ∧ ((0 : Int) ≤ i_7 - (1 : Int)) ∧ ((i_7 - (1 : Int)).toNat < (List.map c28 a_8).length) ∧ ((4 : Nat) = 4) ∧ (E.rowAt { ver := 0, ty := 28, k := BK.row (4) (List.map c28 a_8) : Blk } (i_7 - (1 : Int)).toNat (c28 a_8[(i_7 - (1 : Int)).toNat]!)) ∧ (0 + (4 : Nat) ≤ (c28 a_8[(i_7 - (1 : Int)).toNat]!).length) ∧ (AggEq Try.prog (28 : Nat) [AV.i IntKind.i64 a_8[(i_7 - (1 : Int)).toNat]!.dot.rep, AV.i IntKind.i64 a_8[(i_7 - (1 : Int)).toNat]!.dot.num, AV.s a_8[(i_7 - (1 : Int)).toNat]!.sku, AV.i IntKind.i64 a_8[(i_7 - (1 : Int)).toNat]!.qty] [AV.i IntKind.i64 a_8[i_7.toNat]!.dot.rep, AV.i IntKind.i64 a_8[i_7.toNat]!.dot.num, AV.s a_8[i_7.toNat]!.sku, AV.i IntKind.i64 a_8[i_7.toNat]!.qty] !decide ¬a_8[(i_7 - (1 : Int)).toNat]! = a_8[i_7.toNat]!)) cx [(2, { tell := some (.i .i64 (i_7 - (1 : Int))) }), (4, { row := (c28 a_8[(i_7 - (1 : Int)).toNat]!) }), (6, { val := some (.b (decide ¬a_8[(i_7 - (1 : Int)).toNat]! = a_8[i_7.toNat]!)) })] [7, 8, 29, 30, 31, 55] [24, 7, 1008] ⟨(told_i64 (by omega) ?g12), (by omega), ?g13, (by kernel_rfl), ?g14, ?g15, (aggNe_dec (eq28 a_8[(i_7 - (1 : Int)).toNat]! a_8[i_7.toNat]!))⟩ ?_; rotate_left 4
  refine sn ?_
  refine st_dec (¬a_8[(i_7 - (1 : Int)).toNat]! = a_8[i_7.toNat]!) (by kernel_rfl) (by kernel_rfl) (fun h_20 => ?_) (fun h_20 => ?_)
  refine sq ?_
  refine rg (A := True) cx [] [2, 3] [] trivial ?_
  refine sn ?_
  refine st_ret (by kernel_rfl) ?_
  refine q_seq_ret ?_
  refine q_seq_ret ?_
  refine q_blk_ret ?_
  refine q_seq_ret ?_
  refine q_seq_ret ?_
  refine q_blk_ret ?_
  refine q_seq_ret ?_
  refine q_ret (r := .tup [.nl, .i .i64 ((10 : Int))]) (obl := []) (by kernel_rfl) trivial (AVle.tup (ZLe.cons (AVle.nl' (show List.map c28 (sortR es).fst = [] from ?g17)) (ZLe.cons (AVle.eq (show AV.i IntKind.i64 (10 : Int) = AV.i IntKind.i64 (sortR es).snd from ?g16)) ZLe.nil))); rotate_left 2
  refine st_skip (by kernel_rfl) ?_
  refine sn ?_
  refine st_exit 3 (by kernel_rfl) ?_
  refine q_seq_exit ?_
  refine q_blk_hit ?_
  refine sn ?_
  refine rg (A := (AV.i IntKind.i64 (IntKind.i64.wrap (i_7 + (1 : Int))) = AV.i IntKind.i64 (i_7 + (1 : Int)))) cx [(0, { tell := some (.i .i64 (i_7 + (1 : Int))) })] [7, 8, 29, 30, 31] [24, 7, 1008] (told_i64 (by omega) ?g18) ?_; rotate_left 1
  refine sn ?_
  refine loop_next ((i_7 + (1 : Int), a_8, l_9)) (by kernel_rfl) (show ((↑(srtE es).length : Int) - (i_7 + (1 : Int))).toNat < ((↑(srtE es).length : Int) - i_7).toNat from ?g19) (show inv25c (srtE es) (i_7 + (1 : Int)) a_8 l_9 from ?g20); rotate_left 2
  refine st_skip (by kernel_rfl) ?_
  refine sn ?_
  refine rg (A := (28 = (28 : Nat)) ∧ ((4 : Nat) = 4) ∧ ([AV.i IntKind.i64 (0 : Int), AV.i IntKind.i64 (0 : Int), AV.s { data := #[] : ByteArray }, AV.i IntKind.i64 (0 : Int)].length = (4 : Nat)) ∧ (∀ (r : List AV), r ∈ List.map c28 [a_8[i_7.toNat]!] → r.length = 4) ∧ ((List.map c28 l_9).length + (List.map c28 [a_8[i_7.toNat]!]).length ≤ maxLen) ∧ (((List.map c28 l_9).length + (List.map c28 [a_8[i_7.toNat]!]).length) * (40 : Nat) ≤ (140737488355328 : Nat)) ∧ (List.map c28 l_9 ++ List.map c28 [a_8[i_7.toNat]!] = List.map c28 (l_9 ++ [a_8[i_7.toNat]!]))) cx [(3, { rows := some (List.map c28 (l_9 ++ [a_8[i_7.toNat]!])) })] [7, 8, 29, 30, 31] [24, 7, 1008] ⟨(by kernel_rfl), (by kernel_rfl), (by kernel_rfl), (by (with_reducible refine len_map (fun _ => ?_) _; kernel_rfl)), ?g21, ?g22, (by (with_reducible refine app_map ?_; kernel_rfl))⟩ ?_; rotate_left 2
  refine q_blk_normal ?_
  refine sn ?_
  refine rg (A := (AV.i IntKind.i64 (IntKind.i64.wrap (i_7 + (1 : Int))) = AV.i IntKind.i64 (i_7 + (1 : Int)))) cx [(0, { tell := some (.i .i64 (i_7 + (1 : Int))) })] [7, 8, 29, 30, 31] [24, 7, 1008] (told_i64 (by omega) ?g23) ?_; rotate_left 1
  refine sn ?_
  refine loop_next ((i_7 + (1 : Int), a_8, l_9 ++ [a_8[i_7.toNat]!])) (by kernel_rfl) (show ((↑(srtE es).length : Int) - (i_7 + (1 : Int))).toNat < ((↑(srtE es).length : Int) - i_7).toNat from ?g24) (show inv25c (srtE es) (i_7 + (1 : Int)) a_8 (l_9 ++ [a_8[i_7.toNat]!]) from ?g25); rotate_left 2
  refine st_exit 2 (by kernel_rfl) ?_
  refine q_seq_exit ?_
  refine q_seq_exit ?_
  refine q_blk_hit ?_
  refine sn ?_
  refine sq ?_
  refine rg (A := True) cx [] [2, 3] [1008] trivial ?_
  refine sn ?_
  refine st_ret (by kernel_rfl) ?_
  refine q_ret (r := .tup [.sl (List.map c28 l_9), .i .i64 ((0 : Int))]) (obl := []) (by kernel_rfl) trivial (AVle.tup (ZLe.cons (AVle.eq (show AV.sl (List.map c28 l_9) = AV.sl (List.map c28 (sortR es).fst) from ?g27)) (ZLe.cons (AVle.eq (show AV.i IntKind.i64 (0 : Int) = AV.i IntKind.i64 (sortR es).snd from ?g26)) ZLe.nil))); rotate_left 2
  rotate_left
  revert i_0 h_2 h_3 h_4 h_5 h_6; rotate_left
  revert i_0 h_2 h_3 h_4 h_5 h_6; rotate_left
  revert i_0 h_2 h_3 h_4 h_5 h_6; rotate_left
  revert i_0 h_2 h_3 h_4 h_5; rotate_left
  revert i_0 h_2 h_3 h_4 h_5 i_7 a_8 l_9 h_11 h_12 h_13 h_14 h_15 h_16; rotate_left
  revert i_0 h_2 h_3 h_4 h_5 i_7 a_8 l_9 h_11 h_12 h_13 h_14 h_15 h_16; rotate_left
  revert i_0 h_2 h_3 h_4 h_5 i_7 a_8 l_9 h_11 h_12 h_13 h_14 h_15 h_16; rotate_left
  revert i_0 h_2 h_3 h_4 h_5 i_7 a_8 l_9 h_11 h_12 h_13 h_14 h_15 h_16 h_18; rotate_left
  revert i_0 h_2 h_3 h_4 h_5 i_7 a_8 l_9 h_11 h_12 h_13 h_14 h_15 h_16 h_18; rotate_left
  revert i_0 h_2 h_3 h_4 h_5 i_7 a_8 l_9 h_11 h_12 h_13 h_14 h_15 h_16 h_18; rotate_left
  revert i_0 h_2 h_3 h_4 h_5 i_7 a_8 l_9 h_11 h_12 h_13 h_14 h_15 h_16 h_18; rotate_left
  revert i_0 h_2 h_3 h_4 h_5 i_7 a_8 l_9 h_11 h_12 h_13 h_14 h_15 h_16 h_19; rotate_left
  revert i_0 h_2 h_3 h_4 h_5 i_7 a_8 l_9 h_11 h_12 h_13 h_14 h_15 h_16 h_19; rotate_left
  revert i_0 h_2 h_3 h_4 h_5 i_7 a_8 l_9 h_11 h_12 h_13 h_14 h_15 h_16 h_19; rotate_left
  revert i_0 h_2 h_3 h_4 h_5 i_7 a_8 l_9 h_11 h_12 h_13 h_14 h_15 h_16 h_19; rotate_left
  revert i_0 h_2 h_3 h_4 h_5 i_7 a_8 l_9 h_11 h_12 h_13 h_14 h_15 h_16 h_19 h_20; rotate_left
  revert i_0 h_2 h_3 h_4 h_5 i_7 a_8 l_9 h_11 h_12 h_13 h_14 h_15 h_16 h_19 h_20; rotate_left
  revert i_0 h_2 h_3 h_4 h_5 i_7 a_8 l_9 h_11 h_12 h_13 h_14 h_15 h_16 h_19 h_20; rotate_left
  revert i_0 h_2 h_3 h_4 h_5 i_7 a_8 l_9 h_11 h_12 h_13 h_14 h_15 h_16 h_19 h_20; rotate_left
  revert i_0 h_2 h_3 h_4 h_5 i_7 a_8 l_9 h_11 h_12 h_13 h_14 h_15 h_16 h_19 h_20; rotate_left
  revert i_0 h_2 h_3 h_4 h_5 i_7 a_8 l_9 h_11 h_12 h_13 h_14 h_15 h_16 h_19; rotate_left
  revert i_0 h_2 h_3 h_4 h_5 i_7 a_8 l_9 h_11 h_12 h_13 h_14 h_15 h_16 h_19; rotate_left
  revert i_0 h_2 h_3 h_4 h_5 i_7 a_8 l_9 h_11 h_12 h_13 h_14 h_15 h_16 h_19; rotate_left
  revert i_0 h_2 h_3 h_4 h_5 i_7 a_8 l_9 h_11 h_12 h_13 h_14 h_15 h_16 h_19; rotate_left
  revert i_0 h_2 h_3 h_4 h_5 i_7 a_8 l_9 h_11 h_12 h_13 h_14 h_15 h_16 h_19; rotate_left
  revert i_0 h_2 h_3 h_4 h_5 i_7 a_8 l_9 h_11 h_12 h_13 h_14 h_15 h_16; rotate_left
  revert i_0 h_2 h_3 h_4 h_5 i_7 a_8 l_9 h_11 h_12 h_13 h_14 h_15 h_16; rotate_left
  case g1 => intro i h0 h1 h2 h3 h4; rw [sortR_bad (by omega) h4 (fun j hj => h2 j (by omega))]
  case g2 => intro i h0 h1 h2 h3 h4; rw [sortR_bad (by omega) h4 (fun j hj => h2 j (by omega))]; rfl
  case g3 =>
    intro i h0 h1 h2 h3 h4
    refine ⟨by omega, by omega, fun j hj => ?_⟩
    by_cases e : j = i.toNat
    · rw [e]; exact Classical.not_not.1 h4
    · exact h2 j (by omega)
  case g4 => intro i h0 h1 h2 h3; exact ⟨rfl, by omega, by omega, rfl, by simp⟩
  case g16 => intro i h0 h1 h2 h3 i7 a l k0 k1 k2 k3 k4 k5 k6 k7; subst k0; rw [sortR_ok (fun j hj => h2 j (by omega)), once_clash k1 k3 (by omega) k6 k7]
  case g17 => intro i h0 h1 h2 h3 i7 a l k0 k1 k2 k3 k4 k5 k6 k7; subst k0; rw [sortR_ok (fun j hj => h2 j (by omega)), once_clash k1 k3 (by omega) k6 k7]; rfl
  case g20 => intro i h0 h1 h2 h3 i7 a l k0 k1 k2 k3 k4 k5 k6 k7; subst k0; exact ⟨rfl, once_skip k1 k3 (by omega) k4 k6 k7⟩
  case g25 => intro i h0 h1 h2 h3 i7 a l k0 k1 k2 k3 k4 k5 k6; subst k0; exact ⟨rfl, once_app k1 k3 (by omega) k4 k6⟩
  case g26 => intro i h0 h1 h2 h3 i7 a l k0 k1 k2 k3 k4 k5; rw [sortR_ok (fun j hj => h2 j (by omega)), once_end k1 k3 k2 (by omega)]
  case g27 => intro i h0 h1 h2 h3 i7 a l k0 k1 k2 k3 k4 k5; rw [sortR_ok (fun j hj => h2 j (by omega)), once_end k1 k3 k2 (by omega)]
  all_goals intros
  all_goals (try subst_vars)
  all_goals first
    | omega
    | (simp only [List.length_map, List.length_append, List.length_cons, List.length_nil, Go.maxLen]; omega)
    | exact get_map (by omega)
    | exact Nat.le_of_ble_eq_true rfl
    | exact ⟨by omega, by omega, fun j hj => by omega⟩
theorem con57 (s : List Entry) (hl : s.length * 40 ≤ 140737488351232) : Con Try.prog 57 [.sl (s.map c28)] (.tup [.sl ((onceR s).1.map c28), .i .i64 (onceR s).2]) :=
  by
  refine con_lens 0 (c28) (s) (by kernel_rfl) Go.Proofs.Try.func57 (by kernel_rfl) fun hl_0 => ?_
  refine st_con tab_ok (by kernel_rfl) [.tmp 2, .tmp 3] 46 Go.Proofs.Try.func57 (by kernel_rfl) (by kernel_rfl) ?_
  intro e0 cx
  refine sq ?_
  refine rg (A := True) cx [] [0] [] trivial ?_
  refine sn ?_
  refine sq ?_
  refine rg (A := True) cx [] [0, 4] [] trivial ?_
  refine sn ?_
  refine sq ?_
  refine sq ?_
  refine rg (A := True) cx [] [0, 4, 5] [] trivial ?_
  refine sn ?_
  refine st_block 0 (by kernel_rfl) ?_
  refine awp_adopt 4 1004 28 4 (σ' := ⟨[(0, .sl (List.map c28 s)), (4, .own 1004 0), (5, .i .i64 ((0 : Int)))], [(1004, ⟨0, 28, .row 4 (List.map c28 [])⟩)]⟩) (by kernel_rfl) ?_
  refine st_loop (X := Int × List Entry) (fun x => ⟨[(0, .sl (List.map c28 s)), (4, .own 1004 0), (5, .i .i64 (x.fst))], [(1004, ⟨0, 28, .row 4 (List.map c28 x.snd)⟩)]⟩) (fun x ↦ dec57 s x.fst x.snd) (fun x ↦ inv57 s x.fst x.snd) [0, 4, 5] [1004] (((0 : Int), [])) (by kernel_rfl) (by kernel_rfl) (show inv57 s (0 : Int) [] from ?g0) ?_; rotate_left 1
  rintro ⟨i_0, l_1⟩ h_2
  obtain ⟨h_3, h_4, h_5, h_6⟩ : (0 : Int) ≤ i_0 ∧ i_0 ≤ (↑s.length : Int) ∧ onceN s i_0.toNat = some l_1 ∧ (↑l_1.length : Int) ≤ i_0 := h_2
  refine sq ?_
  refine sq ?_
  refine rg (A := _ ∧ (AV.b (decide (i_0 < (↑s.length : Int))) = AV.b (decide (i_0 < (↑s.length : Int))))) cx [(2, { tell := some (.i .i64 ((↑s.length : Int))) }), (3, { tell := some (.b (decide (i_0 < (↑s.length : Int)))) })] [0, 4, 5, 9] [1004] ⟨(told_len c28 s), (by kernel_rfl)⟩ ?_
  refine sn ?_
  refine st_dec (i_0 < (↑s.length : Int)) (by kernel_rfl) (by kernel_rfl) (fun h_7 => ?_) (fun h_7 => ?_)
  refine st_skip (by kernel_rfl) ?_
  refine sn ?_
  refine sq ?_
  refine st_block 1 (by kernel_rfl) ?_
  refine sq ?_
  refine sq ?_
  refine st_join (σ' := ⟨[(0, .sl (List.map c28 s)), (4, .own 1004 0), (5, .i .i64 (i_0)), (27, .b (decide (i_0 = (0 : Int) ∨ ¬s[i_0.toNat]!.dot = s[(i_0 - (1 : Int)).toNat]!.dot)))], [(1004, ⟨0, 28, .row 4 (List.map c28 l_1)⟩)]⟩) ?_ ?_
  refine st_split (i_0 = (0 : Int)) (fun h_9 => ?_) (fun h_9 => ?_)
  refine ra (A := _ ∧ (AV.b true = AV.b (decide (i_0 = (0 : Int) ∨ ¬s[i_0.toNat]!.dot = s[(i_0 - (1 : Int)).toNat]!.dot)))) cx [(1, { tell := some (.b (true)) }), (15, { tell := some (.b (decide (i_0 = (0 : Int) ∨ ¬s[i_0.toNat]!.dot = s[(i_0 - (1 : Int)).toNat]!.dot))) })] [0, 4, 5, 27] [1004] ⟨(told_true h_9), (by simp only [eq_true h_9, told_simp1, told_simp2, and_true, true_and, and_false, false_and, or_true, true_or, or_false, false_or, not_true_eq_false, not_false_eq_true, decide_true, decide_false, Bool.decide_eq_true])⟩ ?_
  exact ⟨rfl, by kernel_rfl⟩
  refine ra (A := _ ∧ ((0 : Int) ≤ i_0) ∧ ((List.map c28 s)[i_0.toNat]? = some (c28 s[i_0.toNat]!)) ∧ ((c28 s[i_0.toNat]!).length = (4 : Nat)) ∧ ((2 : Nat) ≤ [AV.i IntKind.i64 s[i_0.toNat]!.dot.rep, AV.i IntKind.i64 s[i_0.toNat]!.dot.num, AV.s s[i_0.toNat]!.sku, AV.i IntKind.i64 s[i_0.toNat]!.qty].length) ∧ (AV.i IntKind.i64 (IntKind.i64.wrap (i_0 - (1 : Int))) = AV.i IntKind.i64 (i_0 - (1 : Int))) ∧ ((0 : Int) ≤ i_0 - (1 : Int)) ∧ ((List.map c28 s)[(i_0 - (1 : Int)).toNat]? = some (c28 s[(i_0 - (1 : Int)).toNat]!)) ∧ ((c28 s[(i_0 - (1 : Int)).toNat]!).length = (4 : Nat)) ∧ ((2 : Nat) ≤ [AV.i IntKind.i64 s[(i_0 - (1 : Int)).toNat]!.dot.rep, AV.i IntKind.i64 s[(i_0 - (1 : Int)).toNat]!.dot.num, AV.s s[(i_0 - (1 : Int)).toNat]!.sku, AV.i IntKind.i64 s[(i_0 - (1 : Int)).toNat]!.qty].length) ∧ (AggEq Try.prog (26 : Nat) [AV.i IntKind.i64 s[i_0.toNat]!.dot.rep, AV.i IntKind.i64 s[i_0.toNat]!.dot.num] [AV.i IntKind.i64 s[(i_0 - (1 : Int)).toNat]!.dot.rep, AV.i IntKind.i64 s[(i_0 - (1 : Int)).toNat]!.dot.num] !decide ¬s[i_0.toNat]!.dot = s[(i_0 - (1 : Int)).toNat]!.dot) ∧ (AV.b (decide ¬s[i_0.toNat]!.dot = s[(i_0 - (1 : Int)).toNat]!.dot) = AV.b (decide (i_0 = (0 : Int) ∨ ¬s[i_0.toNat]!.dot = s[(i_0 - (1 : Int)).toNat]!.dot)))) cx [(1, { tell := some (.b (false)) }), (5, { row := (c28 s[i_0.toNat]!) }), (10, { tell := some (.i .i64 (i_0 - (1 : Int))) }), (11, { row := (c28 s[(i_0 - (1 : Int)).toNat]!) }), (14, { val := some (.b (decide ¬s[i_0.toNat]!.dot = s[(i_0 - (1 : Int)).toNat]!.dot)) }), (15, { tell := some (.b (decide (i_0 = (0 : Int) ∨ ¬s[i_0.toNat]!.dot = s[(i_0 - (1 : Int)).toNat]!.dot))) })] [0, 4, 5, 27] [1004] ⟨(told_false h_9), (by (with_reducible assumption)), (by (with_reducible refine get_map ?_; omega)), (by kernel_rfl), (by (simp only [List.length_append, List.length_cons, List.length_nil]; omega)), (told_i64 (by omega) (by omega)), (by omega), (by (with_reducible refine get_map ?_; omega)), (by kernel_rfl), (by (simp only [List.length_append, List.length_cons, List.length_nil]; omega)), (aggNe_dec (eq26 s[i_0.toNat]!.dot s[(i_0 - (1 : Int)).toNat]!.dot)), (by simp only [eq_false h_9, told_simp1, told_simp2, and_true, true_and, and_false, false_and, or_true, true_or, or_false, false_or, not_true_eq_false, not_false_eq_true, decide_true, decide_false, Bool.decide_eq_true])⟩ ?_
  exact ⟨rfl, by kernel_rfl⟩
  refine sn ?_
  refine st_dec (i_0 = (0 : Int) ∨ ¬s[i_0.toNat]!.dot = s[(i_0 - (1 : Int)).toNat]!.dot) (by kernel_rfl) (by kernel_rfl) (fun h_10 => ?_) (fun h_10 => ?_)
  refine sq ?_
  refine rg (A := ((0 : Int) ≤ i_0) ∧ ((List.map c28 s)[i_0.toNat]? = some (c28 s[i_0.toNat]!)) ∧ ((c28 s[i_0.toNat]!).length = (4 : Nat)) ∧ ((4 : Nat) ≤ [AV.i IntKind.i64 s[i_0.toNat]!.dot.rep, AV.i IntKind.i64 s[i_0.toNat]!.dot.num, AV.s s[i_0.toNat]!.sku, AV.i IntKind.i64 s[i_0.toNat]!.qty].length) ∧ (28 = (28 : Nat)) ∧ ((4 : Nat) = 4) ∧ ([AV.i IntKind.i64 (0 : Int), AV.i IntKind.i64 (0 : Int), AV.s { data := #[] : ByteArray }, AV.i IntKind.i64 (0 : Int)].length = (4 : Nat)) ∧ (∀ (r : List AV), r ∈ List.map c28 [s[i_0.toNat]!] → r.length = 4) ∧ ((List.map c28 l_1).length + (List.map c28 [s[i_0.toNat]!]).length ≤ maxLen) ∧ (((List.map c28 l_1).length + (List.map c28 [s[i_0.toNat]!]).length) * (40 : Nat) ≤ (140737488355328 : Nat)) ∧ (List.map c28 l_1 ++ List.map c28 [s[i_0.toNat]!] = List.map c28 (l_1 ++ [s[i_0.toNat]!]))) cx [(3, { row := (c28 s[i_0.toNat]!) }), (6, { rows := some (List.map c28 (l_1 ++ [s[i_0.toNat]!])) })] [0, 4, 5] [1004] ⟨(by (with_reducible assumption)), (by (with_reducible refine get_map ?_; omega)), (by kernel_rfl), (by (simp only [List.length_append, List.length_cons, List.length_nil]; omega)), (by kernel_rfl), (by kernel_rfl), (by kernel_rfl), (by (with_reducible refine len_map (fun _ => ?_) _; kernel_rfl)), (by (simp only [Go.maxLen, List.length_map, List.length_append, List.length_cons, List.length_nil]; omega)), (by (simp only [Go.maxLen, List.length_map, List.length_append, List.length_cons, List.length_nil]; omega)), (by (with_reducible refine app_map ?_; kernel_rfl))⟩ ?_
  refine sn ?_
  refine st_exit 1 (by kernel_rfl) ?_
  refine q_seq_exit ?_
  refine q_blk_hit ?_
  refine sn ?_
  refine rg (A := (AV.i IntKind.i64 (IntKind.i64.wrap (i_0 + (1 : Int))) = AV.i IntKind.i64 (i_0 + (1 : Int)))) cx [(1, { tell := some (.i .i64 (i_0 + (1 : Int))) })] [0, 4, 5] [1004] (told_i64 (by omega) (by omega)) ?_
  refine sn ?_
  refine loop_next ((i_0 + (1 : Int), l_1 ++ [s[i_0.toNat]!])) (by kernel_rfl) (show ((↑s.length : Int) - (i_0 + (1 : Int))).toNat < ((↑s.length : Int) - i_0).toNat from (by omega)) (show inv57 s (i_0 + (1 : Int)) (l_1 ++ [s[i_0.toNat]!]) from ?g1); rotate_left 1
  refine st_skip (by kernel_rfl) ?_
  refine sn ?_
  refine sq ?_
  refine ra (A := ((0 : Int) ≤ i_0) ∧ ((List.map c28 s)[i_0.toNat]? = some (c28 s[i_0.toNat]!)) ∧ ((c28 s[i_0.toNat]!).length = (4 : Nat)) ∧ ((4 : Nat) ≤ [AV.i IntKind.i64 s[i_0.toNat]!.dot.rep, AV.i IntKind.i64 s[i_0.toNat]!.dot.num, AV.s s[i_0.toNat]!.sku, AV.i IntKind.i64 s[i_0.toNat]!.qty].length) ∧ (AV.i IntKind.i64 (IntKind.i64.wrap (i_0 - (1 : Int))) = AV.i IntKind.i64 (i_0 - (1 : Int))) ∧ ((0 : Int) ≤ i_0 - (1 : Int)) ∧ ((List.map c28 s)[(i_0 - (1 : Int)).toNat]? = some (c28 s[(i_0 - (1 : Int)).toNat]!)) ∧ ((c28 s[(i_0 - (1 : Int)).toNat]!).length = (4 : Nat)) ∧ ((4 : Nat) ≤ [AV.i IntKind.i64 s[(i_0 - (1 : Int)).toNat]!.dot.rep, AV.i IntKind.i64 s[(i_0 - (1 : Int)).toNat]!.dot.num, AV.s s[(i_0 - (1 : Int)).toNat]!.sku, AV.i IntKind.i64 s[(i_0 - (1 : Int)).toNat]!.qty].length) ∧ (AggEq Try.prog (28 : Nat) [AV.i IntKind.i64 s[i_0.toNat]!.dot.rep, AV.i IntKind.i64 s[i_0.toNat]!.dot.num, AV.s s[i_0.toNat]!.sku, AV.i IntKind.i64 s[i_0.toNat]!.qty] [AV.i IntKind.i64 s[(i_0 - (1 : Int)).toNat]!.dot.rep, AV.i IntKind.i64 s[(i_0 - (1 : Int)).toNat]!.dot.num, AV.s s[(i_0 - (1 : Int)).toNat]!.sku, AV.i IntKind.i64 s[(i_0 - (1 : Int)).toNat]!.qty] !decide ¬s[i_0.toNat]! = s[(i_0 - (1 : Int)).toNat]!)) cx [(2, { row := (c28 s[i_0.toNat]!) }), (6, { tell := some (.i .i64 (i_0 - (1 : Int))) }), (7, { row := (c28 s[(i_0 - (1 : Int)).toNat]!) }), (9, { val := some (.b (decide ¬s[i_0.toNat]! = s[(i_0 - (1 : Int)).toNat]!)) })] [0, 4, 5, 44] [1004] ⟨(by (with_reducible assumption)), (by (with_reducible refine get_map ?_; omega)), (by kernel_rfl), (by (simp only [List.length_append, List.length_cons, List.length_nil]; omega)), (told_i64 (by omega) (by omega)), (by omega), (by (with_reducible refine get_map ?_; omega)), (by kernel_rfl), (by (simp only [List.length_append, List.length_cons, List.length_nil]; omega)), (aggNe_dec (eq28 s[i_0.toNat]! s[(i_0 - (1 : Int)).toNat]!))⟩ ?_
  refine sn ?_
  refine st_dec (¬s[i_0.toNat]! = s[(i_0 - (1 : Int)).toNat]!) (by kernel_rfl) (by kernel_rfl) (fun h_11 => ?_) (fun h_11 => ?_)
  refine sq ?_
  refine rg (A := True) cx [] [2, 3] [] trivial ?_
  refine sn ?_
  refine st_ret (by kernel_rfl) ?_
  refine q_blk_ret ?_
  refine q_seq_ret ?_
  refine q_seq_ret ?_
  refine q_blk_ret ?_
  refine q_seq_ret ?_
  refine q_ret (r := .tup [.nl, .i .i64 ((10 : Int))]) (obl := []) (by kernel_rfl) trivial (AVle.tup (ZLe.cons (AVle.nl' (show List.map c28 (onceR s).fst = [] from ?g3)) (ZLe.cons (AVle.eq (show AV.i IntKind.i64 (10 : Int) = AV.i IntKind.i64 (onceR s).snd from ?g2)) ZLe.nil))); rotate_left 2
  refine st_skip (by kernel_rfl) ?_
  refine q_blk_normal ?_
  refine sn ?_
  refine rg (A := (AV.i IntKind.i64 (IntKind.i64.wrap (i_0 + (1 : Int))) = AV.i IntKind.i64 (i_0 + (1 : Int)))) cx [(1, { tell := some (.i .i64 (i_0 + (1 : Int))) })] [0, 4, 5] [1004] (told_i64 (by omega) (by omega)) ?_
  refine sn ?_
  refine loop_next ((i_0 + (1 : Int), l_1)) (by kernel_rfl) (show ((↑s.length : Int) - (i_0 + (1 : Int))).toNat < ((↑s.length : Int) - i_0).toNat from (by omega)) (show inv57 s (i_0 + (1 : Int)) l_1 from ?g4); rotate_left 1
  refine st_exit 0 (by kernel_rfl) ?_
  refine q_seq_exit ?_
  refine q_seq_exit ?_
  refine q_blk_hit ?_
  refine sn ?_
  refine sq ?_
  refine rg (A := True) cx [] [2, 3] [1004] trivial ?_
  refine sn ?_
  refine st_ret (by kernel_rfl) ?_
  refine q_ret (r := .tup [.sl (List.map c28 l_1), .i .i64 ((0 : Int))]) (obl := []) (by kernel_rfl) trivial (AVle.tup (ZLe.cons (AVle.eq (show AV.sl (List.map c28 l_1) = AV.sl (List.map c28 (onceR s).fst) from ?g6)) (ZLe.cons (AVle.eq (show AV.i IntKind.i64 (0 : Int) = AV.i IntKind.i64 (onceR s).snd from ?g5)) ZLe.nil))); rotate_left 2
  rotate_left
  revert i_0 l_1 h_3 h_4 h_5 h_6 h_7 h_10; rotate_left
  revert i_0 l_1 h_3 h_4 h_5 h_6 h_7 h_10 h_11; rotate_left
  revert i_0 l_1 h_3 h_4 h_5 h_6 h_7 h_10 h_11; rotate_left
  revert i_0 l_1 h_3 h_4 h_5 h_6 h_7 h_10 h_11; rotate_left
  revert i_0 l_1 h_3 h_4 h_5 h_6 h_7; rotate_left
  revert i_0 l_1 h_3 h_4 h_5 h_6 h_7; rotate_left
  case g0 => exact ⟨by omega, by omega, rfl, by simp⟩
  case g1 => exact (fun i l h0 h1 h2 h3 h4 h5 => once_app h0 h2 h4 h3 ((flip_dot h0).1 h5))
  case g2 => exact (fun i l h0 h1 h2 h3 h4 h5 h6 => by rw [once_clash h0 h2 h4 (Classical.not_not.1 fun k => h5 ((flip_dot h0).2 k)) (fun k => h6 k.symm)])
  case g3 => exact (fun i l h0 h1 h2 h3 h4 h5 h6 => by rw [once_clash h0 h2 h4 (Classical.not_not.1 fun k => h5 ((flip_dot h0).2 k)) (fun k => h6 k.symm)]; rfl)
  case g4 => exact (fun i l h0 h1 h2 h3 h4 h5 h6 => once_skip h0 h2 h4 h3 (Classical.not_not.1 fun k => h5 ((flip_dot h0).2 k)) (fun k => h6 fun g => k g.symm))
  case g5 => exact (fun i l h0 h1 h2 h3 h4 => by rw [once_end h0 h2 h1 h4])
  case g6 => exact (fun i l h0 h1 h2 h3 h4 => by rw [once_end h0 h2 h1 h4])
theorem con58 (es : List Entry) (m : Int) (hl : es.length * 40 ≤ 140737488351232) : Con Try.prog 58 [.sl (es.map c28), .i .i64 m] (.sl ((botS (leM m) 1 es).map c28)) :=
  by
  refine con_lens 0 (c28) (es) (by kernel_rfl) Go.Proofs.Try.func58 (by kernel_rfl) fun hl_0 => ?_
  refine st_con tab_ok (by kernel_rfl) [.tmp 4] 109 Go.Proofs.Try.func58 (by kernel_rfl) (by kernel_rfl) ?_
  intro e0 cx
  refine sq ?_
  refine rg (A := True) cx [] [0, 1] [] trivial ?_
  refine sn ?_
  refine sq ?_
  refine rg (A := True) cx [] [0, 1, 5] [] trivial ?_
  refine sn ?_
  refine sq ?_
  refine sq ?_
  refine rg (A := True) cx [] [0, 1, 5, 6] [] trivial ?_
  refine sn ?_
  refine st_block 0 (by kernel_rfl) ?_
  refine awp_adopt 5 1005 28 4 (σ' := ⟨[(0, .sl (List.map c28 es)), (1, .i .i64 (m)), (5, .own 1005 0), (6, .i .i64 ((0 : Int)))], [(1005, ⟨0, 28, .row 4 (List.map c28 [])⟩)]⟩) (by kernel_rfl) ?_
  refine st_loop (X := Int × List Entry) (fun x => ⟨[(0, .sl (List.map c28 es)), (1, .i .i64 (m)), (5, .own 1005 0), (6, .i .i64 (x.fst))], [(1005, ⟨0, 28, .row 4 (List.map c28 x.snd)⟩)]⟩) (fun x ↦ dec58a es x.fst x.snd) (fun x ↦ inv58a es x.fst x.snd) [0, 1, 5, 6] [1005] (((0 : Int), [])) (by kernel_rfl) (by kernel_rfl) (show inv58a es (0 : Int) [] from ?g0) ?_; rotate_left 1
  rintro ⟨i_0, l_1⟩ h_2
  obtain ⟨h_3, h_4, h_5, h_6⟩ : (0 : Int) ≤ i_0 ∧ i_0 ≤ (↑es.length : Int) ∧ (↑l_1.length : Int) = i_0 ∧ isPre es i_0 l_1 := h_2
  refine sq ?_
  refine sq ?_
  refine rg (A := _ ∧ (AV.b (decide (i_0 < (↑es.length : Int))) = AV.b (decide (i_0 < (↑es.length : Int))))) cx [(2, { tell := some (.i .i64 ((↑es.length : Int))) }), (3, { tell := some (.b (decide (i_0 < (↑es.length : Int)))) })] [0, 1, 5, 6, 18] [1005] ⟨(told_len c28 es), (by kernel_rfl)⟩ ?_
  refine sn ?_
  refine st_dec (i_0 < (↑es.length : Int)) (by kernel_rfl) (by kernel_rfl) (fun h_7 => ?_) (fun h_7 => ?_)
  refine st_skip (by kernel_rfl) ?_
  refine sn ?_
  refine sq ?_
  refine st_block 1 (by kernel_rfl) ?_
  refine rg (A := ((0 : Int) ≤ i_0) ∧ ((List.map c28 es)[i_0.toNat]? = some (c28 es[i_0.toNat]!)) ∧ ((c28 es[i_0.toNat]!).length = (4 : Nat)) ∧ ((4 : Nat) ≤ [AV.i IntKind.i64 es[i_0.toNat]!.dot.rep, AV.i IntKind.i64 es[i_0.toNat]!.dot.num, AV.s es[i_0.toNat]!.sku, AV.i IntKind.i64 es[i_0.toNat]!.qty].length) ∧ (28 = (28 : Nat)) ∧ ((4 : Nat) = 4) ∧ ([AV.i IntKind.i64 (0 : Int), AV.i IntKind.i64 (0 : Int), AV.s { data := #[] : ByteArray }, AV.i IntKind.i64 (0 : Int)].length = (4 : Nat)) ∧ (∀ (r : List AV), r ∈ List.map c28 [es[i_0.toNat]!] → r.length = 4) ∧ ((List.map c28 l_1).length + (List.map c28 [es[i_0.toNat]!]).length ≤ maxLen) ∧ (((List.map c28 l_1).length + (List.map c28 [es[i_0.toNat]!]).length) * (40 : Nat) ≤ (140737488355328 : Nat)) ∧ (List.map c28 l_1 ++ List.map c28 [es[i_0.toNat]!] = List.map c28 (l_1 ++ [es[i_0.toNat]!]))) cx [(3, { row := (c28 es[i_0.toNat]!) }), (6, { rows := some (List.map c28 (l_1 ++ [es[i_0.toNat]!])) })] [0, 1, 5, 6] [1005] ⟨(by (with_reducible assumption)), (by (with_reducible refine get_map ?_; omega)), (by kernel_rfl), (by (simp only [List.length_append, List.length_cons, List.length_nil]; omega)), (by kernel_rfl), (by kernel_rfl), (by kernel_rfl), (by (with_reducible refine len_map (fun _ => ?_) _; kernel_rfl)), (by (simp only [Go.maxLen, List.length_map, List.length_append, List.length_cons, List.length_nil]; omega)), (by (simp only [Go.maxLen, List.length_map, List.length_append, List.length_cons, List.length_nil]; omega)), (by (with_reducible refine app_map ?_; kernel_rfl))⟩ ?_
  refine q_blk_normal ?_
  refine sn ?_
  refine rg (A := (AV.i IntKind.i64 (IntKind.i64.wrap (i_0 + (1 : Int))) = AV.i IntKind.i64 (i_0 + (1 : Int)))) cx [(1, { tell := some (.i .i64 (i_0 + (1 : Int))) })] [0, 1, 5, 6] [1005] (told_i64 (by omega) (by omega)) ?_
  refine sn ?_
  refine loop_next ((i_0 + (1 : Int), l_1 ++ [es[i_0.toNat]!])) (by kernel_rfl) (show ((↑es.length : Int) - (i_0 + (1 : Int))).toNat < ((↑es.length : Int) - i_0).toNat from (by omega)) (show inv58a es (i_0 + (1 : Int)) (l_1 ++ [es[i_0.toNat]!]) from ?g1); rotate_left 1
  refine st_exit 0 (by kernel_rfl) ?_
  refine q_seq_exit ?_
  refine q_seq_exit ?_
  refine q_blk_hit ?_
  refine sn ?_
  refine sq ?_
  refine rg (A := _) cx [(1, { tell := some (.i .i64 ((↑l_1.length : Int))) })] [1, 5, 7] [1005] (told_len c28 l_1) ?_
  refine sn ?_
  refine sq ?_
  refine sq ?_
  refine rg (A := True) cx [] [1, 5, 7, 8] [1005] trivial ?_
  refine sn ?_
  refine st_block 2 (by kernel_rfl) ?_
  refine st_loop (X := Int × List Entry) (fun x => ⟨[(1, .i .i64 (m)), (5, .own 1005 0), (7, .i .i64 ((↑l_1.length : Int))), (8, .i .i64 (x.fst))], [(1005, ⟨0, 28, .row 4 (List.map c28 x.snd)⟩)]⟩) (fun x ↦ decB1 (↑l_1.length : Int) x.fst x.snd) (fun x ↦ invB1 (leM m) es (↑l_1.length : Int) x.fst x.snd) [1, 5, 7, 8] [1005] (((1 : Int), l_1)) (by kernel_rfl) (by kernel_rfl) (show invB1 (leM m) es (↑l_1.length : Int) (1 : Int) l_1 from ?g2) ?_; rotate_left 1
  rintro ⟨w_8, l_9⟩ h_10
  obtain ⟨h_11, h_12, h_13, h_14⟩ : (1 : Int) ≤ w_8 ∧ w_8 ≤ (2 : Int) * (↑l_1.length : Int) + (1 : Int) ∧ (↑l_9.length : Int) = (↑l_1.length : Int) ∧ botS (leM m) w_8.toNat l_9 = botS (leM m) (1 : Nat) es := h_10
  refine sq ?_
  refine sq ?_
  refine rg (A := (AV.b (decide (w_8 < (↑l_1.length : Int))) = AV.b (decide (w_8 < (↑l_1.length : Int))))) cx [(2, { tell := some (.b (decide (w_8 < (↑l_1.length : Int)))) })] [1, 5, 7, 8, 32] [1005] (by kernel_rfl) ?_
  refine sn ?_
  refine st_dec (w_8 < (↑l_1.length : Int)) (by kernel_rfl) (by kernel_rfl) (fun h_15 => ?_) (fun h_15 => ?_)
  refine st_skip (by kernel_rfl) ?_
  refine sn ?_
  refine sq ?_
  refine st_block 3 (by kernel_rfl) ?_
  refine sq ?_
  refine rg (A := ((0 : Int) = (0 : Int)) ∧ ((↑l_1.length : Int) = (↑l_1.length : Int)) ∧ ((40 : Nat) * l_1.length ≤ (281474976710656 : Nat)) ∧ (l_1.length ≤ maxLen)) cx [(1, { n := l_1.length, flat := true })] [1, 5, 7, 8, 9] [1005, 36] ⟨(by kernel_rfl), (by kernel_rfl), (by omega), (by (simp only [Go.maxLen]; omega))⟩ ?_
  refine sn ?_
  refine sq ?_
  refine sq ?_
  refine rg (A := True) cx [] [1, 5, 7, 8, 9, 10] [1005, 36] trivial ?_
  refine sn ?_
  refine st_block 4 (by kernel_rfl) ?_
  refine st_loop (X := Int × List Entry × List Entry) (fun x => ⟨[(1, .i .i64 (m)), (5, .own 1005 0), (7, .i .i64 ((↑l_1.length : Int))), (8, .i .i64 (w_8)), (9, .own 36 0), (10, .i .i64 (x.fst))], [(1005, ⟨0, 28, .row 4 (List.map c28 x.snd.fst)⟩), (36, ⟨0, 28, .row 4 (List.map c28 x.snd.snd)⟩)]⟩) (fun x ↦ decB2 (↑l_1.length : Int) x.fst x.snd.fst x.snd.snd) (fun x ↦ invB2 (leM m) l_9 (↑l_1.length : Int) w_8 x.fst x.snd.fst x.snd.snd) [1, 5, 7, 8, 9, 10] [1005, 36] (((0 : Int), l_9, [])) (by kernel_rfl) (by kernel_rfl) (show invB2 (leM m) l_9 (↑l_1.length : Int) w_8 (0 : Int) l_9 [] from ?g3) ?_; rotate_left 1
  rintro ⟨f_16, l_17, m_18⟩ h_19
  obtain ⟨h_20, h_21, h_22, h_23⟩ : l_17 = l_9 ∧ (0 : Int) ≤ f_16 ∧ f_16 < (↑l_1.length : Int) + (2 : Int) * w_8 ∧ ∃ k, f_16.toNat = k * ((2 : Nat) * w_8.toNat) ∧ m_18 = mgP (leM m) w_8.toNat l_9 k := h_19
  refine sq ?_
  refine sq ?_
  refine rg (A := (AV.b (decide (f_16 < (↑l_1.length : Int))) = AV.b (decide (f_16 < (↑l_1.length : Int))))) cx [(2, { tell := some (.b (decide (f_16 < (↑l_1.length : Int)))) })] [1, 5, 7, 8, 9, 10, 39] [1005, 36] (by kernel_rfl) ?_
  refine sn ?_
  refine st_dec (f_16 < (↑l_1.length : Int)) (by kernel_rfl) (by kernel_rfl) (fun h_24 => ?_) (fun h_24 => ?_)
  refine st_skip (by kernel_rfl) ?_
  refine sn ?_
  refine sq ?_
  refine st_block 5 (by kernel_rfl) ?_
  refine sq ?_
  refine rg (A := (AV.i IntKind.i64 (IntKind.i64.wrap (f_16 + w_8)) = AV.i IntKind.i64 (f_16 + w_8))) cx [(2, { tell := some (.i .i64 (f_16 + w_8)) })] [1, 5, 7, 8, 9, 10, 11] [1005, 36] (told_i64 (by omega) (by omega)) ?_
  refine sn ?_
  refine sq ?_
  refine sq ?_
  refine rg (A := (AV.b (decide (f_16 + w_8 > (↑l_1.length : Int))) = AV.b (decide ((↑l_1.length : Int) < f_16 + w_8)))) cx [(2, { tell := some (.b (decide ((↑l_1.length : Int) < f_16 + w_8))) })] [1, 5, 7, 8, 9, 10, 11, 49] [1005, 36] (by kernel_rfl) ?_
  refine sn ?_
  refine st_dec ((↑l_1.length : Int) < f_16 + w_8) (by kernel_rfl) (by kernel_rfl) (fun h_25 => ?_) (fun h_25 => ?_)
  refine rg (A := True) cx [] [1, 5, 7, 8, 9, 10, 11] [1005, 36] trivial ?_
  refine sn ?_
  refine sq ?_
  refine rg (A := (AV.i IntKind.i64 (IntKind.i64.wrap ((↑l_1.length : Int) + w_8)) = AV.i IntKind.i64 ((↑l_1.length : Int) + w_8))) cx [(2, { tell := some (.i .i64 ((↑l_1.length : Int) + w_8)) })] [1, 5, 7, 8, 9, 10, 11, 12] [1005, 36] (told_i64 (by omega) (by omega)) ?_
  refine sn ?_
  refine sq ?_
  refine sq ?_
  refine rg (A := (AV.b (decide ((↑l_1.length : Int) + w_8 > (↑l_1.length : Int))) = AV.b (decide ((↑l_1.length : Int) < (↑l_1.length : Int) + w_8)))) cx [(2, { tell := some (.b (decide ((↑l_1.length : Int) < (↑l_1.length : Int) + w_8))) })] [1, 5, 7, 8, 9, 10, 11, 12, 56] [1005, 36] (by kernel_rfl) ?_
  refine sn ?_
  refine st_dec ((↑l_1.length : Int) < (↑l_1.length : Int) + w_8) (by kernel_rfl) (by kernel_rfl) (fun h_26 => ?_) (fun h_26 => absurd (by omega) h_26)
  refine rg (A := True) cx [] [1, 5, 7, 8, 9, 10, 11, 12] [1005, 36] trivial ?_
  refine sn ?_
  refine sq ?_
  refine rg (A := True) cx [] [1, 5, 7, 8, 9, 10, 11, 12, 13] [1005, 36] trivial ?_
  refine sn ?_
  refine sq ?_
  refine rg (A := True) cx [] ([1, 5] ++ List.range' 7 8) [1005, 36] trivial ?_
  refine sn ?_
  refine st_block 6 (by kernel_rfl) ?_
  refine st_loop (X := Int × Int × List Entry × List Entry) (fun x => ⟨[(1, .i .i64 (m)), (5, .own 1005 0), (7, .i .i64 ((↑l_1.length : Int))), (8, .i .i64 (w_8)), (9, .own 36 0), (10, .i .i64 (f_16)), (11, .i .i64 ((↑l_1.length : Int))), (12, .i .i64 ((↑l_1.length : Int))), (13, .i .i64 (x.fst)), (14, .i .i64 (x.snd.fst))], [(1005, ⟨0, 28, .row 4 (List.map c28 x.snd.snd.fst)⟩), (36, ⟨0, 28, .row 4 (List.map c28 x.snd.snd.snd)⟩)]⟩) (fun x ↦ decB3 (min (f_16 + w_8) (↑l_1.length : Int)) (min (min (f_16 + w_8) (↑l_1.length : Int) + w_8) (↑l_1.length : Int)) x.fst x.snd.fst x.snd.snd.fst x.snd.snd.snd) (fun x ↦ invB3 (leM m) l_17 f_16 (min (f_16 + w_8) (↑l_1.length : Int)) (min (min (f_16 + w_8) (↑l_1.length : Int) + w_8) (↑l_1.length : Int)) m_18 x.fst x.snd.fst x.snd.snd.fst x.snd.snd.snd) ([1, 5] ++ List.range' 7 8) [1005, 36] ((f_16, (↑l_1.length : Int), l_17, m_18)) (by kernel_rfl) (by kernel_rfl) (show invB3 (leM m) l_17 f_16 (min (f_16 + w_8) (↑l_1.length : Int)) (min (min (f_16 + w_8) (↑l_1.length : Int) + w_8) (↑l_1.length : Int)) m_18 f_16 (↑l_1.length : Int) l_17 m_18 from ?g4) ?_; rotate_left 1
  rintro ⟨i_27, j_28, l_29, m_30⟩ h_31
  obtain ⟨h_32, h_33, h_34, h_35, h_36, h_37, h_38⟩ : l_29 = l_17 ∧ f_16 ≤ i_27 ∧ i_27 ≤ min (f_16 + w_8) (↑l_1.length : Int) ∧ min (f_16 + w_8) (↑l_1.length : Int) ≤ j_28 ∧ j_28 ≤ min (min (f_16 + w_8) (↑l_1.length : Int) + w_8) (↑l_1.length : Int) ∧ (↑m_30.length : Int) = i_27 + (j_28 - min (f_16 + w_8) (↑l_1.length : Int)) ∧ m_30 ++ (subP l_17 i_27 (min (f_16 + w_8) (↑l_1.length : Int))).merge (subP l_17 j_28 (min (min (f_16 + w_8) (↑l_1.length : Int) + w_8) (↑l_1.length : Int))) (leM m) = m_18 ++ (subP l_17 f_16 (min (f_16 + w_8) (↑l_1.length : Int))).merge (subP l_17 (min (f_16 + w_8) (↑l_1.length : Int)) (min (min (f_16 + w_8) (↑l_1.length : Int) + w_8) (↑l_1.length : Int))) (leM m) := h_31
  refine sq ?_
  refine sq ?_
  refine st_join (σ' := ⟨[(1, .i .i64 (m)), (5, .own 1005 0), (7, .i .i64 ((↑l_1.length : Int))), (8, .i .i64 (w_8)), (9, .own 36 0), (10, .i .i64 (f_16)), (11, .i .i64 ((↑l_1.length : Int))), (12, .i .i64 ((↑l_1.length : Int))), (13, .i .i64 (i_27)), (14, .i .i64 (j_28)), (67, .b (decide (i_27 < (↑l_1.length : Int) ∨ j_28 < (↑l_1.length : Int))))], [(1005, ⟨0, 28, .row 4 (List.map c28 l_29)⟩), (36, ⟨0, 28, .row 4 (List.map c28 m_30)⟩)]⟩) ?_ ?_
  refine st_split (i_27 < (↑l_1.length : Int)) (fun h_40 => ?_) (fun h_40 => ?_)
  refine rg (A := _ ∧ (AV.b true = AV.b (decide (i_27 < (↑l_1.length : Int) ∨ j_28 < (↑l_1.length : Int))))) cx [(2, { tell := some (.b (true)) }), (7, { tell := some (.b (decide (i_27 < (↑l_1.length : Int) ∨ j_28 < (↑l_1.length : Int)))) })] ([1, 5] ++ List.range' 7 8 ++ [67]) [1005, 36] ⟨(told_true h_40), (by simp only [eq_true h_40, told_simp1, told_simp2, and_true, true_and, and_false, false_and, or_true, true_or, or_false, false_or, not_true_eq_false, not_false_eq_true, decide_true, decide_false, Bool.decide_eq_true])⟩ ?_
  exact ⟨rfl, by kernel_rfl⟩
  refine rg (A := _ ∧ (AV.b (decide (j_28 < (↑l_1.length : Int))) = AV.b (decide (j_28 < (↑l_1.length : Int)))) ∧ (AV.b (decide (j_28 < (↑l_1.length : Int))) = AV.b (decide (i_27 < (↑l_1.length : Int) ∨ j_28 < (↑l_1.length : Int))))) cx [(2, { tell := some (.b (false)) }), (6, { tell := some (.b (decide (j_28 < (↑l_1.length : Int)))) }), (7, { tell := some (.b (decide (i_27 < (↑l_1.length : Int) ∨ j_28 < (↑l_1.length : Int)))) })] ([1, 5] ++ List.range' 7 8 ++ [67]) [1005, 36] ⟨(told_false h_40), (by kernel_rfl), (by simp only [eq_false h_40, told_simp1, told_simp2, and_true, true_and, and_false, false_and, or_true, true_or, or_false, false_or, not_true_eq_false, not_false_eq_true, decide_true, decide_false, Bool.decide_eq_true])⟩ ?_
  exact ⟨rfl, by kernel_rfl⟩
  refine sn ?_
  refine st_dec (i_27 < (↑l_1.length : Int) ∨ j_28 < (↑l_1.length : Int)) (by kernel_rfl) (by kernel_rfl) (fun h_41 => ?_) (fun h_41 => ?_)
  refine st_skip (by kernel_rfl) ?_
  refine sn ?_
  refine st_block 7 (by kernel_rfl) ?_
  refine sq ?_
  refine st_split ((↑l_1.length : Int) ≤ j_28) (fun h_42 => ?_) (fun h_42 => absurd (by omega) h_42)
  refine ra (A := _) cx [(2, { tell := some (.b (true)) })] ([1, 5] ++ List.range' 7 8 ++ [88]) [1005, 36] (told_true h_42) ?_
  refine sn ?_
  refine st_true (by kernel_rfl) (by kernel_rfl) ?_
  refine sq ?_
  refine rg (A := ((0 : Int) ≤ i_27) ∧ (i_27.toNat < (List.map c28 l_29).length) ∧ ((4 : Nat) = 4) ∧ (E.rowAt { ver := 0, ty := 28, k := BK.row (4) (List.map c28 l_29) : Blk } i_27.toNat (c28 l_29[i_27.toNat]!)) ∧ (0 + (4 : Nat) ≤ (c28 l_29[i_27.toNat]!).length) ∧ (28 = (28 : Nat)) ∧ ((4 : Nat) = 4) ∧ ([AV.i IntKind.i64 (0 : Int), AV.i IntKind.i64 (0 : Int), AV.s { data := #[] : ByteArray }, AV.i IntKind.i64 (0 : Int)].length = (4 : Nat)) ∧ (∀ (r : List AV), r ∈ List.map c28 [l_29[i_27.toNat]!] → r.length = 4) ∧ ((List.map c28 m_30).length + (List.map c28 [l_29[i_27.toNat]!]).length ≤ maxLen) ∧ (((List.map c28 m_30).length + (List.map c28 [l_29[i_27.toNat]!]).length) * (40 : Nat) ≤ (140737488355328 : Nat)) ∧ (List.map c28 m_30 ++ List.map c28 [l_29[i_27.toNat]!] = List.map c28 (m_30 ++ [l_29[i_27.toNat]!]))) cx [(4, { row := (c28 l_29[i_27.toNat]!) }), (6, { rows := some (List.map c28 (m_30 ++ [l_29[i_27.toNat]!])) })] ([1, 5] ++ List.range' 7 8) [1005, 36] ⟨(by omega), ?g5, (by kernel_rfl), ?g6, ?g7, (by kernel_rfl), (by kernel_rfl), (by kernel_rfl), (by (with_reducible refine len_map (fun _ => ?_) _; kernel_rfl)), (by (simp only [Go.maxLen, List.length_map, List.length_append, List.length_cons, List.length_nil]; omega)), (by (simp only [Go.maxLen, List.length_map, List.length_append, List.length_cons, List.length_nil]; omega)), (by (with_reducible refine app_map ?_; kernel_rfl))⟩ ?_; rotate_left 3
  refine sn ?_
  refine rg (A := (AV.i IntKind.i64 (IntKind.i64.wrap (i_27 + (1 : Int))) = AV.i IntKind.i64 (i_27 + (1 : Int)))) cx [(1, { tell := some (.i .i64 (i_27 + (1 : Int))) })] ([1, 5] ++ List.range' 7 8) [1005, 36] (told_i64 (by omega) (by omega)) ?_
  refine q_blk_normal ?_
  refine sn ?_
  refine loop_next ((i_27 + (1 : Int), j_28, l_29, m_30 ++ [l_29[i_27.toNat]!])) (by kernel_rfl) (show (min (f_16 + w_8) (↑l_1.length : Int) - (i_27 + (1 : Int)) + (min (min (f_16 + w_8) (↑l_1.length : Int) + w_8) (↑l_1.length : Int) - j_28)).toNat < (min (f_16 + w_8) (↑l_1.length : Int) - i_27 + (min (min (f_16 + w_8) (↑l_1.length : Int) + w_8) (↑l_1.length : Int) - j_28)).toNat from (by omega)) (show invB3 (leM m) l_17 f_16 (min (f_16 + w_8) (↑l_1.length : Int)) (min (min (f_16 + w_8) (↑l_1.length : Int) + w_8) (↑l_1.length : Int)) m_18 (i_27 + (1 : Int)) j_28 l_29 (m_30 ++ [l_29[i_27.toNat]!]) from ?g8); rotate_left 1
  refine st_exit 6 (by kernel_rfl) ?_
  refine q_seq_exit ?_
  refine q_seq_exit ?_
  refine q_blk_hit ?_
  refine q_blk_normal ?_
  refine sn ?_
  refine rg (A := (AV.i IntKind.i64 (IntKind.i64.wrap ((2 : Int) * w_8)) = AV.i IntKind.i64 ((2 : Int) * w_8)) ∧ (AV.i IntKind.i64 (IntKind.i64.wrap (f_16 + (2 : Int) * w_8)) = AV.i IntKind.i64 (f_16 + (2 : Int) * w_8))) cx [(2, { tell := some (.i .i64 ((2 : Int) * w_8)) }), (3, { tell := some (.i .i64 (f_16 + (2 : Int) * w_8)) })] [1, 5, 7, 8, 9, 10] [1005, 36] ⟨(told_i64 (by omega) (by omega)), (told_i64 (by omega) (by omega))⟩ ?_
  refine sn ?_
  refine loop_next ((f_16 + (2 : Int) * w_8, l_29, m_30)) (by kernel_rfl) (show ((↑l_1.length : Int) - (f_16 + (2 : Int) * w_8)).toNat < ((↑l_1.length : Int) - f_16).toNat from (by omega)) (show invB2 (leM m) l_9 (↑l_1.length : Int) w_8 (f_16 + (2 : Int) * w_8) l_29 m_30 from ?g9); rotate_left 1
  refine st_skip (by kernel_rfl) ?_
  refine sn ?_
  refine sq ?_
  refine rg (A := (AV.i IntKind.i64 (IntKind.i64.wrap (f_16 + w_8 + w_8)) = AV.i IntKind.i64 (f_16 + w_8 + w_8))) cx [(2, { tell := some (.i .i64 (f_16 + w_8 + w_8)) })] [1, 5, 7, 8, 9, 10, 11, 12] [1005, 36] (told_i64 (by omega) (by omega)) ?_
  refine sn ?_
  refine sq ?_
  refine sq ?_
  refine rg (A := (AV.b (decide (f_16 + w_8 + w_8 > (↑l_1.length : Int))) = AV.b (decide ((↑l_1.length : Int) < f_16 + w_8 + w_8)))) cx [(2, { tell := some (.b (decide ((↑l_1.length : Int) < f_16 + w_8 + w_8))) })] [1, 5, 7, 8, 9, 10, 11, 12, 56] [1005, 36] (by kernel_rfl) ?_
  refine sn ?_
  refine st_dec ((↑l_1.length : Int) < f_16 + w_8 + w_8) (by kernel_rfl) (by kernel_rfl) (fun h_43 => ?_) (fun h_43 => ?_)
  refine rg (A := True) cx [] [1, 5, 7, 8, 9, 10, 11, 12] [1005, 36] trivial ?_
  refine sn ?_
  refine sq ?_
  refine rg (A := True) cx [] [1, 5, 7, 8, 9, 10, 11, 12, 13] [1005, 36] trivial ?_
  refine sn ?_
  refine sq ?_
  refine rg (A := True) cx [] ([1, 5] ++ List.range' 7 8) [1005, 36] trivial ?_
  refine sn ?_
  refine st_block 6 (by kernel_rfl) ?_
  refine st_loop (X := Int × Int × List Entry × List Entry) (fun x => ⟨[(1, .i .i64 (m)), (5, .own 1005 0), (7, .i .i64 ((↑l_1.length : Int))), (8, .i .i64 (w_8)), (9, .own 36 0), (10, .i .i64 (f_16)), (11, .i .i64 (f_16 + w_8)), (12, .i .i64 ((↑l_1.length : Int))), (13, .i .i64 (x.fst)), (14, .i .i64 (x.snd.fst))], [(1005, ⟨0, 28, .row 4 (List.map c28 x.snd.snd.fst)⟩), (36, ⟨0, 28, .row 4 (List.map c28 x.snd.snd.snd)⟩)]⟩) (fun x ↦ decB3 (min (f_16 + w_8) (↑l_1.length : Int)) (min (min (f_16 + w_8) (↑l_1.length : Int) + w_8) (↑l_1.length : Int)) x.fst x.snd.fst x.snd.snd.fst x.snd.snd.snd) (fun x ↦ invB3 (leM m) l_17 f_16 (min (f_16 + w_8) (↑l_1.length : Int)) (min (min (f_16 + w_8) (↑l_1.length : Int) + w_8) (↑l_1.length : Int)) m_18 x.fst x.snd.fst x.snd.snd.fst x.snd.snd.snd) ([1, 5] ++ List.range' 7 8) [1005, 36] ((f_16, f_16 + w_8, l_17, m_18)) (by kernel_rfl) (by kernel_rfl) (show invB3 (leM m) l_17 f_16 (min (f_16 + w_8) (↑l_1.length : Int)) (min (min (f_16 + w_8) (↑l_1.length : Int) + w_8) (↑l_1.length : Int)) m_18 f_16 (f_16 + w_8) l_17 m_18 from ?g10) ?_; rotate_left 1
  rintro ⟨i_44, j_45, l_46, m_47⟩ h_48
  obtain ⟨h_49, h_50, h_51, h_52, h_53, h_54, h_55⟩ : l_46 = l_17 ∧ f_16 ≤ i_44 ∧ i_44 ≤ min (f_16 + w_8) (↑l_1.length : Int) ∧ min (f_16 + w_8) (↑l_1.length : Int) ≤ j_45 ∧ j_45 ≤ min (min (f_16 + w_8) (↑l_1.length : Int) + w_8) (↑l_1.length : Int) ∧ (↑m_47.length : Int) = i_44 + (j_45 - min (f_16 + w_8) (↑l_1.length : Int)) ∧ m_47 ++ (subP l_17 i_44 (min (f_16 + w_8) (↑l_1.length : Int))).merge (subP l_17 j_45 (min (min (f_16 + w_8) (↑l_1.length : Int) + w_8) (↑l_1.length : Int))) (leM m) = m_18 ++ (subP l_17 f_16 (min (f_16 + w_8) (↑l_1.length : Int))).merge (subP l_17 (min (f_16 + w_8) (↑l_1.length : Int)) (min (min (f_16 + w_8) (↑l_1.length : Int) + w_8) (↑l_1.length : Int))) (leM m) := h_48
  refine sq ?_
  refine sq ?_
  refine st_join (σ' := ⟨[(1, .i .i64 (m)), (5, .own 1005 0), (7, .i .i64 ((↑l_1.length : Int))), (8, .i .i64 (w_8)), (9, .own 36 0), (10, .i .i64 (f_16)), (11, .i .i64 (f_16 + w_8)), (12, .i .i64 ((↑l_1.length : Int))), (13, .i .i64 (i_44)), (14, .i .i64 (j_45)), (67, .b (decide (i_44 < f_16 + w_8 ∨ j_45 < (↑l_1.length : Int))))], [(1005, ⟨0, 28, .row 4 (List.map c28 l_46)⟩), (36, ⟨0, 28, .row 4 (List.map c28 m_47)⟩)]⟩) ?_ ?_
  refine st_split (i_44 < f_16 + w_8) (fun h_57 => ?_) (fun h_57 => ?_)
  refine rg (A := _ ∧ (AV.b true = AV.b (decide (i_44 < f_16 + w_8 ∨ j_45 < (↑l_1.length : Int))))) cx [(2, { tell := some (.b (true)) }), (7, { tell := some (.b (decide (i_44 < f_16 + w_8 ∨ j_45 < (↑l_1.length : Int)))) })] ([1, 5] ++ List.range' 7 8 ++ [67]) [1005, 36] ⟨(told_true h_57), (by simp only [eq_true h_57, told_simp1, told_simp2, and_true, true_and, and_false, false_and, or_true, true_or, or_false, false_or, not_true_eq_false, not_false_eq_true, decide_true, decide_false, Bool.decide_eq_true])⟩ ?_
  exact ⟨rfl, by kernel_rfl⟩
  refine rg (A := _ ∧ (AV.b (decide (j_45 < (↑l_1.length : Int))) = AV.b (decide (j_45 < (↑l_1.length : Int)))) ∧ (AV.b (decide (j_45 < (↑l_1.length : Int))) = AV.b (decide (i_44 < f_16 + w_8 ∨ j_45 < (↑l_1.length : Int))))) cx [(2, { tell := some (.b (false)) }), (6, { tell := some (.b (decide (j_45 < (↑l_1.length : Int)))) }), (7, { tell := some (.b (decide (i_44 < f_16 + w_8 ∨ j_45 < (↑l_1.length : Int)))) })] ([1, 5] ++ List.range' 7 8 ++ [67]) [1005, 36] ⟨(told_false h_57), (by kernel_rfl), (by simp only [eq_false h_57, told_simp1, told_simp2, and_true, true_and, and_false, false_and, or_true, true_or, or_false, false_or, not_true_eq_false, not_false_eq_true, decide_true, decide_false, Bool.decide_eq_true])⟩ ?_
  exact ⟨rfl, by kernel_rfl⟩
  refine sn ?_
  refine st_dec (i_44 < f_16 + w_8 ∨ j_45 < (↑l_1.length : Int)) (by kernel_rfl) (by kernel_rfl) (fun h_58 => ?_) (fun h_58 => ?_)
  refine st_skip (by kernel_rfl) ?_
  refine sn ?_
  refine st_block 7 (by kernel_rfl) ?_
  refine sq ?_
  refine st_join (σ' := ⟨[(1, .i .i64 (m)), (5, .own 1005 0), (7, .i .i64 ((↑l_1.length : Int))), (8, .i .i64 (w_8)), (9, .own 36 0), (10, .i .i64 (f_16)), (11, .i .i64 (f_16 + w_8)), (12, .i .i64 ((↑l_1.length : Int))), (13, .i .i64 (i_44)), (14, .i .i64 (j_45)), (88, .b (decide ((↑l_1.length : Int) ≤ j_45 ∨ i_44 < f_16 + w_8 ∧ ¬laterV l_46[i_44.toNat]! l_46[j_45.toNat]! m = true)))], [(1005, ⟨0, 28, .row 4 (List.map c28 l_46)⟩), (36, ⟨0, 28, .row 4 (List.map c28 m_47)⟩)]⟩) ?_ ?_
  refine st_split ((↑l_1.length : Int) ≤ j_45) (fun h_60 => ?_) (fun h_60 => ?_)
  refine ra (A := _ ∧ (AV.b true = AV.b (decide ((↑l_1.length : Int) ≤ j_45 ∨ i_44 < f_16 + w_8 ∧ ¬laterV l_46[i_44.toNat]! l_46[j_45.toNat]! m = true)))) cx [(2, { tell := some (.b (true)) }), (20, { tell := some (.b (decide ((↑l_1.length : Int) ≤ j_45 ∨ i_44 < f_16 + w_8 ∧ ¬laterV l_46[i_44.toNat]! l_46[j_45.toNat]! m = true))) })] ([1, 5] ++ List.range' 7 8 ++ [88]) [1005, 36] ⟨(told_true h_60), (by simp only [eq_true h_60, told_simp1, told_simp2, and_true, true_and, and_false, false_and, or_true, true_or, or_false, false_or, not_true_eq_false, not_false_eq_true, decide_true, decide_false, Bool.decide_eq_true])⟩ ?_
  exact ⟨rfl, by kernel_rfl⟩
  refine st_split (i_44 < f_16 + w_8) (fun h_61 => ?_) (fun h_61 => ?_)
  refine ra (A := _ ∧ _ ∧ ((0 : Int) ≤ i_44) ∧ (i_44.toNat < (List.map c28 l_46).length) ∧ ((4 : Nat) = 4) ∧ (E.rowAt { ver := 0, ty := 28, k := BK.row (4) (List.map c28 l_46) : Blk } i_44.toNat (c28 l_46[i_44.toNat]!)) ∧ (0 + (4 : Nat) ≤ (c28 l_46[i_44.toNat]!).length) ∧ ((0 : Int) ≤ j_45) ∧ (j_45.toNat < (List.map c28 l_46).length) ∧ ((4 : Nat) = 4) ∧ (E.rowAt { ver := 0, ty := 28, k := BK.row (4) (List.map c28 l_46) : Blk } j_45.toNat (c28 l_46[j_45.toNat]!)) ∧ (0 + (4 : Nat) ≤ (c28 l_46[j_45.toNat]!).length) ∧ _ ∧ ((AV.b !laterV l_46[i_44.toNat]! l_46[j_45.toNat]! m) = AV.b (decide ¬laterV l_46[i_44.toNat]! l_46[j_45.toNat]! m = true)) ∧ (AV.b (decide ¬laterV l_46[i_44.toNat]! l_46[j_45.toNat]! m = true) = AV.b (decide ((↑l_1.length : Int) ≤ j_45 ∨ i_44 < f_16 + w_8 ∧ ¬laterV l_46[i_44.toNat]! l_46[j_45.toNat]! m = true)))) cx [(2, { tell := some (.b (false)) }), (6, { tell := some (.b (true)) }), (11, { row := (c28 l_46[i_44.toNat]!) }), (15, { row := (c28 l_46[j_45.toNat]!) }), (17, { val := some (.b (laterV l_46[i_44.toNat]! l_46[j_45.toNat]! m)) }), (18, { tell := some (.b (decide ¬laterV l_46[i_44.toNat]! l_46[j_45.toNat]! m = true)) }), (20, { tell := some (.b (decide ((↑l_1.length : Int) ≤ j_45 ∨ i_44 < f_16 + w_8 ∧ ¬laterV l_46[i_44.toNat]! l_46[j_45.toNat]! m = true))) })] ([1, 5] ++ List.range' 7 8 ++ [88]) [1005, 36] ⟨(told_false h_60), (told_true h_61), (by omega), ?g11, (by kernel_rfl), ?g12, ?g13, (by omega), ?g14, (by kernel_rfl), ?g15, ?g16, (con76 (l_46[i_44.toNat]!) (l_46[j_45.toNat]!) (m)), (told_not), (by simp only [eq_false h_60, eq_true h_61, told_simp1, told_simp2, and_true, true_and, and_false, false_and, or_true, true_or, or_false, false_or, not_true_eq_false, not_false_eq_true, decide_true, decide_false, Bool.decide_eq_true])⟩ ?_; rotate_left 6
  exact ⟨rfl, by kernel_rfl⟩
  refine ra (A := _ ∧ _ ∧ (AV.b false = AV.b (decide ((↑l_1.length : Int) ≤ j_45 ∨ i_44 < f_16 + w_8 ∧ ¬laterV l_46[i_44.toNat]! l_46[j_45.toNat]! m = true)))) cx [(2, { tell := some (.b (false)) }), (6, { tell := some (.b (false)) }), (20, { tell := some (.b (decide ((↑l_1.length : Int) ≤ j_45 ∨ i_44 < f_16 + w_8 ∧ ¬laterV l_46[i_44.toNat]! l_46[j_45.toNat]! m = true))) })] ([1, 5] ++ List.range' 7 8 ++ [88]) [1005, 36] ⟨(told_false h_60), (told_false h_61), (by simp only [eq_false h_60, eq_false h_61, told_simp1, told_simp2, and_true, true_and, and_false, false_and, or_true, true_or, or_false, false_or, not_true_eq_false, not_false_eq_true, decide_true, decide_false, Bool.decide_eq_true])⟩ ?_
  exact ⟨rfl, by kernel_rfl⟩
  refine sn ?_
  refine st_dec ((↑l_1.length : Int) ≤ j_45 ∨ i_44 < f_16 + w_8 ∧ ¬laterV l_46[i_44.toNat]! l_46[j_45.toNat]! m = true) (by kernel_rfl) (by kernel_rfl) (fun h_62 => ?_) (fun h_62 => ?_)
  refine sq ?_
  refine rg (A := ((0 : Int) ≤ i_44) ∧ (i_44.toNat < (List.map c28 l_46).length) ∧ ((4 : Nat) = 4) ∧ (E.rowAt { ver := 0, ty := 28, k := BK.row (4) (List.map c28 l_46) : Blk } i_44.toNat (c28 l_46[i_44.toNat]!)) ∧ (0 + (4 : Nat) ≤ (c28 l_46[i_44.toNat]!).length) ∧ (28 = (28 : Nat)) ∧ ((4 : Nat) = 4) ∧ ([AV.i IntKind.i64 (0 : Int), AV.i IntKind.i64 (0 : Int), AV.s { data := #[] : ByteArray }, AV.i IntKind.i64 (0 : Int)].length = (4 : Nat)) ∧ (∀ (r : List AV), r ∈ List.map c28 [l_46[i_44.toNat]!] → r.length = 4) ∧ ((List.map c28 m_47).length + (List.map c28 [l_46[i_44.toNat]!]).length ≤ maxLen) ∧ (((List.map c28 m_47).length + (List.map c28 [l_46[i_44.toNat]!]).length) * (40 : Nat) ≤ (140737488355328 : Nat)) ∧ (List.map c28 m_47 ++ List.map c28 [l_46[i_44.toNat]!] = List.map c28 (m_47 ++ [l_46[i_44.toNat]!]))) cx [(4, { row := (c28 l_46[i_44.toNat]!) }), (6, { rows := some (List.map c28 (m_47 ++ [l_46[i_44.toNat]!])) })] ([1, 5] ++ List.range' 7 8) [1005, 36] ⟨(by omega), ?g17, (by kernel_rfl), ?g18, ?g19, (by kernel_rfl), (by kernel_rfl), (by kernel_rfl), (by (with_reducible refine len_map (fun _ => ?_) _; kernel_rfl)), (by (simp only [Go.maxLen, List.length_map, List.length_append, List.length_cons, List.length_nil]; omega)), (by (simp only [Go.maxLen, List.length_map, List.length_append, List.length_cons, List.length_nil]; omega)), (by (with_reducible refine app_map ?_; kernel_rfl))⟩ ?_; rotate_left 3
  refine sn ?_
  refine rg (A := (AV.i IntKind.i64 (IntKind.i64.wrap (i_44 + (1 : Int))) = AV.i IntKind.i64 (i_44 + (1 : Int)))) cx [(1, { tell := some (.i .i64 (i_44 + (1 : Int))) })] ([1, 5] ++ List.range' 7 8) [1005, 36] (told_i64 (by omega) (by omega)) ?_
  refine q_blk_normal ?_
  refine sn ?_
  refine loop_next ((i_44 + (1 : Int), j_45, l_46, m_47 ++ [l_46[i_44.toNat]!])) (by kernel_rfl) (show (min (f_16 + w_8) (↑l_1.length : Int) - (i_44 + (1 : Int)) + (min (min (f_16 + w_8) (↑l_1.length : Int) + w_8) (↑l_1.length : Int) - j_45)).toNat < (min (f_16 + w_8) (↑l_1.length : Int) - i_44 + (min (min (f_16 + w_8) (↑l_1.length : Int) + w_8) (↑l_1.length : Int) - j_45)).toNat from (by omega)) (show invB3 (leM m) l_17 f_16 (min (f_16 + w_8) (↑l_1.length : Int)) (min (min (f_16 + w_8) (↑l_1.length : Int) + w_8) (↑l_1.length : Int)) m_18 (i_44 + (1 : Int)) j_45 l_46 (m_47 ++ [l_46[i_44.toNat]!]) from ?g20); rotate_left 1
  refine sq ?_
  refine rg (A := ((0 : Int) ≤ j_45) ∧ (j_45.toNat < (List.map c28 l_46).length) ∧ ((4 : Nat) = 4) ∧ (E.rowAt { ver := 0, ty := 28, k := BK.row (4) (List.map c28 l_46) : Blk } j_45.toNat (c28 l_46[j_45.toNat]!)) ∧ (0 + (4 : Nat) ≤ (c28 l_46[j_45.toNat]!).length) ∧ (28 = (28 : Nat)) ∧ ((4 : Nat) = 4) ∧ ([AV.i IntKind.i64 (0 : Int), AV.i IntKind.i64 (0 : Int), AV.s { data := #[] : ByteArray }, AV.i IntKind.i64 (0 : Int)].length = (4 : Nat)) ∧ (∀ (r : List AV), r ∈ List.map c28 [l_46[j_45.toNat]!] → r.length = 4) ∧ ((List.map c28 m_47).length + (List.map c28 [l_46[j_45.toNat]!]).length ≤ maxLen) ∧ (((List.map c28 m_47).length + (List.map c28 [l_46[j_45.toNat]!]).length) * (40 : Nat) ≤ (140737488355328 : Nat)) ∧ (List.map c28 m_47 ++ List.map c28 [l_46[j_45.toNat]!] = List.map c28 (m_47 ++ [l_46[j_45.toNat]!]))) cx [(4, { row := (c28 l_46[j_45.toNat]!) }), (6, { rows := some (List.map c28 (m_47 ++ [l_46[j_45.toNat]!])) })] ([1, 5] ++ List.range' 7 8) [1005, 36] ⟨(by omega), ?g21, (by kernel_rfl), ?g22, ?g23, (by kernel_rfl), (by kernel_rfl), (by kernel_rfl), (by (with_reducible refine len_map (fun _ => ?_) _; kernel_rfl)), (by (simp only [Go.maxLen, List.length_map, List.length_append, List.length_cons, List.length_nil]; omega)), (by (simp only [Go.maxLen, List.length_map, List.length_append, List.length_cons, List.length_nil]; omega)), (by (with_reducible refine app_map ?_; kernel_rfl))⟩ ?_; rotate_left 3
  refine sn ?_
  refine rg (A := (AV.i IntKind.i64 (IntKind.i64.wrap (j_45 + (1 : Int))) = AV.i IntKind.i64 (j_45 + (1 : Int)))) cx [(1, { tell := some (.i .i64 (j_45 + (1 : Int))) })] ([1, 5] ++ List.range' 7 8) [1005, 36] (told_i64 (by omega) (by omega)) ?_
  refine q_blk_normal ?_
  refine sn ?_
  refine loop_next ((i_44, j_45 + (1 : Int), l_46, m_47 ++ [l_46[j_45.toNat]!])) (by kernel_rfl) (show (min (f_16 + w_8) (↑l_1.length : Int) - i_44 + (min (min (f_16 + w_8) (↑l_1.length : Int) + w_8) (↑l_1.length : Int) - (j_45 + (1 : Int)))).toNat < (min (f_16 + w_8) (↑l_1.length : Int) - i_44 + (min (min (f_16 + w_8) (↑l_1.length : Int) + w_8) (↑l_1.length : Int) - j_45)).toNat from (by omega)) (show invB3 (leM m) l_17 f_16 (min (f_16 + w_8) (↑l_1.length : Int)) (min (min (f_16 + w_8) (↑l_1.length : Int) + w_8) (↑l_1.length : Int)) m_18 i_44 (j_45 + (1 : Int)) l_46 (m_47 ++ [l_46[j_45.toNat]!]) from ?g24); rotate_left 1
  refine st_exit 6 (by kernel_rfl) ?_
  refine q_seq_exit ?_
  refine q_seq_exit ?_
  refine q_blk_hit ?_
  refine q_blk_normal ?_
  refine sn ?_
  refine rg (A := (AV.i IntKind.i64 (IntKind.i64.wrap ((2 : Int) * w_8)) = AV.i IntKind.i64 ((2 : Int) * w_8)) ∧ (AV.i IntKind.i64 (IntKind.i64.wrap (f_16 + (2 : Int) * w_8)) = AV.i IntKind.i64 (f_16 + (2 : Int) * w_8))) cx [(2, { tell := some (.i .i64 ((2 : Int) * w_8)) }), (3, { tell := some (.i .i64 (f_16 + (2 : Int) * w_8)) })] [1, 5, 7, 8, 9, 10] [1005, 36] ⟨(told_i64 (by omega) (by omega)), (told_i64 (by omega) (by omega))⟩ ?_
  refine sn ?_
  refine loop_next ((f_16 + (2 : Int) * w_8, l_46, m_47)) (by kernel_rfl) (show ((↑l_1.length : Int) - (f_16 + (2 : Int) * w_8)).toNat < ((↑l_1.length : Int) - f_16).toNat from (by omega)) (show invB2 (leM m) l_9 (↑l_1.length : Int) w_8 (f_16 + (2 : Int) * w_8) l_46 m_47 from ?g25); rotate_left 1
  refine st_skip (by kernel_rfl) ?_
  refine sn ?_
  refine sq ?_
  refine rg (A := True) cx [] [1, 5, 7, 8, 9, 10, 11, 12, 13] [1005, 36] trivial ?_
  refine sn ?_
  refine sq ?_
  refine rg (A := True) cx [] ([1, 5] ++ List.range' 7 8) [1005, 36] trivial ?_
  refine sn ?_
  refine st_block 6 (by kernel_rfl) ?_
  refine st_loop (X := Int × Int × List Entry × List Entry) (fun x => ⟨[(1, .i .i64 (m)), (5, .own 1005 0), (7, .i .i64 ((↑l_1.length : Int))), (8, .i .i64 (w_8)), (9, .own 36 0), (10, .i .i64 (f_16)), (11, .i .i64 (f_16 + w_8)), (12, .i .i64 (f_16 + w_8 + w_8)), (13, .i .i64 (x.fst)), (14, .i .i64 (x.snd.fst))], [(1005, ⟨0, 28, .row 4 (List.map c28 x.snd.snd.fst)⟩), (36, ⟨0, 28, .row 4 (List.map c28 x.snd.snd.snd)⟩)]⟩) (fun x ↦ decB3 (min (f_16 + w_8) (↑l_1.length : Int)) (min (min (f_16 + w_8) (↑l_1.length : Int) + w_8) (↑l_1.length : Int)) x.fst x.snd.fst x.snd.snd.fst x.snd.snd.snd) (fun x ↦ invB3 (leM m) l_17 f_16 (min (f_16 + w_8) (↑l_1.length : Int)) (min (min (f_16 + w_8) (↑l_1.length : Int) + w_8) (↑l_1.length : Int)) m_18 x.fst x.snd.fst x.snd.snd.fst x.snd.snd.snd) ([1, 5] ++ List.range' 7 8) [1005, 36] ((f_16, f_16 + w_8, l_17, m_18)) (by kernel_rfl) (by kernel_rfl) (show invB3 (leM m) l_17 f_16 (min (f_16 + w_8) (↑l_1.length : Int)) (min (min (f_16 + w_8) (↑l_1.length : Int) + w_8) (↑l_1.length : Int)) m_18 f_16 (f_16 + w_8) l_17 m_18 from ?g26) ?_; rotate_left 1
  rintro ⟨i_63, j_64, l_65, m_66⟩ h_67
  obtain ⟨h_68, h_69, h_70, h_71, h_72, h_73, h_74⟩ : l_65 = l_17 ∧ f_16 ≤ i_63 ∧ i_63 ≤ min (f_16 + w_8) (↑l_1.length : Int) ∧ min (f_16 + w_8) (↑l_1.length : Int) ≤ j_64 ∧ j_64 ≤ min (min (f_16 + w_8) (↑l_1.length : Int) + w_8) (↑l_1.length : Int) ∧ (↑m_66.length : Int) = i_63 + (j_64 - min (f_16 + w_8) (↑l_1.length : Int)) ∧ m_66 ++ (subP l_17 i_63 (min (f_16 + w_8) (↑l_1.length : Int))).merge (subP l_17 j_64 (min (min (f_16 + w_8) (↑l_1.length : Int) + w_8) (↑l_1.length : Int))) (leM m) = m_18 ++ (subP l_17 f_16 (min (f_16 + w_8) (↑l_1.length : Int))).merge (subP l_17 (min (f_16 + w_8) (↑l_1.length : Int)) (min (min (f_16 + w_8) (↑l_1.length : Int) + w_8) (↑l_1.length : Int))) (leM m) := h_67
  refine sq ?_
  refine sq ?_
  refine st_join (σ' := ⟨[(1, .i .i64 (m)), (5, .own 1005 0), (7, .i .i64 ((↑l_1.length : Int))), (8, .i .i64 (w_8)), (9, .own 36 0), (10, .i .i64 (f_16)), (11, .i .i64 (f_16 + w_8)), (12, .i .i64 (f_16 + w_8 + w_8)), (13, .i .i64 (i_63)), (14, .i .i64 (j_64)), (67, .b (decide (i_63 < f_16 + w_8 ∨ j_64 < f_16 + w_8 + w_8)))], [(1005, ⟨0, 28, .row 4 (List.map c28 l_65)⟩), (36, ⟨0, 28, .row 4 (List.map c28 m_66)⟩)]⟩) ?_ ?_
  refine st_split (i_63 < f_16 + w_8) (fun h_76 => ?_) (fun h_76 => ?_)
  refine rg (A := _ ∧ (AV.b true = AV.b (decide (i_63 < f_16 + w_8 ∨ j_64 < f_16 + w_8 + w_8)))) cx [(2, { tell := some (.b (true)) }), (7, { tell := some (.b (decide (i_63 < f_16 + w_8 ∨ j_64 < f_16 + w_8 + w_8))) })] ([1, 5] ++ List.range' 7 8 ++ [67]) [1005, 36] ⟨(told_true h_76), (by simp only [eq_true h_76, told_simp1, told_simp2, and_true, true_and, and_false, false_and, or_true, true_or, or_false, false_or, not_true_eq_false, not_false_eq_true, decide_true, decide_false, Bool.decide_eq_true])⟩ ?_
  exact ⟨rfl, by kernel_rfl⟩
  refine rg (A := _ ∧ (AV.b (decide (j_64 < f_16 + w_8 + w_8)) = AV.b (decide (j_64 < f_16 + w_8 + w_8))) ∧ (AV.b (decide (j_64 < f_16 + w_8 + w_8)) = AV.b (decide (i_63 < f_16 + w_8 ∨ j_64 < f_16 + w_8 + w_8)))) cx [(2, { tell := some (.b (false)) }), (6, { tell := some (.b (decide (j_64 < f_16 + w_8 + w_8))) }), (7, { tell := some (.b (decide (i_63 < f_16 + w_8 ∨ j_64 < f_16 + w_8 + w_8))) })] ([1, 5] ++ List.range' 7 8 ++ [67]) [1005, 36] ⟨(told_false h_76), (by kernel_rfl), (by simp only [eq_false h_76, told_simp1, told_simp2, and_true, true_and, and_false, false_and, or_true, true_or, or_false, false_or, not_true_eq_false, not_false_eq_true, decide_true, decide_false, Bool.decide_eq_true])⟩ ?_
  exact ⟨rfl, by kernel_rfl⟩
  refine sn ?_
  refine st_dec (i_63 < f_16 + w_8 ∨ j_64 < f_16 + w_8 + w_8) (by kernel_rfl) (by kernel_rfl) (fun h_77 => ?_) (fun h_77 => ?_)
  refine st_skip (by kernel_rfl) ?_
  refine sn ?_
  refine st_block 7 (by kernel_rfl) ?_
  refine sq ?_
  refine st_join (σ' := ⟨[(1, .i .i64 (m)), (5, .own 1005 0), (7, .i .i64 ((↑l_1.length : Int))), (8, .i .i64 (w_8)), (9, .own 36 0), (10, .i .i64 (f_16)), (11, .i .i64 (f_16 + w_8)), (12, .i .i64 (f_16 + w_8 + w_8)), (13, .i .i64 (i_63)), (14, .i .i64 (j_64)), (88, .b (decide (f_16 + w_8 + w_8 ≤ j_64 ∨ i_63 < f_16 + w_8 ∧ ¬laterV l_65[i_63.toNat]! l_65[j_64.toNat]! m = true)))], [(1005, ⟨0, 28, .row 4 (List.map c28 l_65)⟩), (36, ⟨0, 28, .row 4 (List.map c28 m_66)⟩)]⟩) ?_ ?_
  refine st_split (f_16 + w_8 + w_8 ≤ j_64) (fun h_79 => ?_) (fun h_79 => ?_)
  refine ra (A := _ ∧ (AV.b true = AV.b (decide (f_16 + w_8 + w_8 ≤ j_64 ∨ i_63 < f_16 + w_8 ∧ ¬laterV l_65[i_63.toNat]! l_65[j_64.toNat]! m = true)))) cx [(2, { tell := some (.b (true)) }), (20, { tell := some (.b (decide (f_16 + w_8 + w_8 ≤ j_64 ∨ i_63 < f_16 + w_8 ∧ ¬laterV l_65[i_63.toNat]! l_65[j_64.toNat]! m = true))) })] ([1, 5] ++ List.range' 7 8 ++ [88]) [1005, 36] ⟨(told_true h_79), (by simp only [eq_true h_79, told_simp1, told_simp2, and_true, true_and, and_false, false_and, or_true, true_or, or_false, false_or, not_true_eq_false, not_false_eq_true, decide_true, decide_false, Bool.decide_eq_true])⟩ ?_
  exact ⟨rfl, by kernel_rfl⟩
  refine st_split (i_63 < f_16 + w_8) (fun h_80 => ?_) (fun h_80 => ?_)
  refine ra (A := _ ∧ _ ∧ ((0 : Int) ≤ i_63) ∧ (i_63.toNat < (List.map c28 l_65).length) ∧ ((4 : Nat) = 4) ∧ (E.rowAt { ver := 0, ty := 28, k := BK.row (4) (List.map c28 l_65) : Blk } i_63.toNat (c28 l_65[i_63.toNat]!)) ∧ (0 + (4 : Nat) ≤ (c28 l_65[i_63.toNat]!).length) ∧ ((0 : Int) ≤ j_64) ∧ (j_64.toNat < (List.map c28 l_65).length) ∧ ((4 : Nat) = 4) ∧ (E.rowAt { ver := 0, ty := 28, k := BK.row (4) (List.map c28 l_65) : Blk } j_64.toNat (c28 l_65[j_64.toNat]!)) ∧ (0 + (4 : Nat) ≤ (c28 l_65[j_64.toNat]!).length) ∧ _ ∧ ((AV.b !laterV l_65[i_63.toNat]! l_65[j_64.toNat]! m) = AV.b (decide ¬laterV l_65[i_63.toNat]! l_65[j_64.toNat]! m = true)) ∧ (AV.b (decide ¬laterV l_65[i_63.toNat]! l_65[j_64.toNat]! m = true) = AV.b (decide (f_16 + w_8 + w_8 ≤ j_64 ∨ i_63 < f_16 + w_8 ∧ ¬laterV l_65[i_63.toNat]! l_65[j_64.toNat]! m = true)))) cx [(2, { tell := some (.b (false)) }), (6, { tell := some (.b (true)) }), (11, { row := (c28 l_65[i_63.toNat]!) }), (15, { row := (c28 l_65[j_64.toNat]!) }), (17, { val := some (.b (laterV l_65[i_63.toNat]! l_65[j_64.toNat]! m)) }), (18, { tell := some (.b (decide ¬laterV l_65[i_63.toNat]! l_65[j_64.toNat]! m = true)) }), (20, { tell := some (.b (decide (f_16 + w_8 + w_8 ≤ j_64 ∨ i_63 < f_16 + w_8 ∧ ¬laterV l_65[i_63.toNat]! l_65[j_64.toNat]! m = true))) })] ([1, 5] ++ List.range' 7 8 ++ [88]) [1005, 36] ⟨(told_false h_79), (told_true h_80), (by omega), ?g27, (by kernel_rfl), ?g28, ?g29, (by omega), ?g30, (by kernel_rfl), ?g31, ?g32, (con76 (l_65[i_63.toNat]!) (l_65[j_64.toNat]!) (m)), (told_not), (by simp only [eq_false h_79, eq_true h_80, told_simp1, told_simp2, and_true, true_and, and_false, false_and, or_true, true_or, or_false, false_or, not_true_eq_false, not_false_eq_true, decide_true, decide_false, Bool.decide_eq_true])⟩ ?_; rotate_left 6
  exact ⟨rfl, by kernel_rfl⟩
  refine ra (A := _ ∧ _ ∧ (AV.b false = AV.b (decide (f_16 + w_8 + w_8 ≤ j_64 ∨ i_63 < f_16 + w_8 ∧ ¬laterV l_65[i_63.toNat]! l_65[j_64.toNat]! m = true)))) cx [(2, { tell := some (.b (false)) }), (6, { tell := some (.b (false)) }), (20, { tell := some (.b (decide (f_16 + w_8 + w_8 ≤ j_64 ∨ i_63 < f_16 + w_8 ∧ ¬laterV l_65[i_63.toNat]! l_65[j_64.toNat]! m = true))) })] ([1, 5] ++ List.range' 7 8 ++ [88]) [1005, 36] ⟨(told_false h_79), (told_false h_80), (by simp only [eq_false h_79, eq_false h_80, told_simp1, told_simp2, and_true, true_and, and_false, false_and, or_true, true_or, or_false, false_or, not_true_eq_false, not_false_eq_true, decide_true, decide_false, Bool.decide_eq_true])⟩ ?_
  exact ⟨rfl, by kernel_rfl⟩
  refine sn ?_
  refine st_dec (f_16 + w_8 + w_8 ≤ j_64 ∨ i_63 < f_16 + w_8 ∧ ¬laterV l_65[i_63.toNat]! l_65[j_64.toNat]! m = true) (by kernel_rfl) (by kernel_rfl) (fun h_81 => ?_) (fun h_81 => ?_)
  refine sq ?_
  refine rg (A := ((0 : Int) ≤ i_63) ∧ (i_63.toNat < (List.map c28 l_65).length) ∧ ((4 : Nat) = 4) ∧ (E.rowAt { ver := 0, ty := 28, k := BK.row (4) (List.map c28 l_65) : Blk } i_63.toNat (c28 l_65[i_63.toNat]!)) ∧ (0 + (4 : Nat) ≤ (c28 l_65[i_63.toNat]!).length) ∧ (28 = (28 : Nat)) ∧ ((4 : Nat) = 4) ∧ ([AV.i IntKind.i64 (0 : Int), AV.i IntKind.i64 (0 : Int), AV.s { data := #[] : ByteArray }, AV.i IntKind.i64 (0 : Int)].length = (4 : Nat)) ∧ (∀ (r : List AV), r ∈ List.map c28 [l_65[i_63.toNat]!] → r.length = 4) ∧ ((List.map c28 m_66).length + (List.map c28 [l_65[i_63.toNat]!]).length ≤ maxLen) ∧ (((List.map c28 m_66).length + (List.map c28 [l_65[i_63.toNat]!]).length) * (40 : Nat) ≤ (140737488355328 : Nat)) ∧ (List.map c28 m_66 ++ List.map c28 [l_65[i_63.toNat]!] = List.map c28 (m_66 ++ [l_65[i_63.toNat]!]))) cx [(4, { row := (c28 l_65[i_63.toNat]!) }), (6, { rows := some (List.map c28 (m_66 ++ [l_65[i_63.toNat]!])) })] ([1, 5] ++ List.range' 7 8) [1005, 36] ⟨(by omega), ?g33, (by kernel_rfl), ?g34, ?g35, (by kernel_rfl), (by kernel_rfl), (by kernel_rfl), (by (with_reducible refine len_map (fun _ => ?_) _; kernel_rfl)), (by (simp only [Go.maxLen, List.length_map, List.length_append, List.length_cons, List.length_nil]; omega)), (by (simp only [Go.maxLen, List.length_map, List.length_append, List.length_cons, List.length_nil]; omega)), (by (with_reducible refine app_map ?_; kernel_rfl))⟩ ?_; rotate_left 3
  refine sn ?_
  refine rg (A := (AV.i IntKind.i64 (IntKind.i64.wrap (i_63 + (1 : Int))) = AV.i IntKind.i64 (i_63 + (1 : Int)))) cx [(1, { tell := some (.i .i64 (i_63 + (1 : Int))) })] ([1, 5] ++ List.range' 7 8) [1005, 36] (told_i64 (by omega) (by omega)) ?_
  refine q_blk_normal ?_
  refine sn ?_
  refine loop_next ((i_63 + (1 : Int), j_64, l_65, m_66 ++ [l_65[i_63.toNat]!])) (by kernel_rfl) (show (min (f_16 + w_8) (↑l_1.length : Int) - (i_63 + (1 : Int)) + (min (min (f_16 + w_8) (↑l_1.length : Int) + w_8) (↑l_1.length : Int) - j_64)).toNat < (min (f_16 + w_8) (↑l_1.length : Int) - i_63 + (min (min (f_16 + w_8) (↑l_1.length : Int) + w_8) (↑l_1.length : Int) - j_64)).toNat from (by omega)) (show invB3 (leM m) l_17 f_16 (min (f_16 + w_8) (↑l_1.length : Int)) (min (min (f_16 + w_8) (↑l_1.length : Int) + w_8) (↑l_1.length : Int)) m_18 (i_63 + (1 : Int)) j_64 l_65 (m_66 ++ [l_65[i_63.toNat]!]) from ?g36); rotate_left 1
  refine sq ?_
  refine rg (A := ((0 : Int) ≤ j_64) ∧ (j_64.toNat < (List.map c28 l_65).length) ∧ ((4 : Nat) = 4) ∧ (E.rowAt { ver := 0, ty := 28, k := BK.row (4) (List.map c28 l_65) : Blk } j_64.toNat (c28 l_65[j_64.toNat]!)) ∧ (0 + (4 : Nat) ≤ (c28 l_65[j_64.toNat]!).length) ∧ (28 = (28 : Nat)) ∧ ((4 : Nat) = 4) ∧ ([AV.i IntKind.i64 (0 : Int), AV.i IntKind.i64 (0 : Int), AV.s { data := #[] : ByteArray }, AV.i IntKind.i64 (0 : Int)].length = (4 : Nat)) ∧ (∀ (r : List AV), r ∈ List.map c28 [l_65[j_64.toNat]!] → r.length = 4) ∧ ((List.map c28 m_66).length + (List.map c28 [l_65[j_64.toNat]!]).length ≤ maxLen) ∧ (((List.map c28 m_66).length + (List.map c28 [l_65[j_64.toNat]!]).length) * (40 : Nat) ≤ (140737488355328 : Nat)) ∧ (List.map c28 m_66 ++ List.map c28 [l_65[j_64.toNat]!] = List.map c28 (m_66 ++ [l_65[j_64.toNat]!]))) cx [(4, { row := (c28 l_65[j_64.toNat]!) }), (6, { rows := some (List.map c28 (m_66 ++ [l_65[j_64.toNat]!])) })] ([1, 5] ++ List.range' 7 8) [1005, 36] ⟨(by omega), ?g37, (by kernel_rfl), ?g38, ?g39, (by kernel_rfl), (by kernel_rfl), (by kernel_rfl), (by (with_reducible refine len_map (fun _ => ?_) _; kernel_rfl)), (by (simp only [Go.maxLen, List.length_map, List.length_append, List.length_cons, List.length_nil]; omega)), (by (simp only [Go.maxLen, List.length_map, List.length_append, List.length_cons, List.length_nil]; omega)), (by (with_reducible refine app_map ?_; kernel_rfl))⟩ ?_; rotate_left 3
  refine sn ?_
  refine rg (A := (AV.i IntKind.i64 (IntKind.i64.wrap (j_64 + (1 : Int))) = AV.i IntKind.i64 (j_64 + (1 : Int)))) cx [(1, { tell := some (.i .i64 (j_64 + (1 : Int))) })] ([1, 5] ++ List.range' 7 8) [1005, 36] (told_i64 (by omega) (by omega)) ?_
  refine q_blk_normal ?_
  refine sn ?_
  refine loop_next ((i_63, j_64 + (1 : Int), l_65, m_66 ++ [l_65[j_64.toNat]!])) (by kernel_rfl) (show (min (f_16 + w_8) (↑l_1.length : Int) - i_63 + (min (min (f_16 + w_8) (↑l_1.length : Int) + w_8) (↑l_1.length : Int) - (j_64 + (1 : Int)))).toNat < (min (f_16 + w_8) (↑l_1.length : Int) - i_63 + (min (min (f_16 + w_8) (↑l_1.length : Int) + w_8) (↑l_1.length : Int) - j_64)).toNat from (by omega)) (show invB3 (leM m) l_17 f_16 (min (f_16 + w_8) (↑l_1.length : Int)) (min (min (f_16 + w_8) (↑l_1.length : Int) + w_8) (↑l_1.length : Int)) m_18 i_63 (j_64 + (1 : Int)) l_65 (m_66 ++ [l_65[j_64.toNat]!]) from ?g40); rotate_left 1
  refine st_exit 6 (by kernel_rfl) ?_
  refine q_seq_exit ?_
  refine q_seq_exit ?_
  refine q_blk_hit ?_
  refine q_blk_normal ?_
  refine sn ?_
  refine rg (A := (AV.i IntKind.i64 (IntKind.i64.wrap ((2 : Int) * w_8)) = AV.i IntKind.i64 ((2 : Int) * w_8)) ∧ (AV.i IntKind.i64 (IntKind.i64.wrap (f_16 + (2 : Int) * w_8)) = AV.i IntKind.i64 (f_16 + (2 : Int) * w_8))) cx [(2, { tell := some (.i .i64 ((2 : Int) * w_8)) }), (3, { tell := some (.i .i64 (f_16 + (2 : Int) * w_8)) })] [1, 5, 7, 8, 9, 10] [1005, 36] ⟨(told_i64 (by omega) (by omega)), (told_i64 (by omega) (by omega))⟩ ?_
  refine sn ?_
  refine loop_next ((f_16 + (2 : Int) * w_8, l_65, m_66)) (by kernel_rfl) (show ((↑l_1.length : Int) - (f_16 + (2 : Int) * w_8)).toNat < ((↑l_1.length : Int) - f_16).toNat from (by omega)) (show invB2 (leM m) l_9 (↑l_1.length : Int) w_8 (f_16 + (2 : Int) * w_8) l_65 m_66 from ?g41); rotate_left 1
  refine st_exit 4 (by kernel_rfl) ?_
  refine q_seq_exit ?_
  refine q_seq_exit ?_
  refine q_blk_hit ?_
  refine sn ?_
  refine rg (A := True) cx [] [1, 5, 7, 8] [36] trivial ?_
  refine q_blk_normal ?_
  refine sn ?_
  refine rg (A := (AV.i IntKind.i64 (IntKind.i64.wrap ((2 : Int) * w_8)) = AV.i IntKind.i64 ((2 : Int) * w_8))) cx [(1, { tell := some (.i .i64 ((2 : Int) * w_8)) })] [1, 5, 7, 8] [36] (told_i64 (by omega) (by omega)) ?_
  refine sn ?_
  refine loop_next_sw [(1005, 36)] [] (((2 : Int) * w_8, m_18)) (by kernel_rfl) (show ((↑l_1.length : Int) - (2 : Int) * w_8).toNat < ((↑l_1.length : Int) - w_8).toNat from (by omega)) (show invB1 (leM m) es (↑l_1.length : Int) ((2 : Int) * w_8) m_18 from ?g42); rotate_left 1
  refine st_exit 2 (by kernel_rfl) ?_
  refine q_seq_exit ?_
  refine q_seq_exit ?_
  refine q_blk_hit ?_
  refine sn ?_
  refine sq ?_
  refine rg (A := True) cx [] [4] [1005] trivial ?_
  refine sn ?_
  refine st_ret (by kernel_rfl) ?_
  refine q_ret (r := .sl (List.map c28 l_9)) (obl := []) (by kernel_rfl) trivial (AVle.eq (show AV.sl (List.map c28 l_9) = AV.sl (List.map c28 (botS (leM m) (1 : Nat) es)) from ?g43)); rotate_left 1
  rotate_left
  revert i_0 l_1 h_3 h_4 h_5 h_6 h_7; rotate_left
  revert i_0 l_1 h_3 h_4 h_5 h_6 h_7; rotate_left
  revert i_0 l_1 h_3 h_4 h_5 h_6 h_7 w_8 l_9 h_11 h_12 h_13 h_14 h_15; rotate_left
  revert i_0 l_1 h_3 h_4 h_5 h_6 h_7 w_8 l_9 h_11 h_12 h_13 h_14 h_15 f_16 l_17 m_18 h_20 h_21 h_22 h_23 h_24 h_25 h_26; rotate_left
  revert i_0 l_1 h_3 h_4 h_5 h_6 h_7 w_8 l_9 h_11 h_12 h_13 h_14 h_15 f_16 l_17 m_18 h_20 h_21 h_22 h_23 h_24 h_25 h_26 i_27 j_28 l_29 m_30 h_32 h_33 h_34 h_35 h_36 h_37 h_38 h_41 h_42; rotate_left
  revert i_0 l_1 h_3 h_4 h_5 h_6 h_7 w_8 l_9 h_11 h_12 h_13 h_14 h_15 f_16 l_17 m_18 h_20 h_21 h_22 h_23 h_24 h_25 h_26 i_27 j_28 l_29 m_30 h_32 h_33 h_34 h_35 h_36 h_37 h_38 h_41 h_42; rotate_left
  revert i_0 l_1 h_3 h_4 h_5 h_6 h_7 w_8 l_9 h_11 h_12 h_13 h_14 h_15 f_16 l_17 m_18 h_20 h_21 h_22 h_23 h_24 h_25 h_26 i_27 j_28 l_29 m_30 h_32 h_33 h_34 h_35 h_36 h_37 h_38 h_41 h_42; rotate_left
  revert i_0 l_1 h_3 h_4 h_5 h_6 h_7 w_8 l_9 h_11 h_12 h_13 h_14 h_15 f_16 l_17 m_18 h_20 h_21 h_22 h_23 h_24 h_25 h_26 i_27 j_28 l_29 m_30 h_32 h_33 h_34 h_35 h_36 h_37 h_38 h_41 h_42; rotate_left
  revert i_0 l_1 h_3 h_4 h_5 h_6 h_7 w_8 l_9 h_11 h_12 h_13 h_14 h_15 f_16 l_17 m_18 h_20 h_21 h_22 h_23 h_24 h_25 h_26 i_27 j_28 l_29 m_30 h_32 h_33 h_34 h_35 h_36 h_37 h_38 h_41; rotate_left
  revert i_0 l_1 h_3 h_4 h_5 h_6 h_7 w_8 l_9 h_11 h_12 h_13 h_14 h_15 f_16 l_17 m_18 h_20 h_21 h_22 h_23 h_24 h_25 h_43; rotate_left
  revert i_0 l_1 h_3 h_4 h_5 h_6 h_7 w_8 l_9 h_11 h_12 h_13 h_14 h_15 f_16 l_17 m_18 h_20 h_21 h_22 h_23 h_24 h_25 h_43 i_44 j_45 l_46 m_47 h_49 h_50 h_51 h_52 h_53 h_54 h_55 h_58 h_60 h_61; rotate_left
  revert i_0 l_1 h_3 h_4 h_5 h_6 h_7 w_8 l_9 h_11 h_12 h_13 h_14 h_15 f_16 l_17 m_18 h_20 h_21 h_22 h_23 h_24 h_25 h_43 i_44 j_45 l_46 m_47 h_49 h_50 h_51 h_52 h_53 h_54 h_55 h_58 h_60 h_61; rotate_left
  revert i_0 l_1 h_3 h_4 h_5 h_6 h_7 w_8 l_9 h_11 h_12 h_13 h_14 h_15 f_16 l_17 m_18 h_20 h_21 h_22 h_23 h_24 h_25 h_43 i_44 j_45 l_46 m_47 h_49 h_50 h_51 h_52 h_53 h_54 h_55 h_58 h_60 h_61; rotate_left
  revert i_0 l_1 h_3 h_4 h_5 h_6 h_7 w_8 l_9 h_11 h_12 h_13 h_14 h_15 f_16 l_17 m_18 h_20 h_21 h_22 h_23 h_24 h_25 h_43 i_44 j_45 l_46 m_47 h_49 h_50 h_51 h_52 h_53 h_54 h_55 h_58 h_60 h_61; rotate_left
  revert i_0 l_1 h_3 h_4 h_5 h_6 h_7 w_8 l_9 h_11 h_12 h_13 h_14 h_15 f_16 l_17 m_18 h_20 h_21 h_22 h_23 h_24 h_25 h_43 i_44 j_45 l_46 m_47 h_49 h_50 h_51 h_52 h_53 h_54 h_55 h_58 h_60 h_61; rotate_left
  revert i_0 l_1 h_3 h_4 h_5 h_6 h_7 w_8 l_9 h_11 h_12 h_13 h_14 h_15 f_16 l_17 m_18 h_20 h_21 h_22 h_23 h_24 h_25 h_43 i_44 j_45 l_46 m_47 h_49 h_50 h_51 h_52 h_53 h_54 h_55 h_58 h_60 h_61; rotate_left
  revert i_0 l_1 h_3 h_4 h_5 h_6 h_7 w_8 l_9 h_11 h_12 h_13 h_14 h_15 f_16 l_17 m_18 h_20 h_21 h_22 h_23 h_24 h_25 h_43 i_44 j_45 l_46 m_47 h_49 h_50 h_51 h_52 h_53 h_54 h_55 h_58 h_62; rotate_left
  revert i_0 l_1 h_3 h_4 h_5 h_6 h_7 w_8 l_9 h_11 h_12 h_13 h_14 h_15 f_16 l_17 m_18 h_20 h_21 h_22 h_23 h_24 h_25 h_43 i_44 j_45 l_46 m_47 h_49 h_50 h_51 h_52 h_53 h_54 h_55 h_58 h_62; rotate_left
  revert i_0 l_1 h_3 h_4 h_5 h_6 h_7 w_8 l_9 h_11 h_12 h_13 h_14 h_15 f_16 l_17 m_18 h_20 h_21 h_22 h_23 h_24 h_25 h_43 i_44 j_45 l_46 m_47 h_49 h_50 h_51 h_52 h_53 h_54 h_55 h_58 h_62; rotate_left
  revert i_0 l_1 h_3 h_4 h_5 h_6 h_7 w_8 l_9 h_11 h_12 h_13 h_14 h_15 f_16 l_17 m_18 h_20 h_21 h_22 h_23 h_24 h_25 h_43 i_44 j_45 l_46 m_47 h_49 h_50 h_51 h_52 h_53 h_54 h_55 h_58 h_62; rotate_left
  revert i_0 l_1 h_3 h_4 h_5 h_6 h_7 w_8 l_9 h_11 h_12 h_13 h_14 h_15 f_16 l_17 m_18 h_20 h_21 h_22 h_23 h_24 h_25 h_43 i_44 j_45 l_46 m_47 h_49 h_50 h_51 h_52 h_53 h_54 h_55 h_58 h_62; rotate_left
  revert i_0 l_1 h_3 h_4 h_5 h_6 h_7 w_8 l_9 h_11 h_12 h_13 h_14 h_15 f_16 l_17 m_18 h_20 h_21 h_22 h_23 h_24 h_25 h_43 i_44 j_45 l_46 m_47 h_49 h_50 h_51 h_52 h_53 h_54 h_55 h_58 h_62; rotate_left
  revert i_0 l_1 h_3 h_4 h_5 h_6 h_7 w_8 l_9 h_11 h_12 h_13 h_14 h_15 f_16 l_17 m_18 h_20 h_21 h_22 h_23 h_24 h_25 h_43 i_44 j_45 l_46 m_47 h_49 h_50 h_51 h_52 h_53 h_54 h_55 h_58 h_62; rotate_left
  revert i_0 l_1 h_3 h_4 h_5 h_6 h_7 w_8 l_9 h_11 h_12 h_13 h_14 h_15 f_16 l_17 m_18 h_20 h_21 h_22 h_23 h_24 h_25 h_43 i_44 j_45 l_46 m_47 h_49 h_50 h_51 h_52 h_53 h_54 h_55 h_58 h_62; rotate_left
  revert i_0 l_1 h_3 h_4 h_5 h_6 h_7 w_8 l_9 h_11 h_12 h_13 h_14 h_15 f_16 l_17 m_18 h_20 h_21 h_22 h_23 h_24 h_25 h_43 i_44 j_45 l_46 m_47 h_49 h_50 h_51 h_52 h_53 h_54 h_55 h_58; rotate_left
  revert i_0 l_1 h_3 h_4 h_5 h_6 h_7 w_8 l_9 h_11 h_12 h_13 h_14 h_15 f_16 l_17 m_18 h_20 h_21 h_22 h_23 h_24 h_25 h_43; rotate_left
  revert i_0 l_1 h_3 h_4 h_5 h_6 h_7 w_8 l_9 h_11 h_12 h_13 h_14 h_15 f_16 l_17 m_18 h_20 h_21 h_22 h_23 h_24 h_25 h_43 i_63 j_64 l_65 m_66 h_68 h_69 h_70 h_71 h_72 h_73 h_74 h_77 h_79 h_80; rotate_left
  revert i_0 l_1 h_3 h_4 h_5 h_6 h_7 w_8 l_9 h_11 h_12 h_13 h_14 h_15 f_16 l_17 m_18 h_20 h_21 h_22 h_23 h_24 h_25 h_43 i_63 j_64 l_65 m_66 h_68 h_69 h_70 h_71 h_72 h_73 h_74 h_77 h_79 h_80; rotate_left
  revert i_0 l_1 h_3 h_4 h_5 h_6 h_7 w_8 l_9 h_11 h_12 h_13 h_14 h_15 f_16 l_17 m_18 h_20 h_21 h_22 h_23 h_24 h_25 h_43 i_63 j_64 l_65 m_66 h_68 h_69 h_70 h_71 h_72 h_73 h_74 h_77 h_79 h_80; rotate_left
  revert i_0 l_1 h_3 h_4 h_5 h_6 h_7 w_8 l_9 h_11 h_12 h_13 h_14 h_15 f_16 l_17 m_18 h_20 h_21 h_22 h_23 h_24 h_25 h_43 i_63 j_64 l_65 m_66 h_68 h_69 h_70 h_71 h_72 h_73 h_74 h_77 h_79 h_80; rotate_left
  revert i_0 l_1 h_3 h_4 h_5 h_6 h_7 w_8 l_9 h_11 h_12 h_13 h_14 h_15 f_16 l_17 m_18 h_20 h_21 h_22 h_23 h_24 h_25 h_43 i_63 j_64 l_65 m_66 h_68 h_69 h_70 h_71 h_72 h_73 h_74 h_77 h_79 h_80; rotate_left
  revert i_0 l_1 h_3 h_4 h_5 h_6 h_7 w_8 l_9 h_11 h_12 h_13 h_14 h_15 f_16 l_17 m_18 h_20 h_21 h_22 h_23 h_24 h_25 h_43 i_63 j_64 l_65 m_66 h_68 h_69 h_70 h_71 h_72 h_73 h_74 h_77 h_79 h_80; rotate_left
  revert i_0 l_1 h_3 h_4 h_5 h_6 h_7 w_8 l_9 h_11 h_12 h_13 h_14 h_15 f_16 l_17 m_18 h_20 h_21 h_22 h_23 h_24 h_25 h_43 i_63 j_64 l_65 m_66 h_68 h_69 h_70 h_71 h_72 h_73 h_74 h_77 h_81; rotate_left
  revert i_0 l_1 h_3 h_4 h_5 h_6 h_7 w_8 l_9 h_11 h_12 h_13 h_14 h_15 f_16 l_17 m_18 h_20 h_21 h_22 h_23 h_24 h_25 h_43 i_63 j_64 l_65 m_66 h_68 h_69 h_70 h_71 h_72 h_73 h_74 h_77 h_81; rotate_left
  revert i_0 l_1 h_3 h_4 h_5 h_6 h_7 w_8 l_9 h_11 h_12 h_13 h_14 h_15 f_16 l_17 m_18 h_20 h_21 h_22 h_23 h_24 h_25 h_43 i_63 j_64 l_65 m_66 h_68 h_69 h_70 h_71 h_72 h_73 h_74 h_77 h_81; rotate_left
  revert i_0 l_1 h_3 h_4 h_5 h_6 h_7 w_8 l_9 h_11 h_12 h_13 h_14 h_15 f_16 l_17 m_18 h_20 h_21 h_22 h_23 h_24 h_25 h_43 i_63 j_64 l_65 m_66 h_68 h_69 h_70 h_71 h_72 h_73 h_74 h_77 h_81; rotate_left
  revert i_0 l_1 h_3 h_4 h_5 h_6 h_7 w_8 l_9 h_11 h_12 h_13 h_14 h_15 f_16 l_17 m_18 h_20 h_21 h_22 h_23 h_24 h_25 h_43 i_63 j_64 l_65 m_66 h_68 h_69 h_70 h_71 h_72 h_73 h_74 h_77 h_81; rotate_left
  revert i_0 l_1 h_3 h_4 h_5 h_6 h_7 w_8 l_9 h_11 h_12 h_13 h_14 h_15 f_16 l_17 m_18 h_20 h_21 h_22 h_23 h_24 h_25 h_43 i_63 j_64 l_65 m_66 h_68 h_69 h_70 h_71 h_72 h_73 h_74 h_77 h_81; rotate_left
  revert i_0 l_1 h_3 h_4 h_5 h_6 h_7 w_8 l_9 h_11 h_12 h_13 h_14 h_15 f_16 l_17 m_18 h_20 h_21 h_22 h_23 h_24 h_25 h_43 i_63 j_64 l_65 m_66 h_68 h_69 h_70 h_71 h_72 h_73 h_74 h_77 h_81; rotate_left
  revert i_0 l_1 h_3 h_4 h_5 h_6 h_7 w_8 l_9 h_11 h_12 h_13 h_14 h_15 f_16 l_17 m_18 h_20 h_21 h_22 h_23 h_24 h_25 h_43 i_63 j_64 l_65 m_66 h_68 h_69 h_70 h_71 h_72 h_73 h_74 h_77 h_81; rotate_left
  revert i_0 l_1 h_3 h_4 h_5 h_6 h_7 w_8 l_9 h_11 h_12 h_13 h_14 h_15 f_16 l_17 m_18 h_20 h_21 h_22 h_23 h_24 h_25 h_43 i_63 j_64 l_65 m_66 h_68 h_69 h_70 h_71 h_72 h_73 h_74 h_77; rotate_left
  revert i_0 l_1 h_3 h_4 h_5 h_6 h_7 w_8 l_9 h_11 h_12 h_13 h_14 h_15 f_16 l_17 m_18 h_20 h_21 h_22 h_23 h_24; rotate_left
  revert i_0 l_1 h_3 h_4 h_5 h_6 h_7 w_8 l_9 h_11 h_12 h_13 h_14 h_15; rotate_left
  all_goals
    ( intros <;> (try subst_vars) <;> first
    | omega
    | (simp only [List.length_map, List.length_append, List.length_cons, List.length_nil, Go.maxLen]; omega)
    | exact get_map (by omega)
    | exact Nat.le_of_ble_eq_true rfl
    | exact inv58a_init _
    | (apply inv58a_step <;> first | assumption | omega | rfl)
    | (apply inv58a_done <;> first | assumption | omega | rfl)
    | (apply invB2_init <;> first | assumption | omega | rfl)
    | (apply invB3_init <;> first | assumption | omega | rfl)
    | (apply invB3_leftJ <;> first | assumption | omega | rfl)
    | (apply invB3_leftM <;> first | assumption | omega | rfl)
    | (apply invB3_rightM <;> first | assumption | omega | rfl)
    | (apply invB3_done <;> first | assumption | omega | rfl)
    | (apply invB1_next <;> first | assumption | omega | rfl)
    | (apply fin58 <;> first | assumption | omega | rfl)
    | skip)
theorem con28 (es : List Entry) (d : Dot) : Con Try.prog 28 [.sl (es.map c28), .agg (c26 d)] (.tup [.agg (c28 (findE es d).1), .b (findE es d).2]) :=
  by
  refine con_lens 0 (c28) (es) (by kernel_rfl) Go.Proofs.Try.func28 (by kernel_rfl) fun hl_0 => ?_
  refine st_con tab_ok (by kernel_rfl) [.cell 4 28, .tmp 5] 21 Go.Proofs.Try.func28 (by kernel_rfl) (by kernel_rfl) ?_
  intro e0 cx
  refine sq ?_
  refine rg (A := True) cx [] [0, 3, 4] [3, 4] trivial ?_
  refine sn ?_
  refine sq ?_
  refine sq ?_
  refine rg (A := _) cx [(1, { tell := some (.i .i64 ((↑es.length : Int))) })] [3, 4, 8, 9, 10] [3, 4] (told_len c28 es) ?_
  refine sn ?_
  refine st_block 0 (by kernel_rfl) ?_
  refine st_loop (X := Int × Int × Int × Int × Int × ByteArray × Int) (fun x => ⟨[(3, .ptr (3) (0) (0) (0)), (4, .ptr (4) (0) (0) (0)), (8, .sl (List.map c28 es)), (9, .i .i64 ((↑es.length : Int))), (10, .i .i64 (x.fst))], [(3, ⟨0, 26, .var [.i .i64 (x.snd.fst), .i .i64 (x.snd.snd.fst)]⟩), (4, ⟨0, 28, .var [.i .i64 (x.snd.snd.snd.fst), .i .i64 (x.snd.snd.snd.snd.fst), .s (x.snd.snd.snd.snd.snd.fst), .i .i64 (x.snd.snd.snd.snd.snd.snd)]⟩)]⟩) (fun x ↦ dec28 es x.fst x.snd.fst x.snd.snd.fst x.snd.snd.snd.fst x.snd.snd.snd.snd.fst x.snd.snd.snd.snd.snd.fst x.snd.snd.snd.snd.snd.snd) (fun x ↦ inv28 es d x.fst x.snd.fst x.snd.snd.fst x.snd.snd.snd.fst x.snd.snd.snd.snd.fst x.snd.snd.snd.snd.snd.fst x.snd.snd.snd.snd.snd.snd) [3, 4, 8, 9, 10] [3, 4] (((0 : Int), d.rep, d.num, (0 : Int), (0 : Int), { data := #[] : ByteArray }, (0 : Int))) (by kernel_rfl) (by kernel_rfl) (show inv28 es d (0 : Int) d.rep d.num (0 : Int) (0 : Int) { data := #[] : ByteArray } (0 : Int) from ?g0) ?_; rotate_left 1
  rintro ⟨i_0, r_1, n_2, a_3, b_4, s_5, q_6⟩ h_7
  obtain ⟨h_8, h_9, h_10, h_11, h_12⟩ : (0 : Int) ≤ i_0 ∧ i_0 ≤ (↑es.length : Int) ∧ r_1 = d.rep ∧ n_2 = d.num ∧ ∀ (j : Nat), (↑j : Int) < i_0 → ¬es[j]!.dot = d := h_7
  refine sq ?_
  refine rg (A := (AV.b (decide (i_0 < (↑es.length : Int))) = AV.b (decide (i_0 < (↑es.length : Int))))) cx [(0, { tell := some (.b (decide (i_0 < (↑es.length : Int)))) })] [3, 4, 8, 9, 10, 11] [3, 4] (by kernel_rfl) ?_
  refine sn ?_
  refine sq ?_
  refine st_dec (i_0 < (↑es.length : Int)) (by kernel_rfl) (by kernel_rfl) (fun h_13 => ?_) (fun h_13 => ?_)
  refine st_skip (by kernel_rfl) ?_
  refine sn ?_
  refine sq ?_
  refine st_block 1 (by kernel_rfl) ?_
  refine sq ?_
  refine rg (A := ((0 : Int) ≤ i_0) ∧ ((List.map c28 es)[i_0.toNat]? = some (c28 es[i_0.toNat]!)) ∧ ((c28 es[i_0.toNat]!).length = (4 : Nat)) ∧ ((4 : Nat) ≤ [AV.i IntKind.i64 es[i_0.toNat]!.dot.rep, AV.i IntKind.i64 es[i_0.toNat]!.dot.num, AV.s es[i_0.toNat]!.sku, AV.i IntKind.i64 es[i_0.toNat]!.qty].length)) cx [(0, { row := (c28 es[i_0.toNat]!) })] [3, 4, 8, 9, 10, 7] [3, 4, 7] ⟨(by (with_reducible assumption)), (by (with_reducible refine get_map ?_; omega)), (by kernel_rfl), (by (simp only [List.length_append, List.length_cons, List.length_nil]; omega))⟩ ?_
  refine sn ?_
  refine sq ?_
  refine rg (A := (AggEq Try.prog (26 : Nat) [AV.i IntKind.i64 es[i_0.toNat]!.dot.rep, AV.i IntKind.i64 es[i_0.toNat]!.dot.num] [AV.i IntKind.i64 r_1, AV.i IntKind.i64 n_2] (decide (es[i_0.toNat]!.dot = { rep := r_1, num := n_2 : Dot })))) cx [(3, { val := some (.b (decide (es[i_0.toNat]!.dot = { rep := r_1, num := n_2 : Dot }))) })] [3, 4, 8, 9, 10, 7, 17] [3, 4, 7] (eq26 es[i_0.toNat]!.dot { rep := r_1, num := n_2 : Dot }) ?_
  refine sn ?_
  refine st_dec (es[i_0.toNat]!.dot = { rep := r_1, num := n_2 : Dot }) (by kernel_rfl) (by kernel_rfl) (fun h_14 => ?_) (fun h_14 => ?_)
  refine sq ?_
  refine rg (A := True) cx [] [4, 5] [4] trivial ?_
  refine sn ?_
  refine st_ret (by kernel_rfl) ?_
  refine q_blk_ret ?_
  refine q_seq_ret ?_
  refine q_seq_ret ?_
  refine q_blk_ret ?_
  refine q_seq_ret ?_
  refine q_ret (r := .tup [.agg [.i .i64 (es[i_0.toNat]!.dot.rep), .i .i64 (es[i_0.toNat]!.dot.num), .s (es[i_0.toNat]!.sku), .i .i64 (es[i_0.toNat]!.qty)], .b (true)]) (obl := []) (by kernel_rfl) trivial (AVle.tup (ZLe.cons (AVle.eq (show AV.agg [AV.i IntKind.i64 es[i_0.toNat]!.dot.rep, AV.i IntKind.i64 es[i_0.toNat]!.dot.num, AV.s es[i_0.toNat]!.sku, AV.i IntKind.i64 es[i_0.toNat]!.qty] = AV.agg [AV.i IntKind.i64 (findE es d).fst.dot.rep, AV.i IntKind.i64 (findE es d).fst.dot.num, AV.s (findE es d).fst.sku, AV.i IntKind.i64 (findE es d).fst.qty] from ?g2)) (ZLe.cons (AVle.eq (show AV.b true = AV.b (findE es d).snd from ?g1)) ZLe.nil))); rotate_left 2
  refine st_skip (by kernel_rfl) ?_
  refine q_blk_normal ?_
  refine sn ?_
  refine rg (A := (AV.i IntKind.i64 (IntKind.i64.wrap (i_0 + (1 : Int))) = AV.i IntKind.i64 (i_0 + (1 : Int)))) cx [(0, { tell := some (.i .i64 (i_0 + (1 : Int))) })] [3, 4, 8, 9, 10] [3, 4] (told_i64 (by omega) (by omega)) ?_
  refine sn ?_
  refine loop_next ((i_0 + (1 : Int), r_1, n_2, a_3, b_4, s_5, q_6)) (by kernel_rfl) (show ((↑es.length : Int) - (i_0 + (1 : Int))).toNat < ((↑es.length : Int) - i_0).toNat from (by omega)) (show inv28 es d (i_0 + (1 : Int)) r_1 n_2 a_3 b_4 s_5 q_6 from ?g3); rotate_left 1
  refine st_exit 0 (by kernel_rfl) ?_
  refine q_seq_exit ?_
  refine q_seq_exit ?_
  refine q_blk_hit ?_
  refine sn ?_
  refine sq ?_
  refine rg (A := True) cx [] [4, 5] [4] trivial ?_
  refine sn ?_
  refine st_ret (by kernel_rfl) ?_
  refine q_ret (r := .tup [.agg [.i .i64 ((0 : Int)), .i .i64 ((0 : Int)), .s ({ data := #[] : ByteArray }), .i .i64 ((0 : Int))], .b (false)]) (obl := []) (by kernel_rfl) trivial (AVle.tup (ZLe.cons (AVle.eq (show AV.agg [AV.i IntKind.i64 (0 : Int), AV.i IntKind.i64 (0 : Int), AV.s { data := #[] : ByteArray }, AV.i IntKind.i64 (0 : Int)] = AV.agg [AV.i IntKind.i64 (findE es d).fst.dot.rep, AV.i IntKind.i64 (findE es d).fst.dot.num, AV.s (findE es d).fst.sku, AV.i IntKind.i64 (findE es d).fst.qty] from ?g5)) (ZLe.cons (AVle.eq (show AV.b false = AV.b (findE es d).snd from ?g4)) ZLe.nil))); rotate_left 2
  rotate_left
  revert i_0 r_1 n_2 a_3 b_4 s_5 q_6 h_8 h_9 h_10 h_11 h_12 h_13 h_14; rotate_left
  revert i_0 r_1 n_2 a_3 b_4 s_5 q_6 h_8 h_9 h_10 h_11 h_12 h_13 h_14; rotate_left
  revert i_0 r_1 n_2 a_3 b_4 s_5 q_6 h_8 h_9 h_10 h_11 h_12 h_13 h_14; rotate_left
  revert i_0 r_1 n_2 a_3 b_4 s_5 q_6 h_8 h_9 h_10 h_11 h_12 h_13; rotate_left
  revert i_0 r_1 n_2 a_3 b_4 s_5 q_6 h_8 h_9 h_10 h_11 h_12 h_13; rotate_left
  case g0 => exact ⟨by omega, by omega, rfl, rfl, fun j hj => by omega⟩
  case g1 => exact (fun i r n a b s q h0 h1 h2 h3 h4 h5 h6 => by subst h2 h3; rw [find_at (by omega) h6 (fun j hj => h4 j (by omega))])
  case g2 => exact (fun i r n a b s q h0 h1 h2 h3 h4 h5 h6 => by subst h2 h3; rw [find_at (by omega) h6 (fun j hj => h4 j (by omega))])
  case g3 => exact (fun i r n a b s q h0 h1 h2 h3 h4 h5 h6 => ⟨by omega, by omega, h2, h3, fun j hj => by
      subst h2 h3
      by_cases e : j = i.toNat
      · rw [e]; exact h6
      · exact h4 j (by omega)⟩)
  case g4 => exact (fun i r n a b s q h0 h1 h2 h3 h4 h5 => by rw [find_no (fun j hj => h4 j (by omega))])
  case g5 => exact (fun i r n a b s q h0 h1 h2 h3 h4 h5 => by rw [find_no (fun j hj => h4 j (by omega))]; rfl)
theorem con27 (es : List Entry) (d : Dot) : Con Try.prog 27 [.sl (es.map c28), .agg (c26 d)] (.tup [.agg (c28 (findE es d).1), .b (findE es d).2]) :=
  by
  refine con_lens 0 (c28) (es) (by kernel_rfl) Go.Proofs.Try.func27 (by kernel_rfl) fun hl_0 => ?_
  refine st_con tab_ok (by kernel_rfl) [.cell 4 28, .tmp 5] 25 Go.Proofs.Try.func27 (by kernel_rfl) (by kernel_rfl) ?_
  intro e0 cx
  refine sq ?_
  refine rg (A := True) cx [] [0, 3, 4] [3, 4] trivial ?_
  refine sn ?_
  refine sq ?_
  refine sq ?_
  refine rg (A := True) cx [] [0, 3, 4, 6] [3, 4] trivial ?_
  refine sn ?_
  refine st_block 0 (by kernel_rfl) ?_
  refine st_loop (X := Int × Int × Int × Int × Int × ByteArray × Int) (fun x => ⟨[(0, .sl (List.map c28 es)), (3, .ptr (3) (0) (0) (0)), (4, .ptr (4) (0) (0) (0)), (6, .i .i64 (x.fst))], [(3, ⟨0, 26, .var [.i .i64 (x.snd.fst), .i .i64 (x.snd.snd.fst)]⟩), (4, ⟨0, 28, .var [.i .i64 (x.snd.snd.snd.fst), .i .i64 (x.snd.snd.snd.snd.fst), .s (x.snd.snd.snd.snd.snd.fst), .i .i64 (x.snd.snd.snd.snd.snd.snd)]⟩)]⟩) (fun x ↦ dec28 es x.fst x.snd.fst x.snd.snd.fst x.snd.snd.snd.fst x.snd.snd.snd.snd.fst x.snd.snd.snd.snd.snd.fst x.snd.snd.snd.snd.snd.snd) (fun x ↦ inv28 es d x.fst x.snd.fst x.snd.snd.fst x.snd.snd.snd.fst x.snd.snd.snd.snd.fst x.snd.snd.snd.snd.snd.fst x.snd.snd.snd.snd.snd.snd) [0, 3, 4, 6] [3, 4] (((0 : Int), d.rep, d.num, (0 : Int), (0 : Int), { data := #[] : ByteArray }, (0 : Int))) (by kernel_rfl) (by kernel_rfl) (show inv28 es d (0 : Int) d.rep d.num (0 : Int) (0 : Int) { data := #[] : ByteArray } (0 : Int) from ?g0) ?_; rotate_left 1
  rintro ⟨i_0, r_1, n_2, a_3, b_4, s_5, q_6⟩ h_7
  obtain ⟨h_8, h_9, h_10, h_11, h_12⟩ : (0 : Int) ≤ i_0 ∧ i_0 ≤ (↑es.length : Int) ∧ r_1 = d.rep ∧ n_2 = d.num ∧ ∀ (j : Nat), (↑j : Int) < i_0 → ¬es[j]!.dot = d := h_7
  refine sq ?_
  refine sq ?_
  refine rg (A := _ ∧ (AV.b (decide (i_0 < (↑es.length : Int))) = AV.b (decide (i_0 < (↑es.length : Int))))) cx [(2, { tell := some (.i .i64 ((↑es.length : Int))) }), (3, { tell := some (.b (decide (i_0 < (↑es.length : Int)))) })] [0, 3, 4, 6, 10] [3, 4] ⟨(told_len c28 es), (by kernel_rfl)⟩ ?_
  refine sn ?_
  refine st_dec (i_0 < (↑es.length : Int)) (by kernel_rfl) (by kernel_rfl) (fun h_13 => ?_) (fun h_13 => ?_)
  refine st_skip (by kernel_rfl) ?_
  refine sn ?_
  refine sq ?_
  refine st_block 1 (by kernel_rfl) ?_
  refine sq ?_
  refine ra (A := ((0 : Int) ≤ i_0) ∧ ((List.map c28 es)[i_0.toNat]? = some (c28 es[i_0.toNat]!)) ∧ ((c28 es[i_0.toNat]!).length = (4 : Nat)) ∧ ((2 : Nat) ≤ [AV.i IntKind.i64 es[i_0.toNat]!.dot.rep, AV.i IntKind.i64 es[i_0.toNat]!.dot.num, AV.s es[i_0.toNat]!.sku, AV.i IntKind.i64 es[i_0.toNat]!.qty].length) ∧ (AggEq Try.prog (26 : Nat) [AV.i IntKind.i64 es[i_0.toNat]!.dot.rep, AV.i IntKind.i64 es[i_0.toNat]!.dot.num] [AV.i IntKind.i64 r_1, AV.i IntKind.i64 n_2] (decide (es[i_0.toNat]!.dot = { rep := r_1, num := n_2 : Dot })))) cx [(2, { row := (c28 es[i_0.toNat]!) }), (6, { val := some (.b (decide (es[i_0.toNat]!.dot = { rep := r_1, num := n_2 : Dot }))) })] [0, 3, 4, 6, 19] [3, 4] ⟨(by (with_reducible assumption)), (by (with_reducible refine get_map ?_; omega)), (by kernel_rfl), (by (simp only [List.length_append, List.length_cons, List.length_nil]; omega)), (eq26 es[i_0.toNat]!.dot { rep := r_1, num := n_2 : Dot })⟩ ?_
  refine sn ?_
  refine st_dec (es[i_0.toNat]!.dot = { rep := r_1, num := n_2 : Dot }) (by kernel_rfl) (by kernel_rfl) (fun h_14 => ?_) (fun h_14 => ?_)
  refine sq ?_
  refine rg (A := ((0 : Int) ≤ i_0) ∧ ((List.map c28 es)[i_0.toNat]? = some (c28 es[i_0.toNat]!)) ∧ ((c28 es[i_0.toNat]!).length = (4 : Nat)) ∧ ((4 : Nat) ≤ [AV.i IntKind.i64 es[i_0.toNat]!.dot.rep, AV.i IntKind.i64 es[i_0.toNat]!.dot.num, AV.s es[i_0.toNat]!.sku, AV.i IntKind.i64 es[i_0.toNat]!.qty].length)) cx [(2, { row := (c28 es[i_0.toNat]!) })] [4, 5] [4] ⟨(by (with_reducible assumption)), (by (with_reducible refine get_map ?_; omega)), (by kernel_rfl), (by (simp only [List.length_append, List.length_cons, List.length_nil]; omega))⟩ ?_
  refine sn ?_
  refine st_ret (by kernel_rfl) ?_
  refine q_blk_ret ?_
  refine q_seq_ret ?_
  refine q_seq_ret ?_
  refine q_blk_ret ?_
  refine q_seq_ret ?_
  refine q_ret (r := .tup [.agg [.i .i64 (es[i_0.toNat]!.dot.rep), .i .i64 (es[i_0.toNat]!.dot.num), .s (es[i_0.toNat]!.sku), .i .i64 (es[i_0.toNat]!.qty)], .b (true)]) (obl := []) (by kernel_rfl) trivial (AVle.tup (ZLe.cons (AVle.eq (show AV.agg [AV.i IntKind.i64 es[i_0.toNat]!.dot.rep, AV.i IntKind.i64 es[i_0.toNat]!.dot.num, AV.s es[i_0.toNat]!.sku, AV.i IntKind.i64 es[i_0.toNat]!.qty] = AV.agg [AV.i IntKind.i64 (findE es d).fst.dot.rep, AV.i IntKind.i64 (findE es d).fst.dot.num, AV.s (findE es d).fst.sku, AV.i IntKind.i64 (findE es d).fst.qty] from ?g2)) (ZLe.cons (AVle.eq (show AV.b true = AV.b (findE es d).snd from ?g1)) ZLe.nil))); rotate_left 2
  refine st_skip (by kernel_rfl) ?_
  refine q_blk_normal ?_
  refine sn ?_
  refine rg (A := (AV.i IntKind.i64 (IntKind.i64.wrap (i_0 + (1 : Int))) = AV.i IntKind.i64 (i_0 + (1 : Int)))) cx [(1, { tell := some (.i .i64 (i_0 + (1 : Int))) })] [0, 3, 4, 6] [3, 4] (told_i64 (by omega) (by omega)) ?_
  refine sn ?_
  refine loop_next ((i_0 + (1 : Int), r_1, n_2, a_3, b_4, s_5, q_6)) (by kernel_rfl) (show ((↑es.length : Int) - (i_0 + (1 : Int))).toNat < ((↑es.length : Int) - i_0).toNat from (by omega)) (show inv28 es d (i_0 + (1 : Int)) r_1 n_2 a_3 b_4 s_5 q_6 from ?g3); rotate_left 1
  refine st_exit 0 (by kernel_rfl) ?_
  refine q_seq_exit ?_
  refine q_seq_exit ?_
  refine q_blk_hit ?_
  refine sn ?_
  refine sq ?_
  refine rg (A := True) cx [] [4, 5] [4] trivial ?_
  refine sn ?_
  refine st_ret (by kernel_rfl) ?_
  refine q_ret (r := .tup [.agg [.i .i64 ((0 : Int)), .i .i64 ((0 : Int)), .s ({ data := #[] : ByteArray }), .i .i64 ((0 : Int))], .b (false)]) (obl := []) (by kernel_rfl) trivial (AVle.tup (ZLe.cons (AVle.eq (show AV.agg [AV.i IntKind.i64 (0 : Int), AV.i IntKind.i64 (0 : Int), AV.s { data := #[] : ByteArray }, AV.i IntKind.i64 (0 : Int)] = AV.agg [AV.i IntKind.i64 (findE es d).fst.dot.rep, AV.i IntKind.i64 (findE es d).fst.dot.num, AV.s (findE es d).fst.sku, AV.i IntKind.i64 (findE es d).fst.qty] from ?g5)) (ZLe.cons (AVle.eq (show AV.b false = AV.b (findE es d).snd from ?g4)) ZLe.nil))); rotate_left 2
  rotate_left
  revert i_0 r_1 n_2 a_3 b_4 s_5 q_6 h_8 h_9 h_10 h_11 h_12 h_13 h_14; rotate_left
  revert i_0 r_1 n_2 a_3 b_4 s_5 q_6 h_8 h_9 h_10 h_11 h_12 h_13 h_14; rotate_left
  revert i_0 r_1 n_2 a_3 b_4 s_5 q_6 h_8 h_9 h_10 h_11 h_12 h_13 h_14; rotate_left
  revert i_0 r_1 n_2 a_3 b_4 s_5 q_6 h_8 h_9 h_10 h_11 h_12 h_13; rotate_left
  revert i_0 r_1 n_2 a_3 b_4 s_5 q_6 h_8 h_9 h_10 h_11 h_12 h_13; rotate_left
  case g0 => exact ⟨by omega, by omega, rfl, rfl, fun j hj => by omega⟩
  case g1 => exact (fun i r n a b s q h0 h1 h2 h3 h4 h5 h6 => by subst h2 h3; rw [find_at (by omega) h6 (fun j hj => h4 j (by omega))])
  case g2 => exact (fun i r n a b s q h0 h1 h2 h3 h4 h5 h6 => by subst h2 h3; rw [find_at (by omega) h6 (fun j hj => h4 j (by omega))])
  case g3 => exact (fun i r n a b s q h0 h1 h2 h3 h4 h5 h6 => ⟨by omega, by omega, h2, h3, fun j hj => by
      subst h2 h3
      by_cases e : j = i.toNat
      · rw [e]; exact h6
      · exact h4 j (by omega)⟩)
  case g4 => exact (fun i r n a b s q h0 h1 h2 h3 h4 h5 => by rw [find_no (fun j hj => h4 j (by omega))])
  case g5 => exact (fun i r n a b s q h0 h1 h2 h3 h4 h5 => by rw [find_no (fun j hj => h4 j (by omega))]; rfl)
end Go.Proofs.Ytjngmlkaijpbgaa
namespace Go.Proofs.Ytjngmlkaijpbgaa
open Go.E
set_option maxRecDepth 100000
set_option maxHeartbeats 4000000
def srtK (es : List Entry) : List Entry := botS (leM 1) 1 es
theorem srtK_perm (es : List Entry) : (srtK es).Perm es := botS_perm (leM 1) _ 1 es (Nat.le_refl _)
theorem leM1 (a b : Entry) : leM 1 a b = true ↔ ¬ sLt b.sku a.sku = true := by
  rw [leM_iff]
  unfold laterV
  rw [if_pos rfl, decide_eq_true_iff]
  constructor
  · intro h k
    apply h
    rintro (h1 | h1)
    · exact sLt_irr _ (sLt_trans h1 k)
    · rw [h1] at k; exact sLt_irr _ k
  · intro h k
    apply k
    by_cases h1 : sLt a.sku b.sku = true
    · exact .inl h1
    · exact .inr (sLt_total h1 h)
theorem srtK_rises (es : List Entry) : (srtK es).Pairwise fun a b => ¬ sLt b.sku a.sku = true := by
  have h := botS_rises (le := leM 1) (fun a b c h1 h2 => by
    rw [leM1] at *
    intro k
    by_cases h3 : sLt b.sku c.sku = true
    · exact h1 (sLt_trans h3 k)
    · by_cases h4 : sLt b.sku a.sku = true
      · exact h1 h4
      · have := sLt_total h3 h2
        rw [← this] at k
        exact h4 k) (fun a b => by
    cases h : leM 1 a b with
    | true => rfl
    | false =>
      have h1 : ¬ leM 1 a b = true := by rw [h]; simp
      rw [leM1] at h1
      have h2 := Classical.not_not.1 h1
      have : leM 1 b a = true := (leM1 b a).2 fun k => sLt_irr _ (sLt_trans h2 k)
      rw [this]; rfl) _ 1 es (Nat.le_refl _) (by omega) (chunkyP_one _)
  exact h.imp fun {a b} k => (leM1 a b).1 k
theorem srtK_len (es : List Entry) : (srtK es).length = es.length := (srtK_perm es).length_eq
def isUp (s : List Entry) (i : Int) (out : List Line) : Prop := IsLines (s.take i.toNat) out
def invK (es : List Entry) (i : Int) (out : List Line) : Prop := 0 ≤ i ∧ i ≤ es.length ∧ (out.length : Int) ≤ i ∧ isUp (srtK es) i out
def decK (es : List Entry) (i : Int) (out : List Line) : Nat := (es.length - i).toNat
def invX (l : List Entry) (s : ByteArray) (i : Int) (a : ByteArray) (b c : Int) (t : ByteArray) (q p : Int) : Prop := 0 ≤ i ∧ i ≤ l.length ∧ t = s ∧ q = sumE (l.take i.toNat) ∧ p = i
def decX (l : List Entry) (i : Int) (a : ByteArray) (b c : Int) (t : ByteArray) (q p : Int) : Nat := (l.length - i).toNat
theorem new_step {a : List Entry} {out : List Line} {e : Entry} (h : IsLines a out) (h1 : ∀ x ∈ a, ¬ sLt e.sku x.sku = true) (h2 : ∀ x ∈ a, ¬ x.sku = e.sku) : IsLines (a ++ [e]) (out ++ [⟨e.sku, 0 + e.qty, 0 + 1⟩]) := by
  have hn : (⟨e.sku, 0 + e.qty, 0 + 1⟩ : Line) = lineOf (a ++ [e]) e.sku := by
    rw [lineOf_same]
    unfold lineOf
    rw [ofSku_nil h2]
    rfl
  refine ⟨List.pairwise_append.2 ⟨h.up, by simp, fun y hy z hz => ?_⟩, fun y => ?_⟩
  · have : z = ⟨e.sku, 0 + e.qty, 0 + 1⟩ := by simpa using hz
    subst this
    obtain ⟨⟨x, hx, k⟩, _⟩ := (h.mem y).1 hy
    apply Classical.byContradiction
    intro hc
    rw [← k] at hc
    exact h2 x hx (sLt_total hc (h1 x hx))
  · rw [List.mem_append, List.mem_singleton, hn]
    constructor
    · rintro (hy | rfl)
      · obtain ⟨⟨x, hx, k⟩, k2⟩ := (h.mem y).1 hy
        exact ⟨⟨x, by simp [hx], k⟩, by rw [lineOf_other (fun k3 => h2 x hx (by rw [k, k3]))]; exact k2⟩
      · exact ⟨⟨e, by simp, rfl⟩, rfl⟩
    · rintro ⟨⟨x, hx, k⟩, k2⟩
      by_cases k3 : e.sku = y.sku
      · right; rw [k2, k3]
      · left
        rw [lineOf_other k3] at k2
        refine (h.mem y).2 ⟨⟨x, ?_, k⟩, k2⟩
        rcases List.mem_append.1 hx with k4 | k4
        · exact k4
        · have : x = e := by simpa using k4
          rw [this] at k; exact absurd k k3
theorem same_step {a : List Entry} {A : List Line} {x : Line} {e : Entry} (h : IsLines a (A ++ [x])) (hs : x.sku = e.sku) : IsLines (a ++ [e]) (A ++ [⟨x.sku, x.qty + e.qty, x.parts + 1⟩]) := by
  have hu := List.pairwise_append.1 h.up
  have hx := (h.mem x).1 (by simp)
  have hn : (⟨x.sku, x.qty + e.qty, x.parts + 1⟩ : Line) = lineOf (a ++ [e]) e.sku := by
    rw [lineOf_same, ← hs, ← hx.2]
  refine ⟨List.pairwise_append.2 ⟨hu.1, by simp, fun y hy z hz => ?_⟩, fun y => ?_⟩
  · have : z = ⟨x.sku, x.qty + e.qty, x.parts + 1⟩ := by simpa using hz
    subst this
    exact hu.2.2 y hy x (by simp)
  · rw [List.mem_append, List.mem_singleton, hn]
    constructor
    · rintro (hy | rfl)
      · have h1 := hu.2.2 y hy x (by simp)
        obtain ⟨⟨z, hz, k⟩, k2⟩ := (h.mem y).1 (by simp [hy])
        exact ⟨⟨z, by simp [hz], k⟩, by rw [lineOf_other (fun k3 => by rw [← k3, hs] at h1; exact sLt_irr _ h1)]; exact k2⟩
      · exact ⟨⟨e, by simp, rfl⟩, rfl⟩
    · rintro ⟨⟨z, hz, k⟩, k2⟩
      by_cases k3 : e.sku = y.sku
      · right; rw [k2, k3]
      · left
        rw [lineOf_other k3] at k2
        have : y ∈ A ++ [x] := (h.mem y).2 ⟨⟨z, by
          rcases List.mem_append.1 hz with k4 | k4
          · exact k4
          · have : z = e := by simpa using k4
            rw [this] at k; exact absurd k k3, k⟩, k2⟩
        rcases List.mem_append.1 this with k5 | k5
        · exact k5
        · have : y = x := by simpa using k5
          rw [this, hs] at k3; exact absurd rfl k3
theorem last_max {A : List Line} (h : upL A) {y : Line} (hy : y ∈ A) (hm : ∀ z ∈ A, ¬ sLt y.sku z.sku = true) : ∃ B, A = B ++ [y] := by
  obtain ⟨B, C, rfl⟩ := List.append_of_mem hy
  cases C with
  | nil => exact ⟨B, rfl⟩
  | cons z C =>
    have h1 := (List.pairwise_cons.1 (List.pairwise_append.1 h).2.1).1 z (by simp)
    exact absurd h1 (hm z (by simp))
theorem srt_le {es : List Entry} {i j : Nat} (hij : i ≤ j) (hj : j < (srtK es).length) : ¬ sLt (srtK es)[j]!.sku (srtK es)[i]!.sku = true := by
  by_cases e : i = j
  · subst e; exact sLt_irr _
  · have := List.pairwise_iff_getElem.1 (srtK_rises es) i j (by omega) hj (by omega)
    rwa [getElem!_pos _ i (by omega), getElem!_pos _ j hj]
theorem take_at {α : Type} [Inhabited α] {s : List α} {x : α} {i : Nat} (hx : x ∈ s.take i) : ∃ j, j < i ∧ j < s.length ∧ x = s[j]! := by
  obtain ⟨j, hj, rfl⟩ := List.mem_iff_getElem.1 hx
  rw [List.length_take] at hj
  exact ⟨j, by omega, by omega, by rw [List.getElem_take, getElem!_pos s j (by omega)]⟩
theorem up_new {es : List Entry} {i : Int} {out : List Line} (h : isUp (srtK es) i out) (h0 : 0 ≤ i) (hi : i < (srtK es).length) (hc : i = 0 ∨ ¬ (srtK es)[i.toNat]!.sku = (srtK es)[(i - 1).toNat]!.sku) :
    isUp (srtK es) (i + 1) (out ++ [⟨(srtK es)[i.toNat]!.sku, 0 + (srtK es)[i.toNat]!.qty, 0 + 1⟩]) := by
  unfold isUp at *
  rw [← take_step h0 hi]
  refine new_step h (fun x hx => ?_) fun x hx => ?_
  · obtain ⟨j, h1, h2, rfl⟩ := take_at hx
    exact srt_le (by omega) (by omega)
  · obtain ⟨j, h1, h2, rfl⟩ := take_at hx
    intro k
    rcases hc with hc | hc
    · omega
    · have h3 := srt_le (es := es) (i := j) (j := (i - 1).toNat) (by omega) (by omega)
      have h4 := srt_le (es := es) (i := (i - 1).toNat) (j := i.toNat) (by omega) (by omega)
      rw [k] at h3
      exact hc (sLt_total h4 h3)
theorem up_same {es : List Entry} {i : Int} {out : List Line} (h : isUp (srtK es) i out) (h0 : 0 ≤ i) (hi : i < (srtK es).length) (hc : ¬ (i = 0 ∨ ¬ (srtK es)[i.toNat]!.sku = (srtK es)[(i - 1).toNat]!.sku)) :
    ∃ A x, out = A ++ [x] ∧ x = lineOf ((srtK es).take i.toNat) x.sku ∧ isUp (srtK es) (i + 1) (A ++ [⟨x.sku, x.qty + (srtK es)[i.toNat]!.qty, x.parts + 1⟩]) := by
  have hi0 : ¬ i = 0 := fun k => hc (.inl k)
  have hs : (srtK es)[i.toNat]!.sku = (srtK es)[(i - 1).toNat]!.sku := Classical.not_not.1 fun k => hc (.inr k)
  have hm : (srtK es)[(i - 1).toNat]! ∈ (srtK es).take i.toNat := by
    have hlt : (i - 1).toNat < ((srtK es).take i.toNat).length := by rw [List.length_take]; omega
    have := List.getElem_mem hlt
    rwa [List.getElem_take, ← getElem!_pos (srtK es) _ (by omega)] at this
  have hy : lineOf ((srtK es).take i.toNat) (srtK es)[i.toNat]!.sku ∈ out := (h.mem _).2 ⟨⟨_, hm, hs.symm⟩, rfl⟩
  obtain ⟨A, hA⟩ := last_max h.up hy fun z hz => by
    obtain ⟨⟨x, hx, k⟩, _⟩ := (h.mem z).1 hz
    obtain ⟨j, h1, h2, rfl⟩ := take_at hx
    rw [← k]
    exact srt_le (by omega) (by omega)
  refine ⟨A, _, hA, rfl, ?_⟩
  unfold isUp at *
  rw [← take_step h0 hi]
  rw [hA] at h
  exact same_step h rfl
theorem lastI {α : Type} (A : List α) (x : α) : (((A ++ [x]).length : Int) - 1).toNat = A.length := by rw [List.length_append, List.length_singleton]; omega
theorem bang_last {α : Type} [Inhabited α] (A : List α) (x : α) : (A ++ [x])[A.length]! = x := by rw [getElem!_pos _ _ (by simp)]; simp
theorem set_last {α : Type} (A : List α) (x y : α) : (A ++ [x]).set A.length y = A ++ [y] := by simp
theorem row_last {α β : Type} (f : α → β) (A : List α) (x : α) : (List.map f (A ++ [x]))[A.length]? = some (f x) := by simp
theorem srt_qty {es : List Entry} (h : lstE es = 0) {i : Int} (h0 : 0 ≤ i) (hi : i < (srtK es).length) : 1 ≤ (srtK es)[i.toNat]!.qty ∧ (srtK es)[i.toNat]!.qty ≤ 1000000 :=
  ent_qty (okL_mem h _ ((srtK_perm es).mem_iff.1 (bang_mem (by omega))))
theorem srt_bound {es : List Entry} (h : lstE es = 0) {i : Int} {x : Line} (h0 : 0 ≤ i) (hi : i ≤ es.length) (hx : x = lineOf ((srtK es).take i.toNat) x.sku) : 0 ≤ x.qty ∧ x.qty ≤ 1000000 * es.length ∧ 0 ≤ x.parts ∧ x.parts ≤ es.length := by
  have h1 := line_bound h (l := (srtK es).take i.toNat) (fun e he => (srtK_perm es).mem_iff.1 (List.mem_of_mem_take he)) x.sku
  rw [← hx, List.length_take] at h1
  omega
theorem con32 (es : List Entry) (hs : es.length * 40 ≤ 140737488351232) : Con Try.prog 32 [.sl (es.map c28)] (.tup [.sl ((linesV es).1.map c55), .i .i64 (linesV es).2]) :=
  by
  refine con_lens 0 (c28) (es) (by kernel_rfl) Go.Proofs.Try.func32 (by kernel_rfl) fun hl_0 => ?_
  refine st_con tab_ok (by kernel_rfl) [.tmp 2, .tmp 3] 73 Go.Proofs.Try.func32 (by kernel_rfl) (by kernel_rfl) ?_
  intro e0 cx
  refine sq ?_
  refine rg (A := True) cx [] [0] [] trivial ?_
  refine sn ?_
  refine sq ?_
  refine sq ?_
  refine rg (A := _ ∧ (AV.b (lstE es != (0 : Int)) = AV.b (decide ¬lstE es = (0 : Int)))) cx [(1, { val := some (.i .i64 (lstE es)) }), (2, { tell := some (.b (decide ¬lstE es = (0 : Int))) })] [0, 10] [] ⟨(con18 (es)), (told_neq)⟩ ?_
  refine sn ?_
  refine st_dec (¬lstE es = (0 : Int)) (by kernel_rfl) (by kernel_rfl) (fun h_0 => ?_) (fun h_0 => ?_)
  refine sq ?_
  refine rg (A := True) cx [] [2, 3] [] trivial ?_
  refine sn ?_
  refine st_ret (by kernel_rfl) ?_
  refine q_seq_ret ?_
  refine q_ret (r := .tup [.nl, .i .i64 ((1 : Int))]) (obl := []) (by kernel_rfl) trivial (AVle.tup (ZLe.cons (AVle.nl' (show List.map c55 (linesV es).fst = [] from ?g1)) (ZLe.cons (AVle.eq (show AV.i IntKind.i64 (1 : Int) = AV.i IntKind.i64 (linesV es).snd from ?g0)) ZLe.nil))); rotate_left 2
  refine st_skip (by kernel_rfl) ?_
  refine sn ?_
  refine sq ?_
  refine rg (A := _) cx [(1, { val := some (.sl (List.map c28 (botS (leM (1 : Int)) (1 : Nat) es))) })] [4] [] (con58 (es) ((1 : Int)) (by (with_reducible assumption))) ?_
  refine sn ?_
  refine sq ?_
  refine rg (A := True) cx [] [4, 5] [] trivial ?_
  refine sn ?_
  refine sq ?_
  refine sq ?_
  refine rg (A := True) cx [] [4, 5, 6] [] trivial ?_
  refine sn ?_
  refine st_block 0 (by kernel_rfl) ?_
  refine awp_adopt 5 1005 55 3 (σ' := ⟨[(4, .sl (List.map c28 (botS (leM (1 : Int)) (1 : Nat) es))), (5, .own 1005 0), (6, .i .i64 ((0 : Int)))], [(1005, ⟨0, 55, .row 3 (List.map c55 [])⟩)]⟩) (by kernel_rfl) ?_
  refine st_loop (X := Int × List Line) (fun x => ⟨[(4, .sl (List.map c28 (botS (leM (1 : Int)) (1 : Nat) es))), (5, .own 1005 0), (6, .i .i64 (x.fst))], [(1005, ⟨0, 55, .row 3 (List.map c55 x.snd)⟩)]⟩) (fun x ↦ decK es x.fst x.snd) (fun x ↦ invK es x.fst x.snd) [4, 5, 6] [1005] (((0 : Int), [])) (by kernel_rfl) (by kernel_rfl) (show invK es (0 : Int) [] from ?g2) ?_; rotate_left 1
  rintro ⟨i_1, out_2⟩ h_3
  obtain ⟨h_4, h_5, h_6, h_7⟩ : (0 : Int) ≤ i_1 ∧ i_1 ≤ (↑es.length : Int) ∧ (↑out_2.length : Int) ≤ i_1 ∧ isUp (srtK es) i_1 out_2 := h_3
  refine sq ?_
  refine sq ?_
  refine rg (A := _ ∧ (AV.b (decide (i_1 < (↑(botS (leM (1 : Int)) (1 : Nat) es).length : Int))) = AV.b (decide (i_1 < (↑(botS (leM (1 : Int)) (1 : Nat) es).length : Int))))) cx [(2, { tell := some (.i .i64 ((↑(botS (leM (1 : Int)) (1 : Nat) es).length : Int))) }), (3, { tell := some (.b (decide (i_1 < (↑(botS (leM (1 : Int)) (1 : Nat) es).length : Int)))) })] [4, 5, 6, 16] [1005] ⟨(told_len c28 (botS (leM (1 : Int)) (1 : Nat) es)), (by kernel_rfl)⟩ ?_
  refine sn ?_
  refine st_dec (i_1 < (↑(botS (leM (1 : Int)) (1 : Nat) es).length : Int)) (by kernel_rfl) (by kernel_rfl) (fun h_8 => ?_) (fun h_8 => ?_)
  refine st_skip (by kernel_rfl) ?_
  refine sn ?_
  refine sq ?_
  refine st_block 1 (by kernel_rfl) ?_
  refine sq ?_
  refine sq ?_
  refine st_join (σ' := ⟨[(4, .sl (List.map c28 (botS (leM (1 : Int)) (1 : Nat) es))), (5, .own 1005 0), (6, .i .i64 (i_1)), (34, .b (decide (i_1 = (0 : Int) ∨ ¬(botS (leM (1 : Int)) (1 : Nat) es)[i_1.toNat]!.sku = (botS (leM (1 : Int)) (1 : Nat) es)[(i_1 - (1 : Int)).toNat]!.sku)))], [(1005, ⟨0, 55, .row 3 (List.map c55 out_2)⟩)]⟩) ?_ ?_
  refine st_split (i_1 = (0 : Int)) (fun h_10 => ?_) (fun h_10 => ?_)
  refine ra (A := _ ∧ (AV.b true = AV.b (decide (i_1 = (0 : Int) ∨ ¬(botS (leM (1 : Int)) (1 : Nat) es)[i_1.toNat]!.sku = (botS (leM (1 : Int)) (1 : Nat) es)[(i_1 - (1 : Int)).toNat]!.sku)))) cx [(1, { tell := some (.b (true)) }), (15, { tell := some (.b (decide (i_1 = (0 : Int) ∨ ¬(botS (leM (1 : Int)) (1 : Nat) es)[i_1.toNat]!.sku = (botS (leM (1 : Int)) (1 : Nat) es)[(i_1 - (1 : Int)).toNat]!.sku))) })] [4, 5, 6, 34] [1005] ⟨(told_true h_10), (by simp only [eq_true h_10, told_simp1, told_simp2, and_true, true_and, and_false, false_and, or_true, true_or, or_false, false_or, not_true_eq_false, not_false_eq_true, decide_true, decide_false, Bool.decide_eq_true])⟩ ?_
  exact ⟨rfl, by kernel_rfl⟩
  refine ra (A := _ ∧ ((0 : Int) ≤ i_1) ∧ ((List.map c28 (botS (leM (1 : Int)) (1 : Nat) es))[i_1.toNat]? = some (c28 (botS (leM (1 : Int)) (1 : Nat) es)[i_1.toNat]!)) ∧ ((c28 (botS (leM (1 : Int)) (1 : Nat) es)[i_1.toNat]!).length = (4 : Nat)) ∧ (AV.i IntKind.i64 (IntKind.i64.wrap (i_1 - (1 : Int))) = AV.i IntKind.i64 (i_1 - (1 : Int))) ∧ ((0 : Int) ≤ i_1 - (1 : Int)) ∧ ((List.map c28 (botS (leM (1 : Int)) (1 : Nat) es))[(i_1 - (1 : Int)).toNat]? = some (c28 (botS (leM (1 : Int)) (1 : Nat) es)[(i_1 - (1 : Int)).toNat]!)) ∧ ((c28 (botS (leM (1 : Int)) (1 : Nat) es)[(i_1 - (1 : Int)).toNat]!).length = (4 : Nat)) ∧ ((AV.b !(botS (leM (1 : Int)) (1 : Nat) es)[i_1.toNat]!.sku.toList == (botS (leM (1 : Int)) (1 : Nat) es)[(i_1 - (1 : Int)).toNat]!.sku.toList) = AV.b (decide ¬(botS (leM (1 : Int)) (1 : Nat) es)[i_1.toNat]!.sku = (botS (leM (1 : Int)) (1 : Nat) es)[(i_1 - (1 : Int)).toNat]!.sku)) ∧ (AV.b (decide ¬(botS (leM (1 : Int)) (1 : Nat) es)[i_1.toNat]!.sku = (botS (leM (1 : Int)) (1 : Nat) es)[(i_1 - (1 : Int)).toNat]!.sku) = AV.b (decide (i_1 = (0 : Int) ∨ ¬(botS (leM (1 : Int)) (1 : Nat) es)[i_1.toNat]!.sku = (botS (leM (1 : Int)) (1 : Nat) es)[(i_1 - (1 : Int)).toNat]!.sku)))) cx [(1, { tell := some (.b (false)) }), (5, { row := (c28 (botS (leM (1 : Int)) (1 : Nat) es)[i_1.toNat]!) }), (10, { tell := some (.i .i64 (i_1 - (1 : Int))) }), (11, { row := (c28 (botS (leM (1 : Int)) (1 : Nat) es)[(i_1 - (1 : Int)).toNat]!) }), (14, { tell := some (.b (decide ¬(botS (leM (1 : Int)) (1 : Nat) es)[i_1.toNat]!.sku = (botS (leM (1 : Int)) (1 : Nat) es)[(i_1 - (1 : Int)).toNat]!.sku)) }), (15, { tell := some (.b (decide (i_1 = (0 : Int) ∨ ¬(botS (leM (1 : Int)) (1 : Nat) es)[i_1.toNat]!.sku = (botS (leM (1 : Int)) (1 : Nat) es)[(i_1 - (1 : Int)).toNat]!.sku))) })] [4, 5, 6, 34] [1005] ⟨(told_false h_10), (by (with_reducible assumption)), (by (with_reducible refine get_map ?_; omega)), (by kernel_rfl), (told_i64 (by omega) (by omega)), (by omega), (by (with_reducible refine get_map ?_; omega)), (by kernel_rfl), (told_sne), (by simp only [eq_false h_10, told_simp1, told_simp2, and_true, true_and, and_false, false_and, or_true, true_or, or_false, false_or, not_true_eq_false, not_false_eq_true, decide_true, decide_false, Bool.decide_eq_true])⟩ ?_
  exact ⟨rfl, by kernel_rfl⟩
  refine sn ?_
  refine st_dec (i_1 = (0 : Int) ∨ ¬(botS (leM (1 : Int)) (1 : Nat) es)[i_1.toNat]!.sku = (botS (leM (1 : Int)) (1 : Nat) es)[(i_1 - (1 : Int)).toNat]!.sku) (by kernel_rfl) (by kernel_rfl) (fun h_11 => ?_) (fun h_11 => ?_)
  refine rg (A := ((0 : Int) ≤ i_1) ∧ ((List.map c28 (botS (leM (1 : Int)) (1 : Nat) es))[i_1.toNat]? = some (c28 (botS (leM (1 : Int)) (1 : Nat) es)[i_1.toNat]!)) ∧ ((c28 (botS (leM (1 : Int)) (1 : Nat) es)[i_1.toNat]!).length = (4 : Nat)) ∧ (55 = (55 : Nat)) ∧ ((3 : Nat) = 3) ∧ ([AV.s { data := #[] : ByteArray }, AV.i IntKind.i64 (0 : Int), AV.i IntKind.i64 (0 : Int)].length = (3 : Nat)) ∧ (∀ (r : List AV), r ∈ List.map c55 [{ sku := (botS (leM (1 : Int)) (1 : Nat) es)[i_1.toNat]!.sku, qty := (0 : Int), parts := (0 : Int) : Line }] → r.length = 3) ∧ ((List.map c55 out_2).length + (List.map c55 [{ sku := (botS (leM (1 : Int)) (1 : Nat) es)[i_1.toNat]!.sku, qty := (0 : Int), parts := (0 : Int) : Line }]).length ≤ maxLen) ∧ (((List.map c55 out_2).length + (List.map c55 [{ sku := (botS (leM (1 : Int)) (1 : Nat) es)[i_1.toNat]!.sku, qty := (0 : Int), parts := (0 : Int) : Line }]).length) * (32 : Nat) ≤ (140737488355328 : Nat)) ∧ (List.map c55 out_2 ++ List.map c55 [{ sku := (botS (leM (1 : Int)) (1 : Nat) es)[i_1.toNat]!.sku, qty := (0 : Int), parts := (0 : Int) : Line }] = List.map c55 (out_2 ++ [{ sku := (botS (leM (1 : Int)) (1 : Nat) es)[i_1.toNat]!.sku, qty := (0 : Int), parts := (0 : Int) : Line }]))) cx [(3, { row := (c28 (botS (leM (1 : Int)) (1 : Nat) es)[i_1.toNat]!) }), (8, { rows := some (List.map c55 (out_2 ++ [{ sku := (botS (leM (1 : Int)) (1 : Nat) es)[i_1.toNat]!.sku, qty := (0 : Int), parts := (0 : Int) : Line }])) })] [4, 5, 6] [1005] ⟨(by (with_reducible assumption)), (by (with_reducible refine get_map ?_; omega)), (by kernel_rfl), (by kernel_rfl), (by kernel_rfl), (by kernel_rfl), (by (with_reducible refine len_map (fun _ => ?_) _; kernel_rfl)), (by (simp only [Go.maxLen, List.length_map, List.length_append, List.length_cons, List.length_nil]; omega)), (by (simp only [Go.maxLen, List.length_map, List.length_append, List.length_cons, List.length_nil]; omega)), (by (with_reducible refine app_map ?_; kernel_rfl))⟩ ?_
  refine sn ?_
  refine sq ?_
  refine rg (A := _ ∧ (AV.i IntKind.i64 (IntKind.i64.wrap ((↑(out_2 ++ [{ sku := (botS (leM (1 : Int)) (1 : Nat) es)[i_1.toNat]!.sku, qty := (0 : Int), parts := (0 : Int) : Line }]).length : Int) - (1 : Int))) = AV.i IntKind.i64 ((↑(out_2 ++ [{ sku := (botS (leM (1 : Int)) (1 : Nat) es)[i_1.toNat]!.sku, qty := (0 : Int), parts := (0 : Int) : Line }]).length : Int) - (1 : Int)))) cx [(1, { tell := some (.i .i64 ((↑(out_2 ++ [{ sku := (botS (leM (1 : Int)) (1 : Nat) es)[i_1.toNat]!.sku, qty := (0 : Int), parts := (0 : Int) : Line }]).length : Int))) }), (2, { tell := some (.i .i64 ((↑(out_2 ++ [{ sku := (botS (leM (1 : Int)) (1 : Nat) es)[i_1.toNat]!.sku, qty := (0 : Int), parts := (0 : Int) : Line }]).length : Int) - (1 : Int))) })] [4, 5, 6, 7] [1005] ⟨(told_len c55 (out_2 ++ [{ sku := (botS (leM (1 : Int)) (1 : Nat) es)[i_1.toNat]!.sku, qty := (0 : Int), parts := (0 : Int) : Line }])), (told_i64 (by omega) (by (simp only [List.length_append, List.length_cons, List.length_nil]; omega)))⟩ ?_
  refine sn ?_
  refine sq ?_
  refine ra (A := ((0 : Int) ≤ (↑(out_2 ++ [{ sku := (botS (leM (1 : Int)) (1 : Nat) es)[i_1.toNat]!.sku, qty := (0 : Int), parts := (0 : Int) : Line }]).length : Int) - (1 : Int)) ∧ (((↑(out_2 ++ [{ sku := (botS (leM (1 : Int)) (1 : Nat) es)[i_1.toNat]!.sku, qty := (0 : Int), parts := (0 : Int) : Line }]).length : Int) - (1 : Int)).toNat < (List.map c55 (out_2 ++ [{ sku := (botS (leM (1 : Int)) (1 : Nat) es)[i_1.toNat]!.sku, qty := (0 : Int), parts := (0 : Int) : Line }])).length) ∧ ((3 : Nat) = 3) ∧ (E.rowAt { ver := 0, ty := 55, k := BK.row (3) (List.map c55 (out_2 ++ [{ sku := (botS (leM (1 : Int)) (1 : Nat) es)[i_1.toNat]!.sku, qty := (0 : Int), parts := (0 : Int) : Line }])) : Blk } ((↑(out_2 ++ [{ sku := (botS (leM (1 : Int)) (1 : Nat) es)[i_1.toNat]!.sku, qty := (0 : Int), parts := (0 : Int) : Line }]).length : Int) - (1 : Int)).toNat (c55 (out_2 ++ [{ sku := (botS (leM (1 : Int)) (1 : Nat) es)[i_1.toNat]!.sku, qty := (0 : Int), parts := (0 : Int) : Line }])[((↑(out_2 ++ [{ sku := (botS (leM (1 : Int)) (1 : Nat) es)[i_1.toNat]!.sku, qty := (0 : Int), parts := (0 : Int) : Line }]).length : Int) - (1 : Int)).toNat]!)) ∧ ((0 : Int) ≤ i_1) ∧ ((List.map c28 (botS (leM (1 : Int)) (1 : Nat) es))[i_1.toNat]? = some (c28 (botS (leM (1 : Int)) (1 : Nat) es)[i_1.toNat]!)) ∧ ((c28 (botS (leM (1 : Int)) (1 : Nat) es)[i_1.toNat]!).length = (4 : Nat)) ∧ (AV.i IntKind.i64 (IntKind.i64.wrap ((out_2 ++ [{ sku := (botS (leM (1 : Int)) (1 : Nat) es)[i_1.toNat]!.sku, qty := (0 : Int), parts := (0 : Int) : Line }])[((↑(out_2 ++ [{ sku := (botS (leM (1 : Int)) (1 : Nat) es)[i_1.toNat]!.sku, qty := (0 : Int), parts := (0 : Int) : Line }]).length : Int) - (1 : Int)).toNat]!.qty + (botS (leM (1 : Int)) (1 : Nat) es)[i_1.toNat]!.qty)) = AV.i IntKind.i64 ((out_2 ++ [{ sku := (botS (leM (1 : Int)) (1 : Nat) es)[i_1.toNat]!.sku, qty := (0 : Int), parts := (0 : Int) : Line }])[((↑(out_2 ++ [{ sku := (botS (leM (1 : Int)) (1 : Nat) es)[i_1.toNat]!.sku, qty := (0 : Int), parts := (0 : Int) : Line }]).length : Int) - (1 : Int)).toNat]!.qty + (botS (leM (1 : Int)) (1 : Nat) es)[i_1.toNat]!.qty)) ∧ ((0 : Int) ≤ (↑(out_2 ++ [{ sku := (botS (leM (1 : Int)) (1 : Nat) es)[i_1.toNat]!.sku, qty := (0 : Int), parts := (0 : Int) : Line }]).length : Int) - (1 : Int)) ∧ (((↑(out_2 ++ [{ sku := (botS (leM (1 : Int)) (1 : Nat) es)[i_1.toNat]!.sku, qty := (0 : Int), parts := (0 : Int) : Line }]).length : Int) - (1 : Int)).toNat < (List.map c55 (out_2 ++ [{ sku := (botS (leM (1 : Int)) (1 : Nat) es)[i_1.toNat]!.sku, qty := (0 : Int), parts := (0 : Int) : Line }])).length) ∧ ((3 : Nat) = 3) ∧ ((List.map c55 (out_2 ++ [{ sku := (botS (leM (1 : Int)) (1 : Nat) es)[i_1.toNat]!.sku, qty := (0 : Int), parts := (0 : Int) : Line }]))[((↑(out_2 ++ [{ sku := (botS (leM (1 : Int)) (1 : Nat) es)[i_1.toNat]!.sku, qty := (0 : Int), parts := (0 : Int) : Line }]).length : Int) - (1 : Int)).toNat]? = some (c55 (out_2 ++ [{ sku := (botS (leM (1 : Int)) (1 : Nat) es)[i_1.toNat]!.sku, qty := (0 : Int), parts := (0 : Int) : Line }])[((↑(out_2 ++ [{ sku := (botS (leM (1 : Int)) (1 : Nat) es)[i_1.toNat]!.sku, qty := (0 : Int), parts := (0 : Int) : Line }]).length : Int) - (1 : Int)).toNat]!)) ∧ ((cellsA (AV.i IntKind.i64 ((out_2 ++ [{ sku := (botS (leM (1 : Int)) (1 : Nat) es)[i_1.toNat]!.sku, qty := (0 : Int), parts := (0 : Int) : Line }])[((↑(out_2 ++ [{ sku := (botS (leM (1 : Int)) (1 : Nat) es)[i_1.toNat]!.sku, qty := (0 : Int), parts := (0 : Int) : Line }]).length : Int) - (1 : Int)).toNat]!.qty + (botS (leM (1 : Int)) (1 : Nat) es)[i_1.toNat]!.qty))).length = (1 : Nat)) ∧ (1 + (1 : Nat) ≤ 3) ∧ ((List.map c55 (out_2 ++ [{ sku := (botS (leM (1 : Int)) (1 : Nat) es)[i_1.toNat]!.sku, qty := (0 : Int), parts := (0 : Int) : Line }])).set ((↑(out_2 ++ [{ sku := (botS (leM (1 : Int)) (1 : Nat) es)[i_1.toNat]!.sku, qty := (0 : Int), parts := (0 : Int) : Line }]).length : Int) - (1 : Int)).toNat (List.take (1) (c55 (out_2 ++ [{ sku := (botS (leM (1 : Int)) (1 : Nat) es)[i_1.toNat]!.sku, qty := (0 : Int), parts := (0 : Int) : Line }])[((↑(out_2 ++ [{ sku := (botS (leM (1 : Int)) (1 : Nat) es)[i_1.toNat]!.sku, qty := (0 : Int), parts := (0 : Int) : Line }]).length : Int) - (1 : Int)).toNat]!) ++ cellsA (AV.i IntKind.i64 ((out_2 ++ [{ sku := (botS (leM (1 : Int)) (1 : Nat) es)[i_1.toNat]!.sku, qty := (0 : Int), parts := (0 : Int) : Line }])[((↑(out_2 ++ [{ sku := (botS (leM (1 : Int)) (1 : Nat) es)[i_1.toNat]!.sku, qty := (0 : Int), parts := (0 : Int) : Line }]).length : Int) - (1 : Int)).toNat]!.qty + (botS (leM (1 : Int)) (1 : Nat) es)[i_1.toNat]!.qty)) ++ List.drop (1 + (1 : Nat)) (c55 (out_2 ++ [{ sku := (botS (leM (1 : Int)) (1 : Nat) es)[i_1.toNat]!.sku, qty := (0 : Int), parts := (0 : Int) : Line }])[((↑(out_2 ++ [{ sku := (botS (leM (1 : Int)) (1 : Nat) es)[i_1.toNat]!.sku, qty := (0 : Int), parts := (0 : Int) : Line }]).length : Int) - (1 : Int)).toNat]!)) = List.map c55 ((out_2 ++ [{ sku := (botS (leM (1 : Int)) (1 : Nat) es)[i_1.toNat]!.sku, qty := (0 : Int), parts := (0 : Int) : Line }]).set ((↑(out_2 ++ [{ sku := (botS (leM (1 : Int)) (1 : Nat) es)[i_1.toNat]!.sku, qty := (0 : Int), parts := (0 : Int) : Line }]).length : Int) - (1 : Int)).toNat { sku := (out_2 ++ [{ sku := (botS (leM (1 : Int)) (1 : Nat) es)[i_1.toNat]!.sku, qty := (0 : Int), parts := (0 : Int) : Line }])[((↑(out_2 ++ [{ sku := (botS (leM (1 : Int)) (1 : Nat) es)[i_1.toNat]!.sku, qty := (0 : Int), parts := (0 : Int) : Line }]).length : Int) - (1 : Int)).toNat]!.sku, qty := (out_2 ++ [{ sku := (botS (leM (1 : Int)) (1 : Nat) es)[i_1.toNat]!.sku, qty := (0 : Int), parts := (0 : Int) : Line }])[((↑(out_2 ++ [{ sku := (botS (leM (1 : Int)) (1 : Nat) es)[i_1.toNat]!.sku, qty := (0 : Int), parts := (0 : Int) : Line }]).length : Int) - (1 : Int)).toNat]!.qty + (botS (leM (1 : Int)) (1 : Nat) es)[i_1.toNat]!.qty, parts := (out_2 ++ [{ sku := (botS (leM (1 : Int)) (1 : Nat) es)[i_1.toNat]!.sku, qty := (0 : Int), parts := (0 : Int) : Line }])[((↑(out_2 ++ [{ sku := (botS (leM (1 : Int)) (1 : Nat) es)[i_1.toNat]!.sku, qty := (0 : Int), parts := (0 : Int) : Line }]).length : Int) - (1 : Int)).toNat]!.parts : Line }))) cx [(6, { row := (c55 (out_2 ++ [{ sku := (botS (leM (1 : Int)) (1 : Nat) es)[i_1.toNat]!.sku, qty := (0 : Int), parts := (0 : Int) : Line }])[((↑(out_2 ++ [{ sku := (botS (leM (1 : Int)) (1 : Nat) es)[i_1.toNat]!.sku, qty := (0 : Int), parts := (0 : Int) : Line }]).length : Int) - (1 : Int)).toNat]!) }), (9, { row := (c28 (botS (leM (1 : Int)) (1 : Nat) es)[i_1.toNat]!) }), (12, { tell := some (.i .i64 ((out_2 ++ [{ sku := (botS (leM (1 : Int)) (1 : Nat) es)[i_1.toNat]!.sku, qty := (0 : Int), parts := (0 : Int) : Line }])[((↑(out_2 ++ [{ sku := (botS (leM (1 : Int)) (1 : Nat) es)[i_1.toNat]!.sku, qty := (0 : Int), parts := (0 : Int) : Line }]).length : Int) - (1 : Int)).toNat]!.qty + (botS (leM (1 : Int)) (1 : Nat) es)[i_1.toNat]!.qty)) }), (15, { row := (c55 (out_2 ++ [{ sku := (botS (leM (1 : Int)) (1 : Nat) es)[i_1.toNat]!.sku, qty := (0 : Int), parts := (0 : Int) : Line }])[((↑(out_2 ++ [{ sku := (botS (leM (1 : Int)) (1 : Nat) es)[i_1.toNat]!.sku, qty := (0 : Int), parts := (0 : Int) : Line }]).length : Int) - (1 : Int)).toNat]!), rows := some (List.map c55 ((out_2 ++ [{ sku := (botS (leM (1 : Int)) (1 : Nat) es)[i_1.toNat]!.sku, qty := (0 : Int), parts := (0 : Int) : Line }]).set ((↑(out_2 ++ [{ sku := (botS (leM (1 : Int)) (1 : Nat) es)[i_1.toNat]!.sku, qty := (0 : Int), parts := (0 : Int) : Line }]).length : Int) - (1 : Int)).toNat { sku := (out_2 ++ [{ sku := (botS (leM (1 : Int)) (1 : Nat) es)[i_1.toNat]!.sku, qty := (0 : Int), parts := (0 : Int) : Line }])[((↑(out_2 ++ [{ sku := (botS (leM (1 : Int)) (1 : Nat) es)[i_1.toNat]!.sku, qty := (0 : Int), parts := (0 : Int) : Line }]).length : Int) - (1 : Int)).toNat]!.sku, qty := (out_2 ++ [{ sku := (botS (leM (1 : Int)) (1 : Nat) es)[i_1.toNat]!.sku, qty := (0 : Int), parts := (0 : Int) : Line }])[((↑(out_2 ++ [{ sku := (botS (leM (1 : Int)) (1 : Nat) es)[i_1.toNat]!.sku, qty := (0 : Int), parts := (0 : Int) : Line }]).length : Int) - (1 : Int)).toNat]!.qty + (botS (leM (1 : Int)) (1 : Nat) es)[i_1.toNat]!.qty, parts := (out_2 ++ [{ sku := (botS (leM (1 : Int)) (1 : Nat) es)[i_1.toNat]!.sku, qty := (0 : Int), parts := (0 : Int) : Line }])[((↑(out_2 ++ [{ sku := (botS (leM (1 : Int)) (1 : Nat) es)[i_1.toNat]!.sku, qty := (0 : Int), parts := (0 : Int) : Line }]).length : Int) - (1 : Int)).toNat]!.parts : Line })) })] [4, 5, 6, 7] [1005] ⟨(by (simp only [List.length_append, List.length_cons, List.length_nil]; omega)), (by (simp only [Go.maxLen, List.length_map, List.length_append, List.length_cons, List.length_nil]; omega)), (by kernel_rfl), ?g3, (by (with_reducible assumption)), (by (with_reducible refine get_map ?_; omega)), (by kernel_rfl), (told_i64 ?g4 ?g5), (by (simp only [List.length_append, List.length_cons, List.length_nil]; omega)), (by (simp only [Go.maxLen, List.length_map, List.length_append, List.length_cons, List.length_nil]; omega)), (by kernel_rfl), ?g6, (by kernel_rfl), (by (first | omega | (simp only [List.length_map]; omega))), (by (with_reducible refine set_map ?_; kernel_rfl))⟩ ?_; rotate_left 4
  refine sn ?_
  refine rg (A := ((0 : Int) ≤ (↑(out_2 ++ [{ sku := (botS (leM (1 : Int)) (1 : Nat) es)[i_1.toNat]!.sku, qty := (0 : Int), parts := (0 : Int) : Line }]).length : Int) - (1 : Int)) ∧ (((↑(out_2 ++ [{ sku := (botS (leM (1 : Int)) (1 : Nat) es)[i_1.toNat]!.sku, qty := (0 : Int), parts := (0 : Int) : Line }]).length : Int) - (1 : Int)).toNat < (List.map c55 ((out_2 ++ [{ sku := (botS (leM (1 : Int)) (1 : Nat) es)[i_1.toNat]!.sku, qty := (0 : Int), parts := (0 : Int) : Line }]).set ((↑(out_2 ++ [{ sku := (botS (leM (1 : Int)) (1 : Nat) es)[i_1.toNat]!.sku, qty := (0 : Int), parts := (0 : Int) : Line }]).length : Int) - (1 : Int)).toNat { sku := (out_2 ++ [{ sku := (botS (leM (1 : Int)) (1 : Nat) es)[i_1.toNat]!.sku, qty := (0 : Int), parts := (0 : Int) : Line }])[((↑(out_2 ++ [{ sku := (botS (leM (1 : Int)) (1 : Nat) es)[i_1.toNat]!.sku, qty := (0 : Int), parts := (0 : Int) : Line }]).length : Int) - (1 : Int)).toNat]!.sku, qty := (out_2 ++ [{ sku := (botS (leM (1 : Int)) (1 : Nat) es)[i_1.toNat]!.sku, qty := (0 : Int), parts := (0 : Int) : Line }])[((↑(out_2 ++ [{ sku := (botS (leM (1 : Int)) (1 : Nat) es)[i_1.toNat]!.sku, qty := (0 : Int), parts := (0 : Int) : Line }]).length : Int) - (1 : Int)).toNat]!.qty + (botS (leM (1 : Int)) (1 : Nat) es)[i_1.toNat]!.qty, parts := (out_2 ++ [{ sku := (botS (leM (1 : Int)) (1 : Nat) es)[i_1.toNat]!.sku, qty := (0 : Int), parts := (0 : Int) : Line }])[((↑(out_2 ++ [{ sku := (botS (leM (1 : Int)) (1 : Nat) es)[i_1.toNat]!.sku, qty := (0 : Int), parts := (0 : Int) : Line }]).length : Int) - (1 : Int)).toNat]!.parts : Line })).length) ∧ ((3 : Nat) = 3) ∧ (E.rowAt { ver := 0, ty := 55, k := BK.row (3) (List.map c55 ((out_2 ++ [{ sku := (botS (leM (1 : Int)) (1 : Nat) es)[i_1.toNat]!.sku, qty := (0 : Int), parts := (0 : Int) : Line }]).set ((↑(out_2 ++ [{ sku := (botS (leM (1 : Int)) (1 : Nat) es)[i_1.toNat]!.sku, qty := (0 : Int), parts := (0 : Int) : Line }]).length : Int) - (1 : Int)).toNat { sku := (out_2 ++ [{ sku := (botS (leM (1 : Int)) (1 : Nat) es)[i_1.toNat]!.sku, qty := (0 : Int), parts := (0 : Int) : Line }])[((↑(out_2 ++ [{ sku := (botS (leM (1 : Int)) (1 : Nat) es)[i_1.toNat]!.sku, qty := (0 : Int), parts := (0 : Int) : Line }]).length : Int) - (1 : Int)).toNat]!.sku, qty := (out_2 ++ [{ sku := (botS (leM (1 : Int)) (1 : Nat) es)[i_1.toNat]!.sku, qty := (0 : Int), parts := (0 : Int) : Line }])[((↑(out_2 ++ [{ sku := (botS (leM (1 : Int)) (1 : Nat) es)[i_1.toNat]!.sku, qty := (0 : Int), parts := (0 : Int) : Line }]).length : Int) - (1 : Int)).toNat]!.qty + (botS (leM (1 : Int)) (1 : Nat) es)[i_1.toNat]!.qty, parts := (out_2 ++ [{ sku := (botS (leM (1 : Int)) (1 : Nat) es)[i_1.toNat]!.sku, qty := (0 : Int), parts := (0 : Int) : Line }])[((↑(out_2 ++ [{ sku := (botS (leM (1 : Int)) (1 : Nat) es)[i_1.toNat]!.sku, qty := (0 : Int), parts := (0 : Int) : Line }]).length : Int) - (1 : Int)).toNat]!.parts : Line })) : Blk } ((↑(out_2 ++ [{ sku := (botS (leM (1 : Int)) (1 : Nat) es)[i_1.toNat]!.sku, qty := (0 : Int), parts := (0 : Int) : Line }]).length : Int) - (1 : Int)).toNat (c55 ((out_2 ++ [{ sku := (botS (leM (1 : Int)) (1 : Nat) es)[i_1.toNat]!.sku, qty := (0 : Int), parts := (0 : Int) : Line }]).set ((↑(out_2 ++ [{ sku := (botS (leM (1 : Int)) (1 : Nat) es)[i_1.toNat]!.sku, qty := (0 : Int), parts := (0 : Int) : Line }]).length : Int) - (1 : Int)).toNat { sku := (out_2 ++ [{ sku := (botS (leM (1 : Int)) (1 : Nat) es)[i_1.toNat]!.sku, qty := (0 : Int), parts := (0 : Int) : Line }])[((↑(out_2 ++ [{ sku := (botS (leM (1 : Int)) (1 : Nat) es)[i_1.toNat]!.sku, qty := (0 : Int), parts := (0 : Int) : Line }]).length : Int) - (1 : Int)).toNat]!.sku, qty := (out_2 ++ [{ sku := (botS (leM (1 : Int)) (1 : Nat) es)[i_1.toNat]!.sku, qty := (0 : Int), parts := (0 : Int) : Line }])[((↑(out_2 ++ [{ sku := (botS (leM (1 : Int)) (1 : Nat) es)[i_1.toNat]!.sku, qty := (0 : Int), parts := (0 : Int) : Line }]).length : Int) - (1 : Int)).toNat]!.qty + (botS (leM (1 : Int)) (1 : Nat) es)[i_1.toNat]!.qty, parts := (out_2 ++ [{ sku := (botS (leM (1 : Int)) (1 : Nat) es)[i_1.toNat]!.sku, qty := (0 : Int), parts := (0 : Int) : Line }])[((↑(out_2 ++ [{ sku := (botS (leM (1 : Int)) (1 : Nat) es)[i_1.toNat]!.sku, qty := (0 : Int), parts := (0 : Int) : Line }]).length : Int) - (1 : Int)).toNat]!.parts : Line })[((↑(out_2 ++ [{ sku := (botS (leM (1 : Int)) (1 : Nat) es)[i_1.toNat]!.sku, qty := (0 : Int), parts := (0 : Int) : Line }]).length : Int) - (1 : Int)).toNat]!)) ∧ (AV.i IntKind.i64 (IntKind.i64.wrap (((out_2 ++ [{ sku := (botS (leM (1 : Int)) (1 : Nat) es)[i_1.toNat]!.sku, qty := (0 : Int), parts := (0 : Int) : Line }]).set ((↑(out_2 ++ [{ sku := (botS (leM (1 : Int)) (1 : Nat) es)[i_1.toNat]!.sku, qty := (0 : Int), parts := (0 : Int) : Line }]).length : Int) - (1 : Int)).toNat { sku := (out_2 ++ [{ sku := (botS (leM (1 : Int)) (1 : Nat) es)[i_1.toNat]!.sku, qty := (0 : Int), parts := (0 : Int) : Line }])[((↑(out_2 ++ [{ sku := (botS (leM (1 : Int)) (1 : Nat) es)[i_1.toNat]!.sku, qty := (0 : Int), parts := (0 : Int) : Line }]).length : Int) - (1 : Int)).toNat]!.sku, qty := (out_2 ++ [{ sku := (botS (leM (1 : Int)) (1 : Nat) es)[i_1.toNat]!.sku, qty := (0 : Int), parts := (0 : Int) : Line }])[((↑(out_2 ++ [{ sku := (botS (leM (1 : Int)) (1 : Nat) es)[i_1.toNat]!.sku, qty := (0 : Int), parts := (0 : Int) : Line }]).length : Int) - (1 : Int)).toNat]!.qty + (botS (leM (1 : Int)) (1 : Nat) es)[i_1.toNat]!.qty, parts := (out_2 ++ [{ sku := (botS (leM (1 : Int)) (1 : Nat) es)[i_1.toNat]!.sku, qty := (0 : Int), parts := (0 : Int) : Line }])[((↑(out_2 ++ [{ sku := (botS (leM (1 : Int)) (1 : Nat) es)[i_1.toNat]!.sku, qty := (0 : Int), parts := (0 : Int) : Line }]).length : Int) - (1 : Int)).toNat]!.parts : Line })[((↑(out_2 ++ [{ sku := (botS (leM (1 : Int)) (1 : Nat) es)[i_1.toNat]!.sku, qty := (0 : Int), parts := (0 : Int) : Line }]).length : Int) - (1 : Int)).toNat]!.parts + (1 : Int))) = AV.i IntKind.i64 (((out_2 ++ [{ sku := (botS (leM (1 : Int)) (1 : Nat) es)[i_1.toNat]!.sku, qty := (0 : Int), parts := (0 : Int) : Line }]).set ((↑(out_2 ++ [{ sku := (botS (leM (1 : Int)) (1 : Nat) es)[i_1.toNat]!.sku, qty := (0 : Int), parts := (0 : Int) : Line }]).length : Int) - (1 : Int)).toNat { sku := (out_2 ++ [{ sku := (botS (leM (1 : Int)) (1 : Nat) es)[i_1.toNat]!.sku, qty := (0 : Int), parts := (0 : Int) : Line }])[((↑(out_2 ++ [{ sku := (botS (leM (1 : Int)) (1 : Nat) es)[i_1.toNat]!.sku, qty := (0 : Int), parts := (0 : Int) : Line }]).length : Int) - (1 : Int)).toNat]!.sku, qty := (out_2 ++ [{ sku := (botS (leM (1 : Int)) (1 : Nat) es)[i_1.toNat]!.sku, qty := (0 : Int), parts := (0 : Int) : Line }])[((↑(out_2 ++ [{ sku := (botS (leM (1 : Int)) (1 : Nat) es)[i_1.toNat]!.sku, qty := (0 : Int), parts := (0 : Int) : Line }]).length : Int) - (1 : Int)).toNat]!.qty + (botS (leM (1 : Int)) (1 : Nat) es)[i_1.toNat]!.qty, parts := (out_2 ++ [{ sku := (botS (leM (1 : Int)) (1 : Nat) es)[i_1.toNat]!.sku, qty := (0 : Int), parts := (0 : Int) : Line }])[((↑(out_2 ++ [{ sku := (botS (leM (1 : Int)) (1 : Nat) es)[i_1.toNat]!.sku, qty := (0 : Int), parts := (0 : Int) : Line }]).length : Int) - (1 : Int)).toNat]!.parts : Line })[((↑(out_2 ++ [{ sku := (botS (leM (1 : Int)) (1 : Nat) es)[i_1.toNat]!.sku, qty := (0 : Int), parts := (0 : Int) : Line }]).length : Int) - (1 : Int)).toNat]!.parts + (1 : Int))) ∧ ((0 : Int) ≤ (↑(out_2 ++ [{ sku := (botS (leM (1 : Int)) (1 : Nat) es)[i_1.toNat]!.sku, qty := (0 : Int), parts := (0 : Int) : Line }]).length : Int) - (1 : Int)) ∧ (((↑(out_2 ++ [{ sku := (botS (leM (1 : Int)) (1 : Nat) es)[i_1.toNat]!.sku, qty := (0 : Int), parts := (0 : Int) : Line }]).length : Int) - (1 : Int)).toNat < (List.map c55 ((out_2 ++ [{ sku := (botS (leM (1 : Int)) (1 : Nat) es)[i_1.toNat]!.sku, qty := (0 : Int), parts := (0 : Int) : Line }]).set ((↑(out_2 ++ [{ sku := (botS (leM (1 : Int)) (1 : Nat) es)[i_1.toNat]!.sku, qty := (0 : Int), parts := (0 : Int) : Line }]).length : Int) - (1 : Int)).toNat { sku := (out_2 ++ [{ sku := (botS (leM (1 : Int)) (1 : Nat) es)[i_1.toNat]!.sku, qty := (0 : Int), parts := (0 : Int) : Line }])[((↑(out_2 ++ [{ sku := (botS (leM (1 : Int)) (1 : Nat) es)[i_1.toNat]!.sku, qty := (0 : Int), parts := (0 : Int) : Line }]).length : Int) - (1 : Int)).toNat]!.sku, qty := (out_2 ++ [{ sku := (botS (leM (1 : Int)) (1 : Nat) es)[i_1.toNat]!.sku, qty := (0 : Int), parts := (0 : Int) : Line }])[((↑(out_2 ++ [{ sku := (botS (leM (1 : Int)) (1 : Nat) es)[i_1.toNat]!.sku, qty := (0 : Int), parts := (0 : Int) : Line }]).length : Int) - (1 : Int)).toNat]!.qty + (botS (leM (1 : Int)) (1 : Nat) es)[i_1.toNat]!.qty, parts := (out_2 ++ [{ sku := (botS (leM (1 : Int)) (1 : Nat) es)[i_1.toNat]!.sku, qty := (0 : Int), parts := (0 : Int) : Line }])[((↑(out_2 ++ [{ sku := (botS (leM (1 : Int)) (1 : Nat) es)[i_1.toNat]!.sku, qty := (0 : Int), parts := (0 : Int) : Line }]).length : Int) - (1 : Int)).toNat]!.parts : Line })).length) ∧ ((3 : Nat) = 3) ∧ ((List.map c55 ((out_2 ++ [{ sku := (botS (leM (1 : Int)) (1 : Nat) es)[i_1.toNat]!.sku, qty := (0 : Int), parts := (0 : Int) : Line }]).set ((↑(out_2 ++ [{ sku := (botS (leM (1 : Int)) (1 : Nat) es)[i_1.toNat]!.sku, qty := (0 : Int), parts := (0 : Int) : Line }]).length : Int) - (1 : Int)).toNat { sku := (out_2 ++ [{ sku := (botS (leM (1 : Int)) (1 : Nat) es)[i_1.toNat]!.sku, qty := (0 : Int), parts := (0 : Int) : Line }])[((↑(out_2 ++ [{ sku := (botS (leM (1 : Int)) (1 : Nat) es)[i_1.toNat]!.sku, qty := (0 : Int), parts := (0 : Int) : Line }]).length : Int) - (1 : Int)).toNat]!.sku, qty := (out_2 ++ [{ sku := (botS (leM (1 : Int)) (1 : Nat) es)[i_1.toNat]!.sku, qty := (0 : Int), parts := (0 : Int) : Line }])[((↑(out_2 ++ [{ sku := (botS (leM (1 : Int)) (1 : Nat) es)[i_1.toNat]!.sku, qty := (0 : Int), parts := (0 : Int) : Line }]).length : Int) - (1 : Int)).toNat]!.qty + (botS (leM (1 : Int)) (1 : Nat) es)[i_1.toNat]!.qty, parts := (out_2 ++ [{ sku := (botS (leM (1 : Int)) (1 : Nat) es)[i_1.toNat]!.sku, qty := (0 : Int), parts := (0 : Int) : Line }])[((↑(out_2 ++ [{ sku := (botS (leM (1 : Int)) (1 : Nat) es)[i_1.toNat]!.sku, qty := (0 : Int), parts := (0 : Int) : Line }]).length : Int) - (1 : Int)).toNat]!.parts : Line }))[((↑(out_2 ++ [{ sku := (botS (leM (1 : Int)) (1 : Nat) es)[i_1.toNat]!.sku, qty := (0 : Int), parts := (0 : Int) : Line }]).length : Int) - (1 : Int)).toNat]? = some (c55 ((out_2 ++ [{ sku := (botS (leM (1 : Int)) (1 : Nat) es)[i_1.toNat]!.sku, qty := (0 : Int), parts := (0 : Int) : Line }]).set ((↑(out_2 ++ [{ sku := (botS (leM (1 : Int)) (1 : Nat) es)[i_1.toNat]!.sku, qty := (0 : Int), parts := (0 : Int) : Line }]).length : Int) - (1 : Int)).toNat { sku := (out_2 ++ [{ sku := (botS (leM (1 : Int)) (1 : Nat) es)[i_1.toNat]!.sku, qty := (0 : Int), parts := (0 : Int) : Line }])[((↑(out_2 ++ [{ sku := (botS (leM (1 : Int)) (1 : Nat) es)[i_1.toNat]!.sku, qty := (0 : Int), parts := (0 : Int) : Line }]).length : Int) - (1 : Int)).toNat]!.sku, qty := (out_2 ++ [{ sku := (botS (leM (1 : Int)) (1 : Nat) es)[i_1.toNat]!.sku, qty := (0 : Int), parts := (0 : Int) : Line }])[((↑(out_2 ++ [{ sku := (botS (leM (1 : Int)) (1 : Nat) es)[i_1.toNat]!.sku, qty := (0 : Int), parts := (0 : Int) : Line }]).length : Int) - (1 : Int)).toNat]!.qty + (botS (leM (1 : Int)) (1 : Nat) es)[i_1.toNat]!.qty, parts := (out_2 ++ [{ sku := (botS (leM (1 : Int)) (1 : Nat) es)[i_1.toNat]!.sku, qty := (0 : Int), parts := (0 : Int) : Line }])[((↑(out_2 ++ [{ sku := (botS (leM (1 : Int)) (1 : Nat) es)[i_1.toNat]!.sku, qty := (0 : Int), parts := (0 : Int) : Line }]).length : Int) - (1 : Int)).toNat]!.parts : Line })[((↑(out_2 ++ [{ sku := (botS (leM (1 : Int)) (1 : Nat) es)[i_1.toNat]!.sku, qty := (0 : Int), parts := (0 : Int) : Line }]).length : Int) - (1 : Int)).toNat]!)) ∧ ((cellsA (AV.i IntKind.i64 (((out_2 ++ [{ sku := (botS (leM (1 : Int)) (1 : Nat) es)[i_1.toNat]!.sku, qty := (0 : Int), parts := (0 : Int) : Line }]).set ((↑(out_2 ++ [{ sku := (botS (leM (1 : Int)) (1 : Nat) es)[i_1.toNat]!.sku, qty := (0 : Int), parts := (0 : Int) : Line }]).length : Int) - (1 : Int)).toNat { sku := (out_2 ++ [{ sku := (botS (leM (1 : Int)) (1 : Nat) es)[i_1.toNat]!.sku, qty := (0 : Int), parts := (0 : Int) : Line }])[((↑(out_2 ++ [{ sku := (botS (leM (1 : Int)) (1 : Nat) es)[i_1.toNat]!.sku, qty := (0 : Int), parts := (0 : Int) : Line }]).length : Int) - (1 : Int)).toNat]!.sku, qty := (out_2 ++ [{ sku := (botS (leM (1 : Int)) (1 : Nat) es)[i_1.toNat]!.sku, qty := (0 : Int), parts := (0 : Int) : Line }])[((↑(out_2 ++ [{ sku := (botS (leM (1 : Int)) (1 : Nat) es)[i_1.toNat]!.sku, qty := (0 : Int), parts := (0 : Int) : Line }]).length : Int) - (1 : Int)).toNat]!.qty + (botS (leM (1 : Int)) (1 : Nat) es)[i_1.toNat]!.qty, parts := (out_2 ++ [{ sku := (botS (leM (1 : Int)) (1 : Nat) es)[i_1.toNat]!.sku, qty := (0 : Int), parts := (0 : Int) : Line }])[((↑(out_2 ++ [{ sku := (botS (leM (1 : Int)) (1 : Nat) es)[i_1.toNat]!.sku, qty := (0 : Int), parts := (0 : Int) : Line }]).length : Int) - (1 : Int)).toNat]!.parts : Line })[((↑(out_2 ++ [{ sku := (botS (leM (1 : Int)) (1 : Nat) es)[i_1.toNat]!.sku, qty := (0 : Int), parts := (0 : Int) : Line }]).length : Int) - (1 : Int)).toNat]!.parts + (1 : Int)))).length = (1 : Nat)) ∧ (2 + (1 : Nat) ≤ 3) ∧ ((List.map c55 ((out_2 ++ [{ sku := (botS (leM (1 : Int)) (1 : Nat) es)[i_1.toNat]!.sku, qty := (0 : Int), parts := (0 : Int) : Line }]).set ((↑(out_2 ++ [{ sku := (botS (leM (1 : Int)) (1 : Nat) es)[i_1.toNat]!.sku, qty := (0 : Int), parts := (0 : Int) : Line }]).length : Int) - (1 : Int)).toNat { sku := (out_2 ++ [{ sku := (botS (leM (1 : Int)) (1 : Nat) es)[i_1.toNat]!.sku, qty := (0 : Int), parts := (0 : Int) : Line }])[((↑(out_2 ++ [{ sku := (botS (leM (1 : Int)) (1 : Nat) es)[i_1.toNat]!.sku, qty := (0 : Int), parts := (0 : Int) : Line }]).length : Int) - (1 : Int)).toNat]!.sku, qty := (out_2 ++ [{ sku := (botS (leM (1 : Int)) (1 : Nat) es)[i_1.toNat]!.sku, qty := (0 : Int), parts := (0 : Int) : Line }])[((↑(out_2 ++ [{ sku := (botS (leM (1 : Int)) (1 : Nat) es)[i_1.toNat]!.sku, qty := (0 : Int), parts := (0 : Int) : Line }]).length : Int) - (1 : Int)).toNat]!.qty + (botS (leM (1 : Int)) (1 : Nat) es)[i_1.toNat]!.qty, parts := (out_2 ++ [{ sku := (botS (leM (1 : Int)) (1 : Nat) es)[i_1.toNat]!.sku, qty := (0 : Int), parts := (0 : Int) : Line }])[((↑(out_2 ++ [{ sku := (botS (leM (1 : Int)) (1 : Nat) es)[i_1.toNat]!.sku, qty := (0 : Int), parts := (0 : Int) : Line }]).length : Int) - (1 : Int)).toNat]!.parts : Line })).set ((↑(out_2 ++ [{ sku := (botS (leM (1 : Int)) (1 : Nat) es)[i_1.toNat]!.sku, qty := (0 : Int), parts := (0 : Int) : Line }]).length : Int) - (1 : Int)).toNat (List.take (2) (c55 ((out_2 ++ [{ sku := (botS (leM (1 : Int)) (1 : Nat) es)[i_1.toNat]!.sku, qty := (0 : Int), parts := (0 : Int) : Line }]).set ((↑(out_2 ++ [{ sku := (botS (leM (1 : Int)) (1 : Nat) es)[i_1.toNat]!.sku, qty := (0 : Int), parts := (0 : Int) : Line }]).length : Int) - (1 : Int)).toNat { sku := (out_2 ++ [{ sku := (botS (leM (1 : Int)) (1 : Nat) es)[i_1.toNat]!.sku, qty := (0 : Int), parts := (0 : Int) : Line }])[((↑(out_2 ++ [{ sku := (botS (leM (1 : Int)) (1 : Nat) es)[i_1.toNat]!.sku, qty := (0 : Int), parts := (0 : Int) : Line }]).length : Int) - (1 : Int)).toNat]!.sku, qty := (out_2 ++ [{ sku := (botS (leM (1 : Int)) (1 : Nat) es)[i_1.toNat]!.sku, qty := (0 : Int), parts := (0 : Int) : Line }])[((↑(out_2 ++ [{ sku := (botS (leM (1 : Int)) (1 : Nat) es)[i_1.toNat]!.sku, qty := (0 : Int), parts := (0 : Int) : Line }]).length : Int) - (1 : Int)).toNat]!.qty + (botS (leM (1 : Int)) (1 : Nat) es)[i_1.toNat]!.qty, parts := (out_2 ++ [{ sku := (botS (leM (1 : Int)) (1 : Nat) es)[i_1.toNat]!.sku, qty := (0 : Int), parts := (0 : Int) : Line }])[((↑(out_2 ++ [{ sku := (botS (leM (1 : Int)) (1 : Nat) es)[i_1.toNat]!.sku, qty := (0 : Int), parts := (0 : Int) : Line }]).length : Int) - (1 : Int)).toNat]!.parts : Line })[((↑(out_2 ++ [{ sku := (botS (leM (1 : Int)) (1 : Nat) es)[i_1.toNat]!.sku, qty := (0 : Int), parts := (0 : Int) : Line }]).length : Int) - (1 : Int)).toNat]!) ++ cellsA (AV.i IntKind.i64 (((out_2 ++ [{ sku := (botS (leM (1 : Int)) (1 : Nat) es)[i_1.toNat]!.sku, qty := (0 : Int), parts := (0 : Int) : Line }]).set ((↑(out_2 ++ [{ sku := (botS (leM (1 : Int)) (1 : Nat) es)[i_1.toNat]!.sku, qty := (0 : Int), parts := (0 : Int) : Line }]).length : Int) - (1 : Int)).toNat { sku := (out_2 ++ [{ sku := (botS (leM (1 : Int)) (1 : Nat) es)[i_1.toNat]!.sku, qty := (0 : Int), parts := (0 : Int) : Line }])[((↑(out_2 ++ [{ sku := (botS (leM (1 : Int)) (1 : Nat) es)[i_1.toNat]!.sku, qty := (0 : Int), parts := (0 : Int) : Line }]).length : Int) - (1 : Int)).toNat]!.sku, qty := (out_2 ++ [{ sku := (botS (leM (1 : Int)) (1 : Nat) es)[i_1.toNat]!.sku, qty := (0 : Int), parts := (0 : Int) : Line }])[((↑(out_2 ++ [{ sku := (botS (leM (1 : Int)) (1 : Nat) es)[i_1.toNat]!.sku, qty := (0 : Int), parts := (0 : Int) : Line }]).length : Int) - (1 : Int)).toNat]!.qty + (botS (leM (1 : Int)) (1 : Nat) es)[i_1.toNat]!.qty, parts := (out_2 ++ [{ sku := (botS (leM (1 : Int)) (1 : Nat) es)[i_1.toNat]!.sku, qty := (0 : Int), parts := (0 : Int) : Line }])[((↑(out_2 ++ [{ sku := (botS (leM (1 : Int)) (1 : Nat) es)[i_1.toNat]!.sku, qty := (0 : Int), parts := (0 : Int) : Line }]).length : Int) - (1 : Int)).toNat]!.parts : Line })[((↑(out_2 ++ [{ sku := (botS (leM (1 : Int)) (1 : Nat) es)[i_1.toNat]!.sku, qty := (0 : Int), parts := (0 : Int) : Line }]).length : Int) - (1 : Int)).toNat]!.parts + (1 : Int))) ++ List.drop (2 + (1 : Nat)) (c55 ((out_2 ++ [{ sku := (botS (leM (1 : Int)) (1 : Nat) es)[i_1.toNat]!.sku, qty := (0 : Int), parts := (0 : Int) : Line }]).set ((↑(out_2 ++ [{ sku := (botS (leM (1 : Int)) (1 : Nat) es)[i_1.toNat]!.sku, qty := (0 : Int), parts := (0 : Int) : Line }]).length : Int) - (1 : Int)).toNat { sku := (out_2 ++ [{ sku := (botS (leM (1 : Int)) (1 : Nat) es)[i_1.toNat]!.sku, qty := (0 : Int), parts := (0 : Int) : Line }])[((↑(out_2 ++ [{ sku := (botS (leM (1 : Int)) (1 : Nat) es)[i_1.toNat]!.sku, qty := (0 : Int), parts := (0 : Int) : Line }]).length : Int) - (1 : Int)).toNat]!.sku, qty := (out_2 ++ [{ sku := (botS (leM (1 : Int)) (1 : Nat) es)[i_1.toNat]!.sku, qty := (0 : Int), parts := (0 : Int) : Line }])[((↑(out_2 ++ [{ sku := (botS (leM (1 : Int)) (1 : Nat) es)[i_1.toNat]!.sku, qty := (0 : Int), parts := (0 : Int) : Line }]).length : Int) - (1 : Int)).toNat]!.qty + (botS (leM (1 : Int)) (1 : Nat) es)[i_1.toNat]!.qty, parts := (out_2 ++ [{ sku := (botS (leM (1 : Int)) (1 : Nat) es)[i_1.toNat]!.sku, qty := (0 : Int), parts := (0 : Int) : Line }])[((↑(out_2 ++ [{ sku := (botS (leM (1 : Int)) (1 : Nat) es)[i_1.toNat]!.sku, qty := (0 : Int), parts := (0 : Int) : Line }]).length : Int) - (1 : Int)).toNat]!.parts : Line })[((↑(out_2 ++ [{ sku := (botS (leM (1 : Int)) (1 : Nat) es)[i_1.toNat]!.sku, qty := (0 : Int), parts := (0 : Int) : Line }]).length : Int) - (1 : Int)).toNat]!)) = List.map c55 (((out_2 ++ [{ sku := (botS (leM (1 : Int)) (1 : Nat) es)[i_1.toNat]!.sku, qty := (0 : Int), parts := (0 : Int) : Line }]).set ((↑(out_2 ++ [{ sku := (botS (leM (1 : Int)) (1 : Nat) es)[i_1.toNat]!.sku, qty := (0 : Int), parts := (0 : Int) : Line }]).length : Int) - (1 : Int)).toNat { sku := (out_2 ++ [{ sku := (botS (leM (1 : Int)) (1 : Nat) es)[i_1.toNat]!.sku, qty := (0 : Int), parts := (0 : Int) : Line }])[((↑(out_2 ++ [{ sku := (botS (leM (1 : Int)) (1 : Nat) es)[i_1.toNat]!.sku, qty := (0 : Int), parts := (0 : Int) : Line }]).length : Int) - (1 : Int)).toNat]!.sku, qty := (out_2 ++ [{ sku := (botS (leM (1 : Int)) (1 : Nat) es)[i_1.toNat]!.sku, qty := (0 : Int), parts := (0 : Int) : Line }])[((↑(out_2 ++ [{ sku := (botS (leM (1 : Int)) (1 : Nat) es)[i_1.toNat]!.sku, qty := (0 : Int), parts := (0 : Int) : Line }]).length : Int) - (1 : Int)).toNat]!.qty + (botS (leM (1 : Int)) (1 : Nat) es)[i_1.toNat]!.qty, parts := (out_2 ++ [{ sku := (botS (leM (1 : Int)) (1 : Nat) es)[i_1.toNat]!.sku, qty := (0 : Int), parts := (0 : Int) : Line }])[((↑(out_2 ++ [{ sku := (botS (leM (1 : Int)) (1 : Nat) es)[i_1.toNat]!.sku, qty := (0 : Int), parts := (0 : Int) : Line }]).length : Int) - (1 : Int)).toNat]!.parts : Line }).set ((↑(out_2 ++ [{ sku := (botS (leM (1 : Int)) (1 : Nat) es)[i_1.toNat]!.sku, qty := (0 : Int), parts := (0 : Int) : Line }]).length : Int) - (1 : Int)).toNat { sku := ((out_2 ++ [{ sku := (botS (leM (1 : Int)) (1 : Nat) es)[i_1.toNat]!.sku, qty := (0 : Int), parts := (0 : Int) : Line }]).set ((↑(out_2 ++ [{ sku := (botS (leM (1 : Int)) (1 : Nat) es)[i_1.toNat]!.sku, qty := (0 : Int), parts := (0 : Int) : Line }]).length : Int) - (1 : Int)).toNat { sku := (out_2 ++ [{ sku := (botS (leM (1 : Int)) (1 : Nat) es)[i_1.toNat]!.sku, qty := (0 : Int), parts := (0 : Int) : Line }])[((↑(out_2 ++ [{ sku := (botS (leM (1 : Int)) (1 : Nat) es)[i_1.toNat]!.sku, qty := (0 : Int), parts := (0 : Int) : Line }]).length : Int) - (1 : Int)).toNat]!.sku, qty := (out_2 ++ [{ sku := (botS (leM (1 : Int)) (1 : Nat) es)[i_1.toNat]!.sku, qty := (0 : Int), parts := (0 : Int) : Line }])[((↑(out_2 ++ [{ sku := (botS (leM (1 : Int)) (1 : Nat) es)[i_1.toNat]!.sku, qty := (0 : Int), parts := (0 : Int) : Line }]).length : Int) - (1 : Int)).toNat]!.qty + (botS (leM (1 : Int)) (1 : Nat) es)[i_1.toNat]!.qty, parts := (out_2 ++ [{ sku := (botS (leM (1 : Int)) (1 : Nat) es)[i_1.toNat]!.sku, qty := (0 : Int), parts := (0 : Int) : Line }])[((↑(out_2 ++ [{ sku := (botS (leM (1 : Int)) (1 : Nat) es)[i_1.toNat]!.sku, qty := (0 : Int), parts := (0 : Int) : Line }]).length : Int) - (1 : Int)).toNat]!.parts : Line })[((↑(out_2 ++ [{ sku := (botS (leM (1 : Int)) (1 : Nat) es)[i_1.toNat]!.sku, qty := (0 : Int), parts := (0 : Int) : Line }]).length : Int) - (1 : Int)).toNat]!.sku, qty := ((out_2 ++ [{ sku := (botS (leM (1 : Int)) (1 : Nat) es)[i_1.toNat]!.sku, qty := (0 : Int), parts := (0 : Int) : Line }]).set ((↑(out_2 ++ [{ sku := (botS (leM (1 : Int)) (1 : Nat) es)[i_1.toNat]!.sku, qty := (0 : Int), parts := (0 : Int) : Line }]).length : Int) - (1 : Int)).toNat { sku := (out_2 ++ [{ sku := (botS (leM (1 : Int)) (1 : Nat) es)[i_1.toNat]!.sku, qty := (0 : Int), parts := (0 : Int) : Line }])[((↑(out_2 ++ [{ sku := (botS (leM (1 : Int)) (1 : Nat) es)[i_1.toNat]!.sku, qty := (0 : Int), parts := (0 : Int) : Line }]).length : Int) - (1 : Int)).toNat]!.sku, qty := (out_2 ++ [{ sku := (botS (leM (1 : Int)) (1 : Nat) es)[i_1.toNat]!.sku, qty := (0 : Int), parts := (0 : Int) : Line }])[((↑(out_2 ++ [{ sku := (botS (leM (1 : Int)) (1 : Nat) es)[i_1.toNat]!.sku, qty := (0 : Int), parts := (0 : Int) : Line }]).length : Int) - (1 : Int)).toNat]!.qty + (botS (leM (1 : Int)) (1 : Nat) es)[i_1.toNat]!.qty, parts := (out_2 ++ [{ sku := (botS (leM (1 : Int)) (1 : Nat) es)[i_1.toNat]!.sku, qty := (0 : Int), parts := (0 : Int) : Line }])[((↑(out_2 ++ [{ sku := (botS (leM (1 : Int)) (1 : Nat) es)[i_1.toNat]!.sku, qty := (0 : Int), parts := (0 : Int) : Line }]).length : Int) - (1 : Int)).toNat]!.parts : Line })[((↑(out_2 ++ [{ sku := (botS (leM (1 : Int)) (1 : Nat) es)[i_1.toNat]!.sku, qty := (0 : Int), parts := (0 : Int) : Line }]).length : Int) - (1 : Int)).toNat]!.qty, parts := ((out_2 ++ [{ sku := (botS (leM (1 : Int)) (1 : Nat) es)[i_1.toNat]!.sku, qty := (0 : Int), parts := (0 : Int) : Line }]).set ((↑(out_2 ++ [{ sku := (botS (leM (1 : Int)) (1 : Nat) es)[i_1.toNat]!.sku, qty := (0 : Int), parts := (0 : Int) : Line }]).length : Int) - (1 : Int)).toNat { sku := (out_2 ++ [{ sku := (botS (leM (1 : Int)) (1 : Nat) es)[i_1.toNat]!.sku, qty := (0 : Int), parts := (0 : Int) : Line }])[((↑(out_2 ++ [{ sku := (botS (leM (1 : Int)) (1 : Nat) es)[i_1.toNat]!.sku, qty := (0 : Int), parts := (0 : Int) : Line }]).length : Int) - (1 : Int)).toNat]!.sku, qty := (out_2 ++ [{ sku := (botS (leM (1 : Int)) (1 : Nat) es)[i_1.toNat]!.sku, qty := (0 : Int), parts := (0 : Int) : Line }])[((↑(out_2 ++ [{ sku := (botS (leM (1 : Int)) (1 : Nat) es)[i_1.toNat]!.sku, qty := (0 : Int), parts := (0 : Int) : Line }]).length : Int) - (1 : Int)).toNat]!.qty + (botS (leM (1 : Int)) (1 : Nat) es)[i_1.toNat]!.qty, parts := (out_2 ++ [{ sku := (botS (leM (1 : Int)) (1 : Nat) es)[i_1.toNat]!.sku, qty := (0 : Int), parts := (0 : Int) : Line }])[((↑(out_2 ++ [{ sku := (botS (leM (1 : Int)) (1 : Nat) es)[i_1.toNat]!.sku, qty := (0 : Int), parts := (0 : Int) : Line }]).length : Int) - (1 : Int)).toNat]!.parts : Line })[((↑(out_2 ++ [{ sku := (botS (leM (1 : Int)) (1 : Nat) es)[i_1.toNat]!.sku, qty := (0 : Int), parts := (0 : Int) : Line }]).length : Int) - (1 : Int)).toNat]!.parts + (1 : Int) : Line }))) cx [(6, { row := (c55 ((out_2 ++ [{ sku := (botS (leM (1 : Int)) (1 : Nat) es)[i_1.toNat]!.sku, qty := (0 : Int), parts := (0 : Int) : Line }]).set ((↑(out_2 ++ [{ sku := (botS (leM (1 : Int)) (1 : Nat) es)[i_1.toNat]!.sku, qty := (0 : Int), parts := (0 : Int) : Line }]).length : Int) - (1 : Int)).toNat { sku := (out_2 ++ [{ sku := (botS (leM (1 : Int)) (1 : Nat) es)[i_1.toNat]!.sku, qty := (0 : Int), parts := (0 : Int) : Line }])[((↑(out_2 ++ [{ sku := (botS (leM (1 : Int)) (1 : Nat) es)[i_1.toNat]!.sku, qty := (0 : Int), parts := (0 : Int) : Line }]).length : Int) - (1 : Int)).toNat]!.sku, qty := (out_2 ++ [{ sku := (botS (leM (1 : Int)) (1 : Nat) es)[i_1.toNat]!.sku, qty := (0 : Int), parts := (0 : Int) : Line }])[((↑(out_2 ++ [{ sku := (botS (leM (1 : Int)) (1 : Nat) es)[i_1.toNat]!.sku, qty := (0 : Int), parts := (0 : Int) : Line }]).length : Int) - (1 : Int)).toNat]!.qty + (botS (leM (1 : Int)) (1 : Nat) es)[i_1.toNat]!.qty, parts := (out_2 ++ [{ sku := (botS (leM (1 : Int)) (1 : Nat) es)[i_1.toNat]!.sku, qty := (0 : Int), parts := (0 : Int) : Line }])[((↑(out_2 ++ [{ sku := (botS (leM (1 : Int)) (1 : Nat) es)[i_1.toNat]!.sku, qty := (0 : Int), parts := (0 : Int) : Line }]).length : Int) - (1 : Int)).toNat]!.parts : Line })[((↑(out_2 ++ [{ sku := (botS (leM (1 : Int)) (1 : Nat) es)[i_1.toNat]!.sku, qty := (0 : Int), parts := (0 : Int) : Line }]).length : Int) - (1 : Int)).toNat]!) }), (7, { tell := some (.i .i64 (((out_2 ++ [{ sku := (botS (leM (1 : Int)) (1 : Nat) es)[i_1.toNat]!.sku, qty := (0 : Int), parts := (0 : Int) : Line }]).set ((↑(out_2 ++ [{ sku := (botS (leM (1 : Int)) (1 : Nat) es)[i_1.toNat]!.sku, qty := (0 : Int), parts := (0 : Int) : Line }]).length : Int) - (1 : Int)).toNat { sku := (out_2 ++ [{ sku := (botS (leM (1 : Int)) (1 : Nat) es)[i_1.toNat]!.sku, qty := (0 : Int), parts := (0 : Int) : Line }])[((↑(out_2 ++ [{ sku := (botS (leM (1 : Int)) (1 : Nat) es)[i_1.toNat]!.sku, qty := (0 : Int), parts := (0 : Int) : Line }]).length : Int) - (1 : Int)).toNat]!.sku, qty := (out_2 ++ [{ sku := (botS (leM (1 : Int)) (1 : Nat) es)[i_1.toNat]!.sku, qty := (0 : Int), parts := (0 : Int) : Line }])[((↑(out_2 ++ [{ sku := (botS (leM (1 : Int)) (1 : Nat) es)[i_1.toNat]!.sku, qty := (0 : Int), parts := (0 : Int) : Line }]).length : Int) - (1 : Int)).toNat]!.qty + (botS (leM (1 : Int)) (1 : Nat) es)[i_1.toNat]!.qty, parts := (out_2 ++ [{ sku := (botS (leM (1 : Int)) (1 : Nat) es)[i_1.toNat]!.sku, qty := (0 : Int), parts := (0 : Int) : Line }])[((↑(out_2 ++ [{ sku := (botS (leM (1 : Int)) (1 : Nat) es)[i_1.toNat]!.sku, qty := (0 : Int), parts := (0 : Int) : Line }]).length : Int) - (1 : Int)).toNat]!.parts : Line })[((↑(out_2 ++ [{ sku := (botS (leM (1 : Int)) (1 : Nat) es)[i_1.toNat]!.sku, qty := (0 : Int), parts := (0 : Int) : Line }]).length : Int) - (1 : Int)).toNat]!.parts + (1 : Int))) }), (10, { row := (c55 ((out_2 ++ [{ sku := (botS (leM (1 : Int)) (1 : Nat) es)[i_1.toNat]!.sku, qty := (0 : Int), parts := (0 : Int) : Line }]).set ((↑(out_2 ++ [{ sku := (botS (leM (1 : Int)) (1 : Nat) es)[i_1.toNat]!.sku, qty := (0 : Int), parts := (0 : Int) : Line }]).length : Int) - (1 : Int)).toNat { sku := (out_2 ++ [{ sku := (botS (leM (1 : Int)) (1 : Nat) es)[i_1.toNat]!.sku, qty := (0 : Int), parts := (0 : Int) : Line }])[((↑(out_2 ++ [{ sku := (botS (leM (1 : Int)) (1 : Nat) es)[i_1.toNat]!.sku, qty := (0 : Int), parts := (0 : Int) : Line }]).length : Int) - (1 : Int)).toNat]!.sku, qty := (out_2 ++ [{ sku := (botS (leM (1 : Int)) (1 : Nat) es)[i_1.toNat]!.sku, qty := (0 : Int), parts := (0 : Int) : Line }])[((↑(out_2 ++ [{ sku := (botS (leM (1 : Int)) (1 : Nat) es)[i_1.toNat]!.sku, qty := (0 : Int), parts := (0 : Int) : Line }]).length : Int) - (1 : Int)).toNat]!.qty + (botS (leM (1 : Int)) (1 : Nat) es)[i_1.toNat]!.qty, parts := (out_2 ++ [{ sku := (botS (leM (1 : Int)) (1 : Nat) es)[i_1.toNat]!.sku, qty := (0 : Int), parts := (0 : Int) : Line }])[((↑(out_2 ++ [{ sku := (botS (leM (1 : Int)) (1 : Nat) es)[i_1.toNat]!.sku, qty := (0 : Int), parts := (0 : Int) : Line }]).length : Int) - (1 : Int)).toNat]!.parts : Line })[((↑(out_2 ++ [{ sku := (botS (leM (1 : Int)) (1 : Nat) es)[i_1.toNat]!.sku, qty := (0 : Int), parts := (0 : Int) : Line }]).length : Int) - (1 : Int)).toNat]!), rows := some (List.map c55 (((out_2 ++ [{ sku := (botS (leM (1 : Int)) (1 : Nat) es)[i_1.toNat]!.sku, qty := (0 : Int), parts := (0 : Int) : Line }]).set ((↑(out_2 ++ [{ sku := (botS (leM (1 : Int)) (1 : Nat) es)[i_1.toNat]!.sku, qty := (0 : Int), parts := (0 : Int) : Line }]).length : Int) - (1 : Int)).toNat { sku := (out_2 ++ [{ sku := (botS (leM (1 : Int)) (1 : Nat) es)[i_1.toNat]!.sku, qty := (0 : Int), parts := (0 : Int) : Line }])[((↑(out_2 ++ [{ sku := (botS (leM (1 : Int)) (1 : Nat) es)[i_1.toNat]!.sku, qty := (0 : Int), parts := (0 : Int) : Line }]).length : Int) - (1 : Int)).toNat]!.sku, qty := (out_2 ++ [{ sku := (botS (leM (1 : Int)) (1 : Nat) es)[i_1.toNat]!.sku, qty := (0 : Int), parts := (0 : Int) : Line }])[((↑(out_2 ++ [{ sku := (botS (leM (1 : Int)) (1 : Nat) es)[i_1.toNat]!.sku, qty := (0 : Int), parts := (0 : Int) : Line }]).length : Int) - (1 : Int)).toNat]!.qty + (botS (leM (1 : Int)) (1 : Nat) es)[i_1.toNat]!.qty, parts := (out_2 ++ [{ sku := (botS (leM (1 : Int)) (1 : Nat) es)[i_1.toNat]!.sku, qty := (0 : Int), parts := (0 : Int) : Line }])[((↑(out_2 ++ [{ sku := (botS (leM (1 : Int)) (1 : Nat) es)[i_1.toNat]!.sku, qty := (0 : Int), parts := (0 : Int) : Line }]).length : Int) - (1 : Int)).toNat]!.parts : Line }).set ((↑(out_2 ++ [{ sku := (botS (leM (1 : Int)) (1 : Nat) es)[i_1.toNat]!.sku, qty := (0 : Int), parts := (0 : Int) : Line }]).length : Int) - (1 : Int)).toNat { sku := ((out_2 ++ [{ sku := (botS (leM (1 : Int)) (1 : Nat) es)[i_1.toNat]!.sku, qty := (0 : Int), parts := (0 : Int) : Line }]).set ((↑(out_2 ++ [{ sku := (botS (leM (1 : Int)) (1 : Nat) es)[i_1.toNat]!.sku, qty := (0 : Int), parts := (0 : Int) : Line }]).length : Int) - (1 : Int)).toNat { sku := (out_2 ++ [{ sku := (botS (leM (1 : Int)) (1 : Nat) es)[i_1.toNat]!.sku, qty := (0 : Int), parts := (0 : Int) : Line }])[((↑(out_2 ++ [{ sku := (botS (leM (1 : Int)) (1 : Nat) es)[i_1.toNat]!.sku, qty := (0 : Int), parts := (0 : Int) : Line }]).length : Int) - (1 : Int)).toNat]!.sku, qty := (out_2 ++ [{ sku := (botS (leM (1 : Int)) (1 : Nat) es)[i_1.toNat]!.sku, qty := (0 : Int), parts := (0 : Int) : Line }])[((↑(out_2 ++ [{ sku := (botS (leM (1 : Int)) (1 : Nat) es)[i_1.toNat]!.sku, qty := (0 : Int), parts := (0 : Int) : Line }]).length : Int) - (1 : Int)).toNat]!.qty + (botS (leM (1 : Int)) (1 : Nat) es)[i_1.toNat]!.qty, parts := (out_2 ++ [{ sku := (botS (leM (1 : Int)) (1 : Nat) es)[i_1.toNat]!.sku, qty := (0 : Int), parts := (0 : Int) : Line }])[((↑(out_2 ++ [{ sku := (botS (leM (1 : Int)) (1 : Nat) es)[i_1.toNat]!.sku, qty := (0 : Int), parts := (0 : Int) : Line }]).length : Int) - (1 : Int)).toNat]!.parts : Line })[((↑(out_2 ++ [{ sku := (botS (leM (1 : Int)) (1 : Nat) es)[i_1.toNat]!.sku, qty := (0 : Int), parts := (0 : Int) : Line }]).length : Int) - (1 : Int)).toNat]!.sku, qty := ((out_2 ++ [{ sku := (botS (leM (1 : Int)) (1 : Nat) es)[i_1.toNat]!.sku, qty := (0 : Int), parts := (0 : Int) : Line }]).set ((↑(out_2 ++ [{ sku := (botS (leM (1 : Int)) (1 : Nat) es)[i_1.toNat]!.sku, qty := (0 : Int), parts := (0 : Int) : Line }]).length : Int) - (1 : Int)).toNat { sku := (out_2 ++ [{ sku := (botS (leM (1 : Int)) (1 : Nat) es)[i_1.toNat]!.sku, qty := (0 : Int), parts := (0 : Int) : Line }])[((↑(out_2 ++ [{ sku := (botS (leM (1 : Int)) (1 : Nat) es)[i_1.toNat]!.sku, qty := (0 : Int), parts := (0 : Int) : Line }]).length : Int) - (1 : Int)).toNat]!.sku, qty := (out_2 ++ [{ sku := (botS (leM (1 : Int)) (1 : Nat) es)[i_1.toNat]!.sku, qty := (0 : Int), parts := (0 : Int) : Line }])[((↑(out_2 ++ [{ sku := (botS (leM (1 : Int)) (1 : Nat) es)[i_1.toNat]!.sku, qty := (0 : Int), parts := (0 : Int) : Line }]).length : Int) - (1 : Int)).toNat]!.qty + (botS (leM (1 : Int)) (1 : Nat) es)[i_1.toNat]!.qty, parts := (out_2 ++ [{ sku := (botS (leM (1 : Int)) (1 : Nat) es)[i_1.toNat]!.sku, qty := (0 : Int), parts := (0 : Int) : Line }])[((↑(out_2 ++ [{ sku := (botS (leM (1 : Int)) (1 : Nat) es)[i_1.toNat]!.sku, qty := (0 : Int), parts := (0 : Int) : Line }]).length : Int) - (1 : Int)).toNat]!.parts : Line })[((↑(out_2 ++ [{ sku := (botS (leM (1 : Int)) (1 : Nat) es)[i_1.toNat]!.sku, qty := (0 : Int), parts := (0 : Int) : Line }]).length : Int) - (1 : Int)).toNat]!.qty, parts := ((out_2 ++ [{ sku := (botS (leM (1 : Int)) (1 : Nat) es)[i_1.toNat]!.sku, qty := (0 : Int), parts := (0 : Int) : Line }]).set ((↑(out_2 ++ [{ sku := (botS (leM (1 : Int)) (1 : Nat) es)[i_1.toNat]!.sku, qty := (0 : Int), parts := (0 : Int) : Line }]).length : Int) - (1 : Int)).toNat { sku := (out_2 ++ [{ sku := (botS (leM (1 : Int)) (1 : Nat) es)[i_1.toNat]!.sku, qty := (0 : Int), parts := (0 : Int) : Line }])[((↑(out_2 ++ [{ sku := (botS (leM (1 : Int)) (1 : Nat) es)[i_1.toNat]!.sku, qty := (0 : Int), parts := (0 : Int) : Line }]).length : Int) - (1 : Int)).toNat]!.sku, qty := (out_2 ++ [{ sku := (botS (leM (1 : Int)) (1 : Nat) es)[i_1.toNat]!.sku, qty := (0 : Int), parts := (0 : Int) : Line }])[((↑(out_2 ++ [{ sku := (botS (leM (1 : Int)) (1 : Nat) es)[i_1.toNat]!.sku, qty := (0 : Int), parts := (0 : Int) : Line }]).length : Int) - (1 : Int)).toNat]!.qty + (botS (leM (1 : Int)) (1 : Nat) es)[i_1.toNat]!.qty, parts := (out_2 ++ [{ sku := (botS (leM (1 : Int)) (1 : Nat) es)[i_1.toNat]!.sku, qty := (0 : Int), parts := (0 : Int) : Line }])[((↑(out_2 ++ [{ sku := (botS (leM (1 : Int)) (1 : Nat) es)[i_1.toNat]!.sku, qty := (0 : Int), parts := (0 : Int) : Line }]).length : Int) - (1 : Int)).toNat]!.parts : Line })[((↑(out_2 ++ [{ sku := (botS (leM (1 : Int)) (1 : Nat) es)[i_1.toNat]!.sku, qty := (0 : Int), parts := (0 : Int) : Line }]).length : Int) - (1 : Int)).toNat]!.parts + (1 : Int) : Line })) })] [4, 5, 6] [1005] ⟨(by (simp only [List.length_append, List.length_cons, List.length_nil]; omega)), (by (simp only [List.length_set, List.length_map, List.length_append, List.length_replicate, List.length_cons, List.length_nil, Go.maxLen, Nat.mul_one, Nat.add_zero, Nat.zero_add, Nat.one_mul, len_cA]; omega)), (by kernel_rfl), ?g7, (told_i64 ?g8 ?g9), (by (simp only [List.length_append, List.length_cons, List.length_nil]; omega)), (by (simp only [List.length_set, List.length_map, List.length_append, List.length_replicate, List.length_cons, List.length_nil, Go.maxLen, Nat.mul_one, Nat.add_zero, Nat.zero_add, Nat.one_mul, len_cA]; omega)), (by kernel_rfl), ?g10, (by kernel_rfl), (by (first | omega | (simp only [List.length_map]; omega))), (by (with_reducible refine set_map ?_; kernel_rfl))⟩ ?_; rotate_left 4
  refine q_blk_normal ?_
  refine sn ?_
  refine rg (A := (AV.i IntKind.i64 (IntKind.i64.wrap (i_1 + (1 : Int))) = AV.i IntKind.i64 (i_1 + (1 : Int)))) cx [(1, { tell := some (.i .i64 (i_1 + (1 : Int))) })] [4, 5, 6] [1005] (told_i64 (by omega) (by omega)) ?_
  refine sn ?_
  refine loop_next ((i_1 + (1 : Int), ((out_2 ++ [{ sku := (botS (leM (1 : Int)) (1 : Nat) es)[i_1.toNat]!.sku, qty := (0 : Int), parts := (0 : Int) : Line }]).set ((↑(out_2 ++ [{ sku := (botS (leM (1 : Int)) (1 : Nat) es)[i_1.toNat]!.sku, qty := (0 : Int), parts := (0 : Int) : Line }]).length : Int) - (1 : Int)).toNat { sku := (out_2 ++ [{ sku := (botS (leM (1 : Int)) (1 : Nat) es)[i_1.toNat]!.sku, qty := (0 : Int), parts := (0 : Int) : Line }])[((↑(out_2 ++ [{ sku := (botS (leM (1 : Int)) (1 : Nat) es)[i_1.toNat]!.sku, qty := (0 : Int), parts := (0 : Int) : Line }]).length : Int) - (1 : Int)).toNat]!.sku, qty := (out_2 ++ [{ sku := (botS (leM (1 : Int)) (1 : Nat) es)[i_1.toNat]!.sku, qty := (0 : Int), parts := (0 : Int) : Line }])[((↑(out_2 ++ [{ sku := (botS (leM (1 : Int)) (1 : Nat) es)[i_1.toNat]!.sku, qty := (0 : Int), parts := (0 : Int) : Line }]).length : Int) - (1 : Int)).toNat]!.qty + (botS (leM (1 : Int)) (1 : Nat) es)[i_1.toNat]!.qty, parts := (out_2 ++ [{ sku := (botS (leM (1 : Int)) (1 : Nat) es)[i_1.toNat]!.sku, qty := (0 : Int), parts := (0 : Int) : Line }])[((↑(out_2 ++ [{ sku := (botS (leM (1 : Int)) (1 : Nat) es)[i_1.toNat]!.sku, qty := (0 : Int), parts := (0 : Int) : Line }]).length : Int) - (1 : Int)).toNat]!.parts : Line }).set ((↑(out_2 ++ [{ sku := (botS (leM (1 : Int)) (1 : Nat) es)[i_1.toNat]!.sku, qty := (0 : Int), parts := (0 : Int) : Line }]).length : Int) - (1 : Int)).toNat { sku := ((out_2 ++ [{ sku := (botS (leM (1 : Int)) (1 : Nat) es)[i_1.toNat]!.sku, qty := (0 : Int), parts := (0 : Int) : Line }]).set ((↑(out_2 ++ [{ sku := (botS (leM (1 : Int)) (1 : Nat) es)[i_1.toNat]!.sku, qty := (0 : Int), parts := (0 : Int) : Line }]).length : Int) - (1 : Int)).toNat { sku := (out_2 ++ [{ sku := (botS (leM (1 : Int)) (1 : Nat) es)[i_1.toNat]!.sku, qty := (0 : Int), parts := (0 : Int) : Line }])[((↑(out_2 ++ [{ sku := (botS (leM (1 : Int)) (1 : Nat) es)[i_1.toNat]!.sku, qty := (0 : Int), parts := (0 : Int) : Line }]).length : Int) - (1 : Int)).toNat]!.sku, qty := (out_2 ++ [{ sku := (botS (leM (1 : Int)) (1 : Nat) es)[i_1.toNat]!.sku, qty := (0 : Int), parts := (0 : Int) : Line }])[((↑(out_2 ++ [{ sku := (botS (leM (1 : Int)) (1 : Nat) es)[i_1.toNat]!.sku, qty := (0 : Int), parts := (0 : Int) : Line }]).length : Int) - (1 : Int)).toNat]!.qty + (botS (leM (1 : Int)) (1 : Nat) es)[i_1.toNat]!.qty, parts := (out_2 ++ [{ sku := (botS (leM (1 : Int)) (1 : Nat) es)[i_1.toNat]!.sku, qty := (0 : Int), parts := (0 : Int) : Line }])[((↑(out_2 ++ [{ sku := (botS (leM (1 : Int)) (1 : Nat) es)[i_1.toNat]!.sku, qty := (0 : Int), parts := (0 : Int) : Line }]).length : Int) - (1 : Int)).toNat]!.parts : Line })[((↑(out_2 ++ [{ sku := (botS (leM (1 : Int)) (1 : Nat) es)[i_1.toNat]!.sku, qty := (0 : Int), parts := (0 : Int) : Line }]).length : Int) - (1 : Int)).toNat]!.sku, qty := ((out_2 ++ [{ sku := (botS (leM (1 : Int)) (1 : Nat) es)[i_1.toNat]!.sku, qty := (0 : Int), parts := (0 : Int) : Line }]).set ((↑(out_2 ++ [{ sku := (botS (leM (1 : Int)) (1 : Nat) es)[i_1.toNat]!.sku, qty := (0 : Int), parts := (0 : Int) : Line }]).length : Int) - (1 : Int)).toNat { sku := (out_2 ++ [{ sku := (botS (leM (1 : Int)) (1 : Nat) es)[i_1.toNat]!.sku, qty := (0 : Int), parts := (0 : Int) : Line }])[((↑(out_2 ++ [{ sku := (botS (leM (1 : Int)) (1 : Nat) es)[i_1.toNat]!.sku, qty := (0 : Int), parts := (0 : Int) : Line }]).length : Int) - (1 : Int)).toNat]!.sku, qty := (out_2 ++ [{ sku := (botS (leM (1 : Int)) (1 : Nat) es)[i_1.toNat]!.sku, qty := (0 : Int), parts := (0 : Int) : Line }])[((↑(out_2 ++ [{ sku := (botS (leM (1 : Int)) (1 : Nat) es)[i_1.toNat]!.sku, qty := (0 : Int), parts := (0 : Int) : Line }]).length : Int) - (1 : Int)).toNat]!.qty + (botS (leM (1 : Int)) (1 : Nat) es)[i_1.toNat]!.qty, parts := (out_2 ++ [{ sku := (botS (leM (1 : Int)) (1 : Nat) es)[i_1.toNat]!.sku, qty := (0 : Int), parts := (0 : Int) : Line }])[((↑(out_2 ++ [{ sku := (botS (leM (1 : Int)) (1 : Nat) es)[i_1.toNat]!.sku, qty := (0 : Int), parts := (0 : Int) : Line }]).length : Int) - (1 : Int)).toNat]!.parts : Line })[((↑(out_2 ++ [{ sku := (botS (leM (1 : Int)) (1 : Nat) es)[i_1.toNat]!.sku, qty := (0 : Int), parts := (0 : Int) : Line }]).length : Int) - (1 : Int)).toNat]!.qty, parts := ((out_2 ++ [{ sku := (botS (leM (1 : Int)) (1 : Nat) es)[i_1.toNat]!.sku, qty := (0 : Int), parts := (0 : Int) : Line }]).set ((↑(out_2 ++ [{ sku := (botS (leM (1 : Int)) (1 : Nat) es)[i_1.toNat]!.sku, qty := (0 : Int), parts := (0 : Int) : Line }]).length : Int) - (1 : Int)).toNat { sku := (out_2 ++ [{ sku := (botS (leM (1 : Int)) (1 : Nat) es)[i_1.toNat]!.sku, qty := (0 : Int), parts := (0 : Int) : Line }])[((↑(out_2 ++ [{ sku := (botS (leM (1 : Int)) (1 : Nat) es)[i_1.toNat]!.sku, qty := (0 : Int), parts := (0 : Int) : Line }]).length : Int) - (1 : Int)).toNat]!.sku, qty := (out_2 ++ [{ sku := (botS (leM (1 : Int)) (1 : Nat) es)[i_1.toNat]!.sku, qty := (0 : Int), parts := (0 : Int) : Line }])[((↑(out_2 ++ [{ sku := (botS (leM (1 : Int)) (1 : Nat) es)[i_1.toNat]!.sku, qty := (0 : Int), parts := (0 : Int) : Line }]).length : Int) - (1 : Int)).toNat]!.qty + (botS (leM (1 : Int)) (1 : Nat) es)[i_1.toNat]!.qty, parts := (out_2 ++ [{ sku := (botS (leM (1 : Int)) (1 : Nat) es)[i_1.toNat]!.sku, qty := (0 : Int), parts := (0 : Int) : Line }])[((↑(out_2 ++ [{ sku := (botS (leM (1 : Int)) (1 : Nat) es)[i_1.toNat]!.sku, qty := (0 : Int), parts := (0 : Int) : Line }]).length : Int) - (1 : Int)).toNat]!.parts : Line })[((↑(out_2 ++ [{ sku := (botS (leM (1 : Int)) (1 : Nat) es)[i_1.toNat]!.sku, qty := (0 : Int), parts := (0 : Int) : Line }]).length : Int) - (1 : Int)).toNat]!.parts + (1 : Int) : Line })) (by kernel_rfl) (show ((↑es.length : Int) - (i_1 + (1 : Int))).toNat < ((↑es.length : Int) - i_1).toNat from ?g11) (show invK es (i_1 + (1 : Int)) (((out_2 ++ [{ sku := (botS (leM (1 : Int)) (1 : Nat) es)[i_1.toNat]!.sku, qty := (0 : Int), parts := (0 : Int) : Line }]).set ((↑(out_2 ++ [{ sku := (botS (leM (1 : Int)) (1 : Nat) es)[i_1.toNat]!.sku, qty := (0 : Int), parts := (0 : Int) : Line }]).length : Int) - (1 : Int)).toNat { sku := (out_2 ++ [{ sku := (botS (leM (1 : Int)) (1 : Nat) es)[i_1.toNat]!.sku, qty := (0 : Int), parts := (0 : Int) : Line }])[((↑(out_2 ++ [{ sku := (botS (leM (1 : Int)) (1 : Nat) es)[i_1.toNat]!.sku, qty := (0 : Int), parts := (0 : Int) : Line }]).length : Int) - (1 : Int)).toNat]!.sku, qty := (out_2 ++ [{ sku := (botS (leM (1 : Int)) (1 : Nat) es)[i_1.toNat]!.sku, qty := (0 : Int), parts := (0 : Int) : Line }])[((↑(out_2 ++ [{ sku := (botS (leM (1 : Int)) (1 : Nat) es)[i_1.toNat]!.sku, qty := (0 : Int), parts := (0 : Int) : Line }]).length : Int) - (1 : Int)).toNat]!.qty + (botS (leM (1 : Int)) (1 : Nat) es)[i_1.toNat]!.qty, parts := (out_2 ++ [{ sku := (botS (leM (1 : Int)) (1 : Nat) es)[i_1.toNat]!.sku, qty := (0 : Int), parts := (0 : Int) : Line }])[((↑(out_2 ++ [{ sku := (botS (leM (1 : Int)) (1 : Nat) es)[i_1.toNat]!.sku, qty := (0 : Int), parts := (0 : Int) : Line }]).length : Int) - (1 : Int)).toNat]!.parts : Line }).set ((↑(out_2 ++ [{ sku := (botS (leM (1 : Int)) (1 : Nat) es)[i_1.toNat]!.sku, qty := (0 : Int), parts := (0 : Int) : Line }]).length : Int) - (1 : Int)).toNat { sku := ((out_2 ++ [{ sku := (botS (leM (1 : Int)) (1 : Nat) es)[i_1.toNat]!.sku, qty := (0 : Int), parts := (0 : Int) : Line }]).set ((↑(out_2 ++ [{ sku := (botS (leM (1 : Int)) (1 : Nat) es)[i_1.toNat]!.sku, qty := (0 : Int), parts := (0 : Int) : Line }]).length : Int) - (1 : Int)).toNat { sku := (out_2 ++ [{ sku := (botS (leM (1 : Int)) (1 : Nat) es)[i_1.toNat]!.sku, qty := (0 : Int), parts := (0 : Int) : Line }])[((↑(out_2 ++ [{ sku := (botS (leM (1 : Int)) (1 : Nat) es)[i_1.toNat]!.sku, qty := (0 : Int), parts := (0 : Int) : Line }]).length : Int) - (1 : Int)).toNat]!.sku, qty := (out_2 ++ [{ sku := (botS (leM (1 : Int)) (1 : Nat) es)[i_1.toNat]!.sku, qty := (0 : Int), parts := (0 : Int) : Line }])[((↑(out_2 ++ [{ sku := (botS (leM (1 : Int)) (1 : Nat) es)[i_1.toNat]!.sku, qty := (0 : Int), parts := (0 : Int) : Line }]).length : Int) - (1 : Int)).toNat]!.qty + (botS (leM (1 : Int)) (1 : Nat) es)[i_1.toNat]!.qty, parts := (out_2 ++ [{ sku := (botS (leM (1 : Int)) (1 : Nat) es)[i_1.toNat]!.sku, qty := (0 : Int), parts := (0 : Int) : Line }])[((↑(out_2 ++ [{ sku := (botS (leM (1 : Int)) (1 : Nat) es)[i_1.toNat]!.sku, qty := (0 : Int), parts := (0 : Int) : Line }]).length : Int) - (1 : Int)).toNat]!.parts : Line })[((↑(out_2 ++ [{ sku := (botS (leM (1 : Int)) (1 : Nat) es)[i_1.toNat]!.sku, qty := (0 : Int), parts := (0 : Int) : Line }]).length : Int) - (1 : Int)).toNat]!.sku, qty := ((out_2 ++ [{ sku := (botS (leM (1 : Int)) (1 : Nat) es)[i_1.toNat]!.sku, qty := (0 : Int), parts := (0 : Int) : Line }]).set ((↑(out_2 ++ [{ sku := (botS (leM (1 : Int)) (1 : Nat) es)[i_1.toNat]!.sku, qty := (0 : Int), parts := (0 : Int) : Line }]).length : Int) - (1 : Int)).toNat { sku := (out_2 ++ [{ sku := (botS (leM (1 : Int)) (1 : Nat) es)[i_1.toNat]!.sku, qty := (0 : Int), parts := (0 : Int) : Line }])[((↑(out_2 ++ [{ sku := (botS (leM (1 : Int)) (1 : Nat) es)[i_1.toNat]!.sku, qty := (0 : Int), parts := (0 : Int) : Line }]).length : Int) - (1 : Int)).toNat]!.sku, qty := (out_2 ++ [{ sku := (botS (leM (1 : Int)) (1 : Nat) es)[i_1.toNat]!.sku, qty := (0 : Int), parts := (0 : Int) : Line }])[((↑(out_2 ++ [{ sku := (botS (leM (1 : Int)) (1 : Nat) es)[i_1.toNat]!.sku, qty := (0 : Int), parts := (0 : Int) : Line }]).length : Int) - (1 : Int)).toNat]!.qty + (botS (leM (1 : Int)) (1 : Nat) es)[i_1.toNat]!.qty, parts := (out_2 ++ [{ sku := (botS (leM (1 : Int)) (1 : Nat) es)[i_1.toNat]!.sku, qty := (0 : Int), parts := (0 : Int) : Line }])[((↑(out_2 ++ [{ sku := (botS (leM (1 : Int)) (1 : Nat) es)[i_1.toNat]!.sku, qty := (0 : Int), parts := (0 : Int) : Line }]).length : Int) - (1 : Int)).toNat]!.parts : Line })[((↑(out_2 ++ [{ sku := (botS (leM (1 : Int)) (1 : Nat) es)[i_1.toNat]!.sku, qty := (0 : Int), parts := (0 : Int) : Line }]).length : Int) - (1 : Int)).toNat]!.qty, parts := ((out_2 ++ [{ sku := (botS (leM (1 : Int)) (1 : Nat) es)[i_1.toNat]!.sku, qty := (0 : Int), parts := (0 : Int) : Line }]).set ((↑(out_2 ++ [{ sku := (botS (leM (1 : Int)) (1 : Nat) es)[i_1.toNat]!.sku, qty := (0 : Int), parts := (0 : Int) : Line }]).length : Int) - (1 : Int)).toNat { sku := (out_2 ++ [{ sku := (botS (leM (1 : Int)) (1 : Nat) es)[i_1.toNat]!.sku, qty := (0 : Int), parts := (0 : Int) : Line }])[((↑(out_2 ++ [{ sku := (botS (leM (1 : Int)) (1 : Nat) es)[i_1.toNat]!.sku, qty := (0 : Int), parts := (0 : Int) : Line }]).length : Int) - (1 : Int)).toNat]!.sku, qty := (out_2 ++ [{ sku := (botS (leM (1 : Int)) (1 : Nat) es)[i_1.toNat]!.sku, qty := (0 : Int), parts := (0 : Int) : Line }])[((↑(out_2 ++ [{ sku := (botS (leM (1 : Int)) (1 : Nat) es)[i_1.toNat]!.sku, qty := (0 : Int), parts := (0 : Int) : Line }]).length : Int) - (1 : Int)).toNat]!.qty + (botS (leM (1 : Int)) (1 : Nat) es)[i_1.toNat]!.qty, parts := (out_2 ++ [{ sku := (botS (leM (1 : Int)) (1 : Nat) es)[i_1.toNat]!.sku, qty := (0 : Int), parts := (0 : Int) : Line }])[((↑(out_2 ++ [{ sku := (botS (leM (1 : Int)) (1 : Nat) es)[i_1.toNat]!.sku, qty := (0 : Int), parts := (0 : Int) : Line }]).length : Int) - (1 : Int)).toNat]!.parts : Line })[((↑(out_2 ++ [{ sku := (botS (leM (1 : Int)) (1 : Nat) es)[i_1.toNat]!.sku, qty := (0 : Int), parts := (0 : Int) : Line }]).length : Int) - (1 : Int)).toNat]!.parts + (1 : Int) : Line }) from ?g12); rotate_left 2
  refine st_skip (by kernel_rfl) ?_
  refine sn ?_
  refine sq ?_
  refine rg (A := _ ∧ (AV.i IntKind.i64 (IntKind.i64.wrap ((↑out_2.length : Int) - (1 : Int))) = AV.i IntKind.i64 ((↑out_2.length : Int) - (1 : Int)))) cx [(1, { tell := some (.i .i64 ((↑out_2.length : Int))) }), (2, { tell := some (.i .i64 ((↑out_2.length : Int) - (1 : Int))) })] [4, 5, 6, 7] [1005] ⟨(told_len c55 out_2), (told_i64 (by omega) (by omega))⟩ ?_
  refine sn ?_
  refine sq ?_
  refine ra (A := ((0 : Int) ≤ (↑out_2.length : Int) - (1 : Int)) ∧ (((↑out_2.length : Int) - (1 : Int)).toNat < (List.map c55 out_2).length) ∧ ((3 : Nat) = 3) ∧ (E.rowAt { ver := 0, ty := 55, k := BK.row (3) (List.map c55 out_2) : Blk } ((↑out_2.length : Int) - (1 : Int)).toNat (c55 out_2[((↑out_2.length : Int) - (1 : Int)).toNat]!)) ∧ ((0 : Int) ≤ i_1) ∧ ((List.map c28 (botS (leM (1 : Int)) (1 : Nat) es))[i_1.toNat]? = some (c28 (botS (leM (1 : Int)) (1 : Nat) es)[i_1.toNat]!)) ∧ ((c28 (botS (leM (1 : Int)) (1 : Nat) es)[i_1.toNat]!).length = (4 : Nat)) ∧ (AV.i IntKind.i64 (IntKind.i64.wrap (out_2[((↑out_2.length : Int) - (1 : Int)).toNat]!.qty + (botS (leM (1 : Int)) (1 : Nat) es)[i_1.toNat]!.qty)) = AV.i IntKind.i64 (out_2[((↑out_2.length : Int) - (1 : Int)).toNat]!.qty + (botS (leM (1 : Int)) (1 : Nat) es)[i_1.toNat]!.qty)) ∧ ((0 : Int) ≤ (↑out_2.length : Int) - (1 : Int)) ∧ (((↑out_2.length : Int) - (1 : Int)).toNat < (List.map c55 out_2).length) ∧ ((3 : Nat) = 3) ∧ ((List.map c55 out_2)[((↑out_2.length : Int) - (1 : Int)).toNat]? = some (c55 out_2[((↑out_2.length : Int) - (1 : Int)).toNat]!)) ∧ ((cellsA (AV.i IntKind.i64 (out_2[((↑out_2.length : Int) - (1 : Int)).toNat]!.qty + (botS (leM (1 : Int)) (1 : Nat) es)[i_1.toNat]!.qty))).length = (1 : Nat)) ∧ (1 + (1 : Nat) ≤ 3) ∧ ((List.map c55 out_2).set ((↑out_2.length : Int) - (1 : Int)).toNat (List.take (1) (c55 out_2[((↑out_2.length : Int) - (1 : Int)).toNat]!) ++ cellsA (AV.i IntKind.i64 (out_2[((↑out_2.length : Int) - (1 : Int)).toNat]!.qty + (botS (leM (1 : Int)) (1 : Nat) es)[i_1.toNat]!.qty)) ++ List.drop (1 + (1 : Nat)) (c55 out_2[((↑out_2.length : Int) - (1 : Int)).toNat]!)) = List.map c55 (out_2.set ((↑out_2.length : Int) - (1 : Int)).toNat { sku := out_2[((↑out_2.length : Int) - (1 : Int)).toNat]!.sku, qty := out_2[((↑out_2.length : Int) - (1 : Int)).toNat]!.qty + (botS (leM (1 : Int)) (1 : Nat) es)[i_1.toNat]!.qty, parts := out_2[((↑out_2.length : Int) - (1 : Int)).toNat]!.parts : Line }))) cx [(6, { row := (c55 out_2[((↑out_2.length : Int) - (1 : Int)).toNat]!) }), (9, { row := (c28 (botS (leM (1 : Int)) (1 : Nat) es)[i_1.toNat]!) }), (12, { tell := some (.i .i64 (out_2[((↑out_2.length : Int) - (1 : Int)).toNat]!.qty + (botS (leM (1 : Int)) (1 : Nat) es)[i_1.toNat]!.qty)) }), (15, { row := (c55 out_2[((↑out_2.length : Int) - (1 : Int)).toNat]!), rows := some (List.map c55 (out_2.set ((↑out_2.length : Int) - (1 : Int)).toNat { sku := out_2[((↑out_2.length : Int) - (1 : Int)).toNat]!.sku, qty := out_2[((↑out_2.length : Int) - (1 : Int)).toNat]!.qty + (botS (leM (1 : Int)) (1 : Nat) es)[i_1.toNat]!.qty, parts := out_2[((↑out_2.length : Int) - (1 : Int)).toNat]!.parts : Line })) })] [4, 5, 6, 7] [1005] ⟨?g13, ?g14, (by kernel_rfl), ?g15, (by (with_reducible assumption)), (by (with_reducible refine get_map ?_; omega)), (by kernel_rfl), (told_i64 ?g16 ?g17), ?g18, ?g19, (by kernel_rfl), ?g20, (by kernel_rfl), (by (first | omega | (simp only [List.length_map]; omega))), (by (with_reducible refine set_map ?_; kernel_rfl))⟩ ?_; rotate_left 8
  refine sn ?_
  refine rg (A := ((0 : Int) ≤ (↑out_2.length : Int) - (1 : Int)) ∧ (((↑out_2.length : Int) - (1 : Int)).toNat < (List.map c55 (out_2.set ((↑out_2.length : Int) - (1 : Int)).toNat { sku := out_2[((↑out_2.length : Int) - (1 : Int)).toNat]!.sku, qty := out_2[((↑out_2.length : Int) - (1 : Int)).toNat]!.qty + (botS (leM (1 : Int)) (1 : Nat) es)[i_1.toNat]!.qty, parts := out_2[((↑out_2.length : Int) - (1 : Int)).toNat]!.parts : Line })).length) ∧ ((3 : Nat) = 3) ∧ (E.rowAt { ver := 0, ty := 55, k := BK.row (3) (List.map c55 (out_2.set ((↑out_2.length : Int) - (1 : Int)).toNat { sku := out_2[((↑out_2.length : Int) - (1 : Int)).toNat]!.sku, qty := out_2[((↑out_2.length : Int) - (1 : Int)).toNat]!.qty + (botS (leM (1 : Int)) (1 : Nat) es)[i_1.toNat]!.qty, parts := out_2[((↑out_2.length : Int) - (1 : Int)).toNat]!.parts : Line })) : Blk } ((↑out_2.length : Int) - (1 : Int)).toNat (c55 (out_2.set ((↑out_2.length : Int) - (1 : Int)).toNat { sku := out_2[((↑out_2.length : Int) - (1 : Int)).toNat]!.sku, qty := out_2[((↑out_2.length : Int) - (1 : Int)).toNat]!.qty + (botS (leM (1 : Int)) (1 : Nat) es)[i_1.toNat]!.qty, parts := out_2[((↑out_2.length : Int) - (1 : Int)).toNat]!.parts : Line })[((↑out_2.length : Int) - (1 : Int)).toNat]!)) ∧ (AV.i IntKind.i64 (IntKind.i64.wrap ((out_2.set ((↑out_2.length : Int) - (1 : Int)).toNat { sku := out_2[((↑out_2.length : Int) - (1 : Int)).toNat]!.sku, qty := out_2[((↑out_2.length : Int) - (1 : Int)).toNat]!.qty + (botS (leM (1 : Int)) (1 : Nat) es)[i_1.toNat]!.qty, parts := out_2[((↑out_2.length : Int) - (1 : Int)).toNat]!.parts : Line })[((↑out_2.length : Int) - (1 : Int)).toNat]!.parts + (1 : Int))) = AV.i IntKind.i64 ((out_2.set ((↑out_2.length : Int) - (1 : Int)).toNat { sku := out_2[((↑out_2.length : Int) - (1 : Int)).toNat]!.sku, qty := out_2[((↑out_2.length : Int) - (1 : Int)).toNat]!.qty + (botS (leM (1 : Int)) (1 : Nat) es)[i_1.toNat]!.qty, parts := out_2[((↑out_2.length : Int) - (1 : Int)).toNat]!.parts : Line })[((↑out_2.length : Int) - (1 : Int)).toNat]!.parts + (1 : Int))) ∧ ((0 : Int) ≤ (↑out_2.length : Int) - (1 : Int)) ∧ (((↑out_2.length : Int) - (1 : Int)).toNat < (List.map c55 (out_2.set ((↑out_2.length : Int) - (1 : Int)).toNat { sku := out_2[((↑out_2.length : Int) - (1 : Int)).toNat]!.sku, qty := out_2[((↑out_2.length : Int) - (1 : Int)).toNat]!.qty + (botS (leM (1 : Int)) (1 : Nat) es)[i_1.toNat]!.qty, parts := out_2[((↑out_2.length : Int) - (1 : Int)).toNat]!.parts : Line })).length) ∧ ((3 : Nat) = 3) ∧ ((List.map c55 (out_2.set ((↑out_2.length : Int) - (1 : Int)).toNat { sku := out_2[((↑out_2.length : Int) - (1 : Int)).toNat]!.sku, qty := out_2[((↑out_2.length : Int) - (1 : Int)).toNat]!.qty + (botS (leM (1 : Int)) (1 : Nat) es)[i_1.toNat]!.qty, parts := out_2[((↑out_2.length : Int) - (1 : Int)).toNat]!.parts : Line }))[((↑out_2.length : Int) - (1 : Int)).toNat]? = some (c55 (out_2.set ((↑out_2.length : Int) - (1 : Int)).toNat { sku := out_2[((↑out_2.length : Int) - (1 : Int)).toNat]!.sku, qty := out_2[((↑out_2.length : Int) - (1 : Int)).toNat]!.qty + (botS (leM (1 : Int)) (1 : Nat) es)[i_1.toNat]!.qty, parts := out_2[((↑out_2.length : Int) - (1 : Int)).toNat]!.parts : Line })[((↑out_2.length : Int) - (1 : Int)).toNat]!)) ∧ ((cellsA (AV.i IntKind.i64 ((out_2.set ((↑out_2.length : Int) - (1 : Int)).toNat { sku := out_2[((↑out_2.length : Int) - (1 : Int)).toNat]!.sku, qty := out_2[((↑out_2.length : Int) - (1 : Int)).toNat]!.qty + (botS (leM (1 : Int)) (1 : Nat) es)[i_1.toNat]!.qty, parts := out_2[((↑out_2.length : Int) - (1 : Int)).toNat]!.parts : Line })[((↑out_2.length : Int) - (1 : Int)).toNat]!.parts + (1 : Int)))).length = (1 : Nat)) ∧ (2 + (1 : Nat) ≤ 3) ∧ ((List.map c55 (out_2.set ((↑out_2.length : Int) - (1 : Int)).toNat { sku := out_2[((↑out_2.length : Int) - (1 : Int)).toNat]!.sku, qty := out_2[((↑out_2.length : Int) - (1 : Int)).toNat]!.qty + (botS (leM (1 : Int)) (1 : Nat) es)[i_1.toNat]!.qty, parts := out_2[((↑out_2.length : Int) - (1 : Int)).toNat]!.parts : Line })).set ((↑out_2.length : Int) - (1 : Int)).toNat (List.take (2) (c55 (out_2.set ((↑out_2.length : Int) - (1 : Int)).toNat { sku := out_2[((↑out_2.length : Int) - (1 : Int)).toNat]!.sku, qty := out_2[((↑out_2.length : Int) - (1 : Int)).toNat]!.qty + (botS (leM (1 : Int)) (1 : Nat) es)[i_1.toNat]!.qty, parts := out_2[((↑out_2.length : Int) - (1 : Int)).toNat]!.parts : Line })[((↑out_2.length : Int) - (1 : Int)).toNat]!) ++ cellsA (AV.i IntKind.i64 ((out_2.set ((↑out_2.length : Int) - (1 : Int)).toNat { sku := out_2[((↑out_2.length : Int) - (1 : Int)).toNat]!.sku, qty := out_2[((↑out_2.length : Int) - (1 : Int)).toNat]!.qty + (botS (leM (1 : Int)) (1 : Nat) es)[i_1.toNat]!.qty, parts := out_2[((↑out_2.length : Int) - (1 : Int)).toNat]!.parts : Line })[((↑out_2.length : Int) - (1 : Int)).toNat]!.parts + (1 : Int))) ++ List.drop (2 + (1 : Nat)) (c55 (out_2.set ((↑out_2.length : Int) - (1 : Int)).toNat { sku := out_2[((↑out_2.length : Int) - (1 : Int)).toNat]!.sku, qty := out_2[((↑out_2.length : Int) - (1 : Int)).toNat]!.qty + (botS (leM (1 : Int)) (1 : Nat) es)[i_1.toNat]!.qty, parts := out_2[((↑out_2.length : Int) - (1 : Int)).toNat]!.parts : Line })[((↑out_2.length : Int) - (1 : Int)).toNat]!)) = List.map c55 ((out_2.set ((↑out_2.length : Int) - (1 : Int)).toNat { sku := out_2[((↑out_2.length : Int) - (1 : Int)).toNat]!.sku, qty := out_2[((↑out_2.length : Int) - (1 : Int)).toNat]!.qty + (botS (leM (1 : Int)) (1 : Nat) es)[i_1.toNat]!.qty, parts := out_2[((↑out_2.length : Int) - (1 : Int)).toNat]!.parts : Line }).set ((↑out_2.length : Int) - (1 : Int)).toNat { sku := (out_2.set ((↑out_2.length : Int) - (1 : Int)).toNat { sku := out_2[((↑out_2.length : Int) - (1 : Int)).toNat]!.sku, qty := out_2[((↑out_2.length : Int) - (1 : Int)).toNat]!.qty + (botS (leM (1 : Int)) (1 : Nat) es)[i_1.toNat]!.qty, parts := out_2[((↑out_2.length : Int) - (1 : Int)).toNat]!.parts : Line })[((↑out_2.length : Int) - (1 : Int)).toNat]!.sku, qty := (out_2.set ((↑out_2.length : Int) - (1 : Int)).toNat { sku := out_2[((↑out_2.length : Int) - (1 : Int)).toNat]!.sku, qty := out_2[((↑out_2.length : Int) - (1 : Int)).toNat]!.qty + (botS (leM (1 : Int)) (1 : Nat) es)[i_1.toNat]!.qty, parts := out_2[((↑out_2.length : Int) - (1 : Int)).toNat]!.parts : Line })[((↑out_2.length : Int) - (1 : Int)).toNat]!.qty, parts := (out_2.set ((↑out_2.length : Int) - (1 : Int)).toNat { sku := out_2[((↑out_2.length : Int) - (1 : Int)).toNat]!.sku, qty := out_2[((↑out_2.length : Int) - (1 : Int)).toNat]!.qty + (botS (leM (1 : Int)) (1 : Nat) es)[i_1.toNat]!.qty, parts := out_2[((↑out_2.length : Int) - (1 : Int)).toNat]!.parts : Line })[((↑out_2.length : Int) - (1 : Int)).toNat]!.parts + (1 : Int) : Line }))) cx [(6, { row := (c55 (out_2.set ((↑out_2.length : Int) - (1 : Int)).toNat { sku := out_2[((↑out_2.length : Int) - (1 : Int)).toNat]!.sku, qty := out_2[((↑out_2.length : Int) - (1 : Int)).toNat]!.qty + (botS (leM (1 : Int)) (1 : Nat) es)[i_1.toNat]!.qty, parts := out_2[((↑out_2.length : Int) - (1 : Int)).toNat]!.parts : Line })[((↑out_2.length : Int) - (1 : Int)).toNat]!) }), (7, { tell := some (.i .i64 ((out_2.set ((↑out_2.length : Int) - (1 : Int)).toNat { sku := out_2[((↑out_2.length : Int) - (1 : Int)).toNat]!.sku, qty := out_2[((↑out_2.length : Int) - (1 : Int)).toNat]!.qty + (botS (leM (1 : Int)) (1 : Nat) es)[i_1.toNat]!.qty, parts := out_2[((↑out_2.length : Int) - (1 : Int)).toNat]!.parts : Line })[((↑out_2.length : Int) - (1 : Int)).toNat]!.parts + (1 : Int))) }), (10, { row := (c55 (out_2.set ((↑out_2.length : Int) - (1 : Int)).toNat { sku := out_2[((↑out_2.length : Int) - (1 : Int)).toNat]!.sku, qty := out_2[((↑out_2.length : Int) - (1 : Int)).toNat]!.qty + (botS (leM (1 : Int)) (1 : Nat) es)[i_1.toNat]!.qty, parts := out_2[((↑out_2.length : Int) - (1 : Int)).toNat]!.parts : Line })[((↑out_2.length : Int) - (1 : Int)).toNat]!), rows := some (List.map c55 ((out_2.set ((↑out_2.length : Int) - (1 : Int)).toNat { sku := out_2[((↑out_2.length : Int) - (1 : Int)).toNat]!.sku, qty := out_2[((↑out_2.length : Int) - (1 : Int)).toNat]!.qty + (botS (leM (1 : Int)) (1 : Nat) es)[i_1.toNat]!.qty, parts := out_2[((↑out_2.length : Int) - (1 : Int)).toNat]!.parts : Line }).set ((↑out_2.length : Int) - (1 : Int)).toNat { sku := (out_2.set ((↑out_2.length : Int) - (1 : Int)).toNat { sku := out_2[((↑out_2.length : Int) - (1 : Int)).toNat]!.sku, qty := out_2[((↑out_2.length : Int) - (1 : Int)).toNat]!.qty + (botS (leM (1 : Int)) (1 : Nat) es)[i_1.toNat]!.qty, parts := out_2[((↑out_2.length : Int) - (1 : Int)).toNat]!.parts : Line })[((↑out_2.length : Int) - (1 : Int)).toNat]!.sku, qty := (out_2.set ((↑out_2.length : Int) - (1 : Int)).toNat { sku := out_2[((↑out_2.length : Int) - (1 : Int)).toNat]!.sku, qty := out_2[((↑out_2.length : Int) - (1 : Int)).toNat]!.qty + (botS (leM (1 : Int)) (1 : Nat) es)[i_1.toNat]!.qty, parts := out_2[((↑out_2.length : Int) - (1 : Int)).toNat]!.parts : Line })[((↑out_2.length : Int) - (1 : Int)).toNat]!.qty, parts := (out_2.set ((↑out_2.length : Int) - (1 : Int)).toNat { sku := out_2[((↑out_2.length : Int) - (1 : Int)).toNat]!.sku, qty := out_2[((↑out_2.length : Int) - (1 : Int)).toNat]!.qty + (botS (leM (1 : Int)) (1 : Nat) es)[i_1.toNat]!.qty, parts := out_2[((↑out_2.length : Int) - (1 : Int)).toNat]!.parts : Line })[((↑out_2.length : Int) - (1 : Int)).toNat]!.parts + (1 : Int) : Line })) })] [4, 5, 6] [1005] ⟨?g21, ?g22, (by kernel_rfl), ?g23, (told_i64 ?g24 ?g25), ?g26, ?g27, (by kernel_rfl), ?g28, (by kernel_rfl), (by (first | omega | (simp only [List.length_map]; omega))), (by (with_reducible refine set_map ?_; kernel_rfl))⟩ ?_; rotate_left 8
  refine q_blk_normal ?_
  refine sn ?_
  refine rg (A := (AV.i IntKind.i64 (IntKind.i64.wrap (i_1 + (1 : Int))) = AV.i IntKind.i64 (i_1 + (1 : Int)))) cx [(1, { tell := some (.i .i64 (i_1 + (1 : Int))) })] [4, 5, 6] [1005] (told_i64 (by omega) (by omega)) ?_
  refine sn ?_
  refine loop_next ((i_1 + (1 : Int), (out_2.set ((↑out_2.length : Int) - (1 : Int)).toNat { sku := out_2[((↑out_2.length : Int) - (1 : Int)).toNat]!.sku, qty := out_2[((↑out_2.length : Int) - (1 : Int)).toNat]!.qty + (botS (leM (1 : Int)) (1 : Nat) es)[i_1.toNat]!.qty, parts := out_2[((↑out_2.length : Int) - (1 : Int)).toNat]!.parts : Line }).set ((↑out_2.length : Int) - (1 : Int)).toNat { sku := (out_2.set ((↑out_2.length : Int) - (1 : Int)).toNat { sku := out_2[((↑out_2.length : Int) - (1 : Int)).toNat]!.sku, qty := out_2[((↑out_2.length : Int) - (1 : Int)).toNat]!.qty + (botS (leM (1 : Int)) (1 : Nat) es)[i_1.toNat]!.qty, parts := out_2[((↑out_2.length : Int) - (1 : Int)).toNat]!.parts : Line })[((↑out_2.length : Int) - (1 : Int)).toNat]!.sku, qty := (out_2.set ((↑out_2.length : Int) - (1 : Int)).toNat { sku := out_2[((↑out_2.length : Int) - (1 : Int)).toNat]!.sku, qty := out_2[((↑out_2.length : Int) - (1 : Int)).toNat]!.qty + (botS (leM (1 : Int)) (1 : Nat) es)[i_1.toNat]!.qty, parts := out_2[((↑out_2.length : Int) - (1 : Int)).toNat]!.parts : Line })[((↑out_2.length : Int) - (1 : Int)).toNat]!.qty, parts := (out_2.set ((↑out_2.length : Int) - (1 : Int)).toNat { sku := out_2[((↑out_2.length : Int) - (1 : Int)).toNat]!.sku, qty := out_2[((↑out_2.length : Int) - (1 : Int)).toNat]!.qty + (botS (leM (1 : Int)) (1 : Nat) es)[i_1.toNat]!.qty, parts := out_2[((↑out_2.length : Int) - (1 : Int)).toNat]!.parts : Line })[((↑out_2.length : Int) - (1 : Int)).toNat]!.parts + (1 : Int) : Line })) (by kernel_rfl) (show ((↑es.length : Int) - (i_1 + (1 : Int))).toNat < ((↑es.length : Int) - i_1).toNat from ?g29) (show invK es (i_1 + (1 : Int)) ((out_2.set ((↑out_2.length : Int) - (1 : Int)).toNat { sku := out_2[((↑out_2.length : Int) - (1 : Int)).toNat]!.sku, qty := out_2[((↑out_2.length : Int) - (1 : Int)).toNat]!.qty + (botS (leM (1 : Int)) (1 : Nat) es)[i_1.toNat]!.qty, parts := out_2[((↑out_2.length : Int) - (1 : Int)).toNat]!.parts : Line }).set ((↑out_2.length : Int) - (1 : Int)).toNat { sku := (out_2.set ((↑out_2.length : Int) - (1 : Int)).toNat { sku := out_2[((↑out_2.length : Int) - (1 : Int)).toNat]!.sku, qty := out_2[((↑out_2.length : Int) - (1 : Int)).toNat]!.qty + (botS (leM (1 : Int)) (1 : Nat) es)[i_1.toNat]!.qty, parts := out_2[((↑out_2.length : Int) - (1 : Int)).toNat]!.parts : Line })[((↑out_2.length : Int) - (1 : Int)).toNat]!.sku, qty := (out_2.set ((↑out_2.length : Int) - (1 : Int)).toNat { sku := out_2[((↑out_2.length : Int) - (1 : Int)).toNat]!.sku, qty := out_2[((↑out_2.length : Int) - (1 : Int)).toNat]!.qty + (botS (leM (1 : Int)) (1 : Nat) es)[i_1.toNat]!.qty, parts := out_2[((↑out_2.length : Int) - (1 : Int)).toNat]!.parts : Line })[((↑out_2.length : Int) - (1 : Int)).toNat]!.qty, parts := (out_2.set ((↑out_2.length : Int) - (1 : Int)).toNat { sku := out_2[((↑out_2.length : Int) - (1 : Int)).toNat]!.sku, qty := out_2[((↑out_2.length : Int) - (1 : Int)).toNat]!.qty + (botS (leM (1 : Int)) (1 : Nat) es)[i_1.toNat]!.qty, parts := out_2[((↑out_2.length : Int) - (1 : Int)).toNat]!.parts : Line })[((↑out_2.length : Int) - (1 : Int)).toNat]!.parts + (1 : Int) : Line }) from ?g30); rotate_left 2
  refine st_exit 0 (by kernel_rfl) ?_
  refine q_seq_exit ?_
  refine q_seq_exit ?_
  refine q_blk_hit ?_
  refine sn ?_
  refine sq ?_
  refine rg (A := True) cx [] [2, 3] [1005] trivial ?_
  refine sn ?_
  refine st_ret (by kernel_rfl) ?_
  refine q_ret (r := .tup [.sl (List.map c55 out_2), .i .i64 ((0 : Int))]) (obl := []) (by kernel_rfl) trivial (AVle.tup (ZLe.cons (AVle.eq (show AV.sl (List.map c55 out_2) = AV.sl (List.map c55 (linesV es).fst) from ?g32)) (ZLe.cons (AVle.eq (show AV.i IntKind.i64 (0 : Int) = AV.i IntKind.i64 (linesV es).snd from ?g31)) ZLe.nil))); rotate_left 2
  revert h_0; rotate_left
  revert h_0; rotate_left
  revert h_0; rotate_left
  revert h_0 i_1 out_2 h_4 h_5 h_6 h_7 h_8 h_11; rotate_left
  revert h_0 i_1 out_2 h_4 h_5 h_6 h_7 h_8 h_11; rotate_left
  revert h_0 i_1 out_2 h_4 h_5 h_6 h_7 h_8 h_11; rotate_left
  revert h_0 i_1 out_2 h_4 h_5 h_6 h_7 h_8 h_11; rotate_left
  revert h_0 i_1 out_2 h_4 h_5 h_6 h_7 h_8 h_11; rotate_left
  revert h_0 i_1 out_2 h_4 h_5 h_6 h_7 h_8 h_11; rotate_left
  revert h_0 i_1 out_2 h_4 h_5 h_6 h_7 h_8 h_11; rotate_left
  revert h_0 i_1 out_2 h_4 h_5 h_6 h_7 h_8 h_11; rotate_left
  revert h_0 i_1 out_2 h_4 h_5 h_6 h_7 h_8 h_11; rotate_left
  revert h_0 i_1 out_2 h_4 h_5 h_6 h_7 h_8 h_11; rotate_left
  revert h_0 i_1 out_2 h_4 h_5 h_6 h_7 h_8 h_11; rotate_left
  revert h_0 i_1 out_2 h_4 h_5 h_6 h_7 h_8 h_11; rotate_left
  revert h_0 i_1 out_2 h_4 h_5 h_6 h_7 h_8 h_11; rotate_left
  revert h_0 i_1 out_2 h_4 h_5 h_6 h_7 h_8 h_11; rotate_left
  revert h_0 i_1 out_2 h_4 h_5 h_6 h_7 h_8 h_11; rotate_left
  revert h_0 i_1 out_2 h_4 h_5 h_6 h_7 h_8 h_11; rotate_left
  revert h_0 i_1 out_2 h_4 h_5 h_6 h_7 h_8 h_11; rotate_left
  revert h_0 i_1 out_2 h_4 h_5 h_6 h_7 h_8 h_11; rotate_left
  revert h_0 i_1 out_2 h_4 h_5 h_6 h_7 h_8 h_11; rotate_left
  revert h_0 i_1 out_2 h_4 h_5 h_6 h_7 h_8 h_11; rotate_left
  revert h_0 i_1 out_2 h_4 h_5 h_6 h_7 h_8 h_11; rotate_left
  revert h_0 i_1 out_2 h_4 h_5 h_6 h_7 h_8 h_11; rotate_left
  revert h_0 i_1 out_2 h_4 h_5 h_6 h_7 h_8 h_11; rotate_left
  revert h_0 i_1 out_2 h_4 h_5 h_6 h_7 h_8 h_11; rotate_left
  revert h_0 i_1 out_2 h_4 h_5 h_6 h_7 h_8 h_11; rotate_left
  revert h_0 i_1 out_2 h_4 h_5 h_6 h_7 h_8 h_11; rotate_left
  revert h_0 i_1 out_2 h_4 h_5 h_6 h_7 h_8 h_11; rotate_left
  revert h_0 i_1 out_2 h_4 h_5 h_6 h_7 h_8 h_11; rotate_left
  revert h_0 i_1 out_2 h_4 h_5 h_6 h_7 h_8; rotate_left
  revert h_0 i_1 out_2 h_4 h_5 h_6 h_7 h_8; rotate_left
  case g0 => intro h; rw [linesV_no h]
  case g1 => intro h; rw [linesV_no h]; rfl
  case g2 => intro _; exact ⟨by omega, by omega, by simp, ⟨List.Pairwise.nil, fun x => by simp⟩⟩
  case g3 => intro h i out h0 h1 h2 h3 h4 h5; change i < ((srtK es).length : Int) at h4; have := srt_qty (Classical.not_not.1 h) h0 h4; have := srtK_len es; unfold srtK at *; (try simp only [lastI, bang_last, set_last]); exact row_last _ _ _
  case g4 => intro h i out h0 h1 h2 h3 h4 h5; change i < ((srtK es).length : Int) at h4; have := srt_qty (Classical.not_not.1 h) h0 h4; have := srtK_len es; unfold srtK at *; (try simp only [lastI, bang_last, set_last]); omega
  case g5 => intro h i out h0 h1 h2 h3 h4 h5; change i < ((srtK es).length : Int) at h4; have := srt_qty (Classical.not_not.1 h) h0 h4; have := srtK_len es; unfold srtK at *; (try simp only [lastI, bang_last, set_last]); omega
  case g6 => intro h i out h0 h1 h2 h3 h4 h5; change i < ((srtK es).length : Int) at h4; have := srt_qty (Classical.not_not.1 h) h0 h4; have := srtK_len es; unfold srtK at *; (try simp only [lastI, bang_last, set_last]); exact row_last _ _ _
  case g7 => intro h i out h0 h1 h2 h3 h4 h5; change i < ((srtK es).length : Int) at h4; have := srt_qty (Classical.not_not.1 h) h0 h4; have := srtK_len es; unfold srtK at *; (try simp only [lastI, bang_last, set_last]); exact row_last _ _ _
  case g8 => intro h i out h0 h1 h2 h3 h4 h5; change i < ((srtK es).length : Int) at h4; have := srt_qty (Classical.not_not.1 h) h0 h4; have := srtK_len es; unfold srtK at *; (try simp only [lastI, bang_last, set_last]); omega
  case g9 => intro h i out h0 h1 h2 h3 h4 h5; change i < ((srtK es).length : Int) at h4; have := srt_qty (Classical.not_not.1 h) h0 h4; have := srtK_len es; unfold srtK at *; (try simp only [lastI, bang_last, set_last]); omega
  case g10 => intro h i out h0 h1 h2 h3 h4 h5; change i < ((srtK es).length : Int) at h4; have := srt_qty (Classical.not_not.1 h) h0 h4; have := srtK_len es; unfold srtK at *; (try simp only [lastI, bang_last, set_last]); exact row_last _ _ _
  case g11 => intro h i out h0 h1 h2 h3 h4 h5; change i < ((srtK es).length : Int) at h4; have := srt_qty (Classical.not_not.1 h) h0 h4; have := srtK_len es; unfold srtK at *; (try simp only [lastI, bang_last, set_last]); omega
  case g12 => intro h i out h0 h1 h2 h3 h4 h5; change i < ((srtK es).length : Int) at h4; have := srt_qty (Classical.not_not.1 h) h0 h4; have := srtK_len es; unfold srtK at *; (try simp only [lastI, bang_last, set_last]); exact ⟨by omega, by omega, by simp only [List.length_append, List.length_singleton]; omega, up_new h3 h0 h4 h5⟩
  case g13 => intro h i out h0 h1 h2 h3 h4 h5; obtain ⟨A, x, rfl, h6, h7⟩ := up_same h3 h0 h4 h5; change i < ((srtK es).length : Int) at h4; have := srt_qty (Classical.not_not.1 h) h0 h4; have := srt_bound (Classical.not_not.1 h) h0 h1 h6; have := srtK_len es; unfold srtK at *; (try simp only [lastI, bang_last, set_last]); simp only [List.length_map, List.length_append, List.length_singleton]; omega
  case g14 => intro h i out h0 h1 h2 h3 h4 h5; obtain ⟨A, x, rfl, h6, h7⟩ := up_same h3 h0 h4 h5; change i < ((srtK es).length : Int) at h4; have := srt_qty (Classical.not_not.1 h) h0 h4; have := srt_bound (Classical.not_not.1 h) h0 h1 h6; have := srtK_len es; unfold srtK at *; (try simp only [lastI, bang_last, set_last]); simp only [List.length_map, List.length_append, List.length_singleton]; omega
  case g15 => intro h i out h0 h1 h2 h3 h4 h5; obtain ⟨A, x, rfl, h6, h7⟩ := up_same h3 h0 h4 h5; change i < ((srtK es).length : Int) at h4; have := srt_qty (Classical.not_not.1 h) h0 h4; have := srt_bound (Classical.not_not.1 h) h0 h1 h6; have := srtK_len es; unfold srtK at *; (try simp only [lastI, bang_last, set_last]); exact row_last _ _ _
  case g16 => intro h i out h0 h1 h2 h3 h4 h5; obtain ⟨A, x, rfl, h6, h7⟩ := up_same h3 h0 h4 h5; change i < ((srtK es).length : Int) at h4; have := srt_qty (Classical.not_not.1 h) h0 h4; have := srt_bound (Classical.not_not.1 h) h0 h1 h6; have := srtK_len es; unfold srtK at *; (try simp only [lastI, bang_last, set_last]); omega
  case g17 => intro h i out h0 h1 h2 h3 h4 h5; obtain ⟨A, x, rfl, h6, h7⟩ := up_same h3 h0 h4 h5; change i < ((srtK es).length : Int) at h4; have := srt_qty (Classical.not_not.1 h) h0 h4; have := srt_bound (Classical.not_not.1 h) h0 h1 h6; have := srtK_len es; unfold srtK at *; (try simp only [lastI, bang_last, set_last]); omega
  case g18 => intro h i out h0 h1 h2 h3 h4 h5; obtain ⟨A, x, rfl, h6, h7⟩ := up_same h3 h0 h4 h5; change i < ((srtK es).length : Int) at h4; have := srt_qty (Classical.not_not.1 h) h0 h4; have := srt_bound (Classical.not_not.1 h) h0 h1 h6; have := srtK_len es; unfold srtK at *; (try simp only [lastI, bang_last, set_last]); simp only [List.length_map, List.length_append, List.length_singleton]; omega
  case g19 => intro h i out h0 h1 h2 h3 h4 h5; obtain ⟨A, x, rfl, h6, h7⟩ := up_same h3 h0 h4 h5; change i < ((srtK es).length : Int) at h4; have := srt_qty (Classical.not_not.1 h) h0 h4; have := srt_bound (Classical.not_not.1 h) h0 h1 h6; have := srtK_len es; unfold srtK at *; (try simp only [lastI, bang_last, set_last]); simp only [List.length_map, List.length_append, List.length_singleton]; omega
  case g20 => intro h i out h0 h1 h2 h3 h4 h5; obtain ⟨A, x, rfl, h6, h7⟩ := up_same h3 h0 h4 h5; change i < ((srtK es).length : Int) at h4; have := srt_qty (Classical.not_not.1 h) h0 h4; have := srt_bound (Classical.not_not.1 h) h0 h1 h6; have := srtK_len es; unfold srtK at *; (try simp only [lastI, bang_last, set_last]); exact row_last _ _ _
  case g21 => intro h i out h0 h1 h2 h3 h4 h5; obtain ⟨A, x, rfl, h6, h7⟩ := up_same h3 h0 h4 h5; change i < ((srtK es).length : Int) at h4; have := srt_qty (Classical.not_not.1 h) h0 h4; have := srt_bound (Classical.not_not.1 h) h0 h1 h6; have := srtK_len es; unfold srtK at *; (try simp only [lastI, bang_last, set_last]); simp only [List.length_map, List.length_append, List.length_singleton]; omega
  case g22 => intro h i out h0 h1 h2 h3 h4 h5; obtain ⟨A, x, rfl, h6, h7⟩ := up_same h3 h0 h4 h5; change i < ((srtK es).length : Int) at h4; have := srt_qty (Classical.not_not.1 h) h0 h4; have := srt_bound (Classical.not_not.1 h) h0 h1 h6; have := srtK_len es; unfold srtK at *; (try simp only [lastI, bang_last, set_last]); simp only [List.length_map, List.length_append, List.length_singleton]; omega
  case g23 => intro h i out h0 h1 h2 h3 h4 h5; obtain ⟨A, x, rfl, h6, h7⟩ := up_same h3 h0 h4 h5; change i < ((srtK es).length : Int) at h4; have := srt_qty (Classical.not_not.1 h) h0 h4; have := srt_bound (Classical.not_not.1 h) h0 h1 h6; have := srtK_len es; unfold srtK at *; (try simp only [lastI, bang_last, set_last]); exact row_last _ _ _
  case g24 => intro h i out h0 h1 h2 h3 h4 h5; obtain ⟨A, x, rfl, h6, h7⟩ := up_same h3 h0 h4 h5; change i < ((srtK es).length : Int) at h4; have := srt_qty (Classical.not_not.1 h) h0 h4; have := srt_bound (Classical.not_not.1 h) h0 h1 h6; have := srtK_len es; unfold srtK at *; (try simp only [lastI, bang_last, set_last]); omega
  case g25 => intro h i out h0 h1 h2 h3 h4 h5; obtain ⟨A, x, rfl, h6, h7⟩ := up_same h3 h0 h4 h5; change i < ((srtK es).length : Int) at h4; have := srt_qty (Classical.not_not.1 h) h0 h4; have := srt_bound (Classical.not_not.1 h) h0 h1 h6; have := srtK_len es; unfold srtK at *; (try simp only [lastI, bang_last, set_last]); omega
  case g26 => intro h i out h0 h1 h2 h3 h4 h5; obtain ⟨A, x, rfl, h6, h7⟩ := up_same h3 h0 h4 h5; change i < ((srtK es).length : Int) at h4; have := srt_qty (Classical.not_not.1 h) h0 h4; have := srt_bound (Classical.not_not.1 h) h0 h1 h6; have := srtK_len es; unfold srtK at *; (try simp only [lastI, bang_last, set_last]); simp only [List.length_map, List.length_append, List.length_singleton]; omega
  case g27 => intro h i out h0 h1 h2 h3 h4 h5; obtain ⟨A, x, rfl, h6, h7⟩ := up_same h3 h0 h4 h5; change i < ((srtK es).length : Int) at h4; have := srt_qty (Classical.not_not.1 h) h0 h4; have := srt_bound (Classical.not_not.1 h) h0 h1 h6; have := srtK_len es; unfold srtK at *; (try simp only [lastI, bang_last, set_last]); simp only [List.length_map, List.length_append, List.length_singleton]; omega
  case g28 => intro h i out h0 h1 h2 h3 h4 h5; obtain ⟨A, x, rfl, h6, h7⟩ := up_same h3 h0 h4 h5; change i < ((srtK es).length : Int) at h4; have := srt_qty (Classical.not_not.1 h) h0 h4; have := srt_bound (Classical.not_not.1 h) h0 h1 h6; have := srtK_len es; unfold srtK at *; (try simp only [lastI, bang_last, set_last]); exact row_last _ _ _
  case g29 => intro h i out h0 h1 h2 h3 h4 h5; obtain ⟨A, x, rfl, h6, h7⟩ := up_same h3 h0 h4 h5; change i < ((srtK es).length : Int) at h4; have := srt_qty (Classical.not_not.1 h) h0 h4; have := srt_bound (Classical.not_not.1 h) h0 h1 h6; have := srtK_len es; unfold srtK at *; (try simp only [lastI, bang_last, set_last]); omega
  case g30 => intro h i out h0 h1 h2 h3 h4 h5; obtain ⟨A, x, rfl, h6, h7⟩ := up_same h3 h0 h4 h5; change i < ((srtK es).length : Int) at h4; have := srt_qty (Classical.not_not.1 h) h0 h4; have := srt_bound (Classical.not_not.1 h) h0 h1 h6; have := srtK_len es; unfold srtK at *; (try simp only [lastI, bang_last, set_last]); exact ⟨by omega, by omega, by rw [List.length_append, List.length_singleton] at *; omega, h7⟩
  case g31 => intro h i out h0 h1 h2 h3 h4; rw [linesV_ok (Classical.not_not.1 h)]
  case g32 =>
    intro h i out h0 h1 h2 h3 h4
    rw [linesV_ok (Classical.not_not.1 h)]
    have hl := srtK_len es
    change ¬ i < ((srtK es).length : Int) at h4
    unfold isUp at h3
    rw [List.take_of_length_le (by omega)] at h3
    rw [(h3.perm (srtK_perm es)).unique (linesU_is es)]
theorem con33 (es : List Entry) (s : ByteArray) (hs : es.length * 40 ≤ 140737488351232) : Con Try.prog 33 [.sl (es.map c28), .s s] (.tup [.agg (c55 (lineR es s).1), .i .i64 (lineR es s).2]) :=
  by
  refine con_lens 0 (c28) (es) (by kernel_rfl) Go.Proofs.Try.func33 (by kernel_rfl) fun hl_0 => ?_
  refine st_con tab_ok (by kernel_rfl) [.cell 4 55, .tmp 5] 47 Go.Proofs.Try.func33 (by kernel_rfl) (by kernel_rfl) ?_
  intro e0 cx
  refine sq ?_
  refine rg (A := True) cx [] [0, 1, 4] [4] trivial ?_
  refine sn ?_
  refine sq ?_
  have hl_0 := (rng_ofV es)
  have hl_1 := (rng_ofV es s)
  refine rg (A := _) cx [(2, { val := some (.tup [.sl (List.map c28 (ofV es s).fst), .i .i64 ((ofV es s).snd)]) })] [1, 4, 6, 7] [4] (con21 (es) (s) (by (with_reducible assumption))) ?_
  refine sn ?_
  refine sq ?_
  refine sq ?_
  refine st_join (σ' := ⟨[(1, .s (s)), (4, .ptr (4) (0) (0) (0)), (6, .sl (List.map c28 (ofV es s).fst)), (7, .i .i64 ((ofV es s).snd)), (22, .b (decide (¬(ofV es s).snd = (0 : Int) ∨ (↑(ofV es s).fst.length : Int) = (0 : Int))))], [(4, ⟨0, 55, .var [.s ({ data := #[] : ByteArray }), .i .i64 ((0 : Int)), .i .i64 ((0 : Int))]⟩)]⟩) ?_ ?_
  refine st_split (¬(ofV es s).snd = (0 : Int)) (fun h_3 => ?_) (fun h_3 => ?_)
  refine rg (A := (AV.b ((ofV es s).snd != (0 : Int)) = AV.b true) ∧ (AV.b true = AV.b (decide (¬(ofV es s).snd = (0 : Int) ∨ (↑(ofV es s).fst.length : Int) = (0 : Int))))) cx [(1, { tell := some (.b (true)) }), (6, { tell := some (.b (decide (¬(ofV es s).snd = (0 : Int) ∨ (↑(ofV es s).fst.length : Int) = (0 : Int)))) })] [1, 4, 6, 7, 22] [4] ⟨(told_neqt h_3), (by simp only [eq_false h_3, told_simp1, told_simp2, and_true, true_and, and_false, false_and, or_true, true_or, or_false, false_or, not_true_eq_false, not_false_eq_true, decide_true, decide_false, Bool.decide_eq_true])⟩ ?_
  exact ⟨rfl, by kernel_rfl⟩
  refine rg (A := (AV.b ((ofV es s).snd != (0 : Int)) = AV.b (decide ¬(ofV es s).snd = (0 : Int))) ∧ _ ∧ _ ∧ (AV.b ((↑(ofV es s).fst.length : Int) == (0 : Int)) = AV.b (decide ((↑(ofV es s).fst.length : Int) = (0 : Int)))) ∧ (AV.b (decide ((↑(ofV es s).fst.length : Int) = (0 : Int))) = AV.b (decide (¬(ofV es s).snd = (0 : Int) ∨ (↑(ofV es s).fst.length : Int) = (0 : Int))))) cx [(1, { tell := some (.b (decide ¬(ofV es s).snd = (0 : Int))) }), (2, { tell := some (.b (false)) }), (4, { tell := some (.i .i64 ((↑(ofV es s).fst.length : Int))) }), (5, { tell := some (.b (decide ((↑(ofV es s).fst.length : Int) = (0 : Int)))) }), (6, { tell := some (.b (decide (¬(ofV es s).snd = (0 : Int) ∨ (↑(ofV es s).fst.length : Int) = (0 : Int)))) })] [1, 4, 6, 7, 22] [4] ⟨(told_neq), (told_false h_3), (told_len c28 (ofV es s).fst), (by kernel_rfl), (by simp only [eq_false h_3, told_simp1, told_simp2, and_true, true_and, and_false, false_and, or_true, true_or, or_false, false_or, not_true_eq_false, not_false_eq_true, decide_true, decide_false, Bool.decide_eq_true])⟩ ?_
  exact ⟨rfl, by kernel_rfl⟩
  refine sn ?_
  refine st_dec (¬(ofV es s).snd = (0 : Int) ∨ (↑(ofV es s).fst.length : Int) = (0 : Int)) (by kernel_rfl) (by kernel_rfl) (fun h_4 => ?_) (fun h_4 => ?_)
  refine sq ?_
  refine rg (A := True) cx [] [4, 5] [4] trivial ?_
  refine sn ?_
  refine st_ret (by kernel_rfl) ?_
  refine q_seq_ret ?_
  refine q_ret (r := .tup [.agg [.s ({ data := #[] : ByteArray }), .i .i64 ((0 : Int)), .i .i64 ((0 : Int))], .i .i64 ((ofV es s).snd)]) (obl := []) (by kernel_rfl) trivial (AVle.tup (ZLe.cons (AVle.eq (show AV.agg [AV.s { data := #[] : ByteArray }, AV.i IntKind.i64 (0 : Int), AV.i IntKind.i64 (0 : Int)] = AV.agg [AV.s (lineR es s).fst.sku, AV.i IntKind.i64 (lineR es s).fst.qty, AV.i IntKind.i64 (lineR es s).fst.parts] from ?g1)) (ZLe.cons (AVle.eq (show AV.i IntKind.i64 (ofV es s).snd = AV.i IntKind.i64 (lineR es s).snd from ?g0)) ZLe.nil))); rotate_left 2
  refine st_skip (by kernel_rfl) ?_
  refine sn ?_
  refine sq ?_
  refine rg (A := True) cx [] [4, 6, 8] [4, 8] trivial ?_
  refine sn ?_
  refine sq ?_
  refine sq ?_
  refine rg (A := True) cx [] [4, 6, 8, 9] [4, 8] trivial ?_
  refine sn ?_
  refine st_block 0 (by kernel_rfl) ?_
  refine st_loop (X := Int × ByteArray × Int × Int × ByteArray × Int × Int) (fun x => ⟨[(4, .ptr (4) (0) (0) (0)), (6, .sl (List.map c28 (ofV es s).fst)), (8, .ptr (8) (0) (0) (0)), (9, .i .i64 (x.fst))], [(4, ⟨0, 55, .var [.s (x.snd.fst), .i .i64 (x.snd.snd.fst), .i .i64 (x.snd.snd.snd.fst)]⟩), (8, ⟨0, 55, .var [.s (x.snd.snd.snd.snd.fst), .i .i64 (x.snd.snd.snd.snd.snd.fst), .i .i64 (x.snd.snd.snd.snd.snd.snd)]⟩)]⟩) (fun x ↦ decX (ofSku es s) x.fst x.snd.fst x.snd.snd.fst x.snd.snd.snd.fst x.snd.snd.snd.snd.fst x.snd.snd.snd.snd.snd.fst x.snd.snd.snd.snd.snd.snd) (fun x ↦ invX (ofSku es s) s x.fst x.snd.fst x.snd.snd.fst x.snd.snd.snd.fst x.snd.snd.snd.snd.fst x.snd.snd.snd.snd.snd.fst x.snd.snd.snd.snd.snd.snd) [4, 6, 8, 9] [4, 8] (((0 : Int), { data := #[] : ByteArray }, (0 : Int), (0 : Int), s, (0 : Int), (0 : Int))) (by kernel_rfl) (by kernel_rfl) (show invX (ofSku es s) s (0 : Int) { data := #[] : ByteArray } (0 : Int) (0 : Int) s (0 : Int) (0 : Int) from ?g2) ?_; rotate_left 1
  rintro ⟨i_5, a_6, b_7, c_8, t_9, q_10, p_11⟩ h_12
  obtain ⟨h_13, h_14, h_15, h_16, h_17⟩ : (0 : Int) ≤ i_5 ∧ i_5 ≤ (↑(ofSku es s).length : Int) ∧ t_9 = s ∧ q_10 = sumE (List.take i_5.toNat (ofSku es s)) ∧ p_11 = i_5 := h_12
  refine sq ?_
  refine sq ?_
  refine rg (A := _ ∧ (AV.b (decide (i_5 < (↑(ofV es s).fst.length : Int))) = AV.b (decide (i_5 < (↑(ofV es s).fst.length : Int))))) cx [(2, { tell := some (.i .i64 ((↑(ofV es s).fst.length : Int))) }), (3, { tell := some (.b (decide (i_5 < (↑(ofV es s).fst.length : Int)))) })] [4, 6, 8, 9, 30] [4, 8] ⟨(told_len c28 (ofV es s).fst), (by kernel_rfl)⟩ ?_
  refine sn ?_
  refine st_dec (i_5 < (↑(ofV es s).fst.length : Int)) (by kernel_rfl) (by kernel_rfl) (fun h_18 => ?_) (fun h_18 => ?_)
  refine st_skip (by kernel_rfl) ?_
  refine sn ?_
  refine sq ?_
  refine st_block 1 (by kernel_rfl) ?_
  refine sq ?_
  refine ra (A := ((0 : Int) ≤ i_5) ∧ ((List.map c28 (ofV es s).fst)[i_5.toNat]? = some (c28 (ofV es s).fst[i_5.toNat]!)) ∧ ((c28 (ofV es s).fst[i_5.toNat]!).length = (4 : Nat)) ∧ (AV.i IntKind.i64 (IntKind.i64.wrap (q_10 + (ofV es s).fst[i_5.toNat]!.qty)) = AV.i IntKind.i64 (q_10 + (ofV es s).fst[i_5.toNat]!.qty))) cx [(4, { row := (c28 (ofV es s).fst[i_5.toNat]!) }), (7, { tell := some (.i .i64 (q_10 + (ofV es s).fst[i_5.toNat]!.qty)) })] [4, 6, 8, 9] [4, 8] ⟨(by (with_reducible assumption)), (by (with_reducible refine get_map ?_; omega)), (by kernel_rfl), (told_i64 ?g3 ?g4)⟩ ?_; rotate_left 2
  refine sn ?_
  refine rg (A := (AV.i IntKind.i64 (IntKind.i64.wrap (p_11 + (1 : Int))) = AV.i IntKind.i64 (p_11 + (1 : Int)))) cx [(2, { tell := some (.i .i64 (p_11 + (1 : Int))) })] [4, 6, 8, 9] [4, 8] (told_i64 (by omega) (by omega)) ?_
  refine q_blk_normal ?_
  refine sn ?_
  refine rg (A := (AV.i IntKind.i64 (IntKind.i64.wrap (i_5 + (1 : Int))) = AV.i IntKind.i64 (i_5 + (1 : Int)))) cx [(1, { tell := some (.i .i64 (i_5 + (1 : Int))) })] [4, 6, 8, 9] [4, 8] (told_i64 (by omega) (by omega)) ?_
  refine sn ?_
  refine loop_next ((i_5 + (1 : Int), a_6, b_7, c_8, t_9, q_10 + (ofV es s).fst[i_5.toNat]!.qty, p_11 + (1 : Int))) (by kernel_rfl) (show ((↑(ofSku es s).length : Int) - (i_5 + (1 : Int))).toNat < ((↑(ofSku es s).length : Int) - i_5).toNat from ?g5) (show invX (ofSku es s) s (i_5 + (1 : Int)) a_6 b_7 c_8 t_9 (q_10 + (ofV es s).fst[i_5.toNat]!.qty) (p_11 + (1 : Int)) from ?g6); rotate_left 2
  refine st_exit 0 (by kernel_rfl) ?_
  refine q_seq_exit ?_
  refine q_seq_exit ?_
  refine q_blk_hit ?_
  refine sn ?_
  refine sq ?_
  refine rg (A := True) cx [] [4, 5] [4] trivial ?_
  refine sn ?_
  refine st_ret (by kernel_rfl) ?_
  refine q_ret (r := .tup [.agg [.s (t_9), .i .i64 (q_10), .i .i64 (p_11)], .i .i64 ((0 : Int))]) (obl := []) (by kernel_rfl) trivial (AVle.tup (ZLe.cons (AVle.eq (show AV.agg [AV.s t_9, AV.i IntKind.i64 q_10, AV.i IntKind.i64 p_11] = AV.agg [AV.s (lineR es s).fst.sku, AV.i IntKind.i64 (lineR es s).fst.qty, AV.i IntKind.i64 (lineR es s).fst.parts] from ?g8)) (ZLe.cons (AVle.eq (show AV.i IntKind.i64 (0 : Int) = AV.i IntKind.i64 (lineR es s).snd from ?g7)) ZLe.nil))); rotate_left 2
  revert h_4; rotate_left
  revert h_4; rotate_left
  revert h_4; rotate_left
  revert h_4 i_5 a_6 b_7 c_8 t_9 q_10 p_11 h_13 h_14 h_15 h_16 h_17 h_18; rotate_left
  revert h_4 i_5 a_6 b_7 c_8 t_9 q_10 p_11 h_13 h_14 h_15 h_16 h_17 h_18; rotate_left
  revert h_4 i_5 a_6 b_7 c_8 t_9 q_10 p_11 h_13 h_14 h_15 h_16 h_17 h_18; rotate_left
  revert h_4 i_5 a_6 b_7 c_8 t_9 q_10 p_11 h_13 h_14 h_15 h_16 h_17 h_18; rotate_left
  revert h_4 i_5 a_6 b_7 c_8 t_9 q_10 p_11 h_13 h_14 h_15 h_16 h_17 h_18; rotate_left
  revert h_4 i_5 a_6 b_7 c_8 t_9 q_10 p_11 h_13 h_14 h_15 h_16 h_17 h_18; rotate_left
  case g0 => intro h; rw [line_none h]
  case g1 => intro h; rw [line_none h]; rfl
  case g2 => intro _; exact ⟨by omega, by omega, rfl, rfl, rfl⟩
  case g3 => intro h i a b c t q p h0 h1 h2 h3 h4 h5; obtain ⟨k1, k2, k3, k4⟩ := line_some h; rw [k2] at h5 ⊢; have hl : (ofSku es s).length ≤ es.length := List.length_filter_le _ _; have := take_bound k4 h0 h1; have := qty_at k4 h0 h5; simp only at *; omega
  case g4 => intro h i a b c t q p h0 h1 h2 h3 h4 h5; obtain ⟨k1, k2, k3, k4⟩ := line_some h; rw [k2] at h5 ⊢; have hl : (ofSku es s).length ≤ es.length := List.length_filter_le _ _; have := take_bound k4 h0 h1; have := qty_at k4 h0 h5; simp only at *; omega
  case g5 => intro h i a b c t q p h0 h1 h2 h3 h4 h5; obtain ⟨k1, k2, k3, k4⟩ := line_some h; rw [k2] at h5; simp only at h5; omega
  case g6 => intro h i a b c t q p h0 h1 h2 h3 h4 h5; obtain ⟨k1, k2, k3, k4⟩ := line_some h; rw [k2] at h5 ⊢; simp only at h5 ⊢; exact ⟨by omega, by omega, h2, by rw [sumE_take h0 h5, h3], by omega⟩
  case g7 => intro h i a b c t q p h0 h1 h2 h3 h4 h5; rw [(line_some h).2.2.1]
  case g8 =>
    intro h i a b c t q p h0 h1 h2 h3 h4 h5
    obtain ⟨k1, k2, k3, k4⟩ := line_some h
    rw [k2] at h5
    simp only at h5
    rw [k3, h2, invT_end h3 h5, h4, show i = ((ofSku es s).length : Int) by omega]
    rfl
end Go.Proofs.Ytjngmlkaijpbgaa
namespace Go.Proofs.Ytjngmlkaijpbgaa
open Go.E
set_option maxRecDepth 100000
set_option maxHeartbeats 4000000
def lit8 : List Line := [⟨⟨#[65]⟩, 6, 2⟩, ⟨⟨#[66]⟩, 2, 1⟩]
theorem con31  : Con Try.prog 31 [] (.b true) :=
  by
  refine st_con tab_ok (by kernel_rfl) [.tmp 0] 57 Go.Proofs.Try.func31 (by kernel_rfl) (by kernel_rfl) ?_
  intro e0 cx
  refine sq ?_
  refine rg (A := True) cx [] [] [] trivial ?_
  refine sn ?_
  refine sq ?_
  refine rg (A := _ ∧ _) cx [(0, { val := some (resC (con17 )) }), (1, { val := some (.tup [.sl (List.map c55 (linesV someL).fst), .i .i64 ((0 : Int))]) })] [1, 2] [] ⟨(con17 ), (con35 (someL) ?g0)⟩ ?_; rotate_left 1
  refine sn ?_
  refine sq ?_
  refine rg (A := ((0 : Int) ≤ (0 : Int)) ∧ ((List.map c55 (linesV someL).fst)[Int.toNat (0 : Int)]? = some (c55 (addV { dot := { rep := (1 : Int), num := (4 : Int) : Dot }, sku := { data := #[(65 : UInt8)] : ByteArray }, qty := (1 : Int) : Entry } (lkp { dot := { rep := (1 : Int), num := (4 : Int) : Dot }, sku := { data := #[(65 : UInt8)] : ByteArray }, qty := (1 : Int) : Entry }.sku (mset { dot := { rep := (1 : Int), num := (1 : Int) : Dot }, sku := { data := #[(66 : UInt8)] : ByteArray }, qty := (2 : Int) : Entry }.sku (addV { dot := { rep := (1 : Int), num := (1 : Int) : Dot }, sku := { data := #[(66 : UInt8)] : ByteArray }, qty := (2 : Int) : Entry } (lkp { dot := { rep := (1 : Int), num := (1 : Int) : Dot }, sku := { data := #[(66 : UInt8)] : ByteArray }, qty := (2 : Int) : Entry }.sku (mset { dot := { rep := (0 : Int), num := (3 : Int) : Dot }, sku := { data := #[(65 : UInt8)] : ByteArray }, qty := (5 : Int) : Entry }.sku (addV { dot := { rep := (0 : Int), num := (3 : Int) : Dot }, sku := { data := #[(65 : UInt8)] : ByteArray }, qty := (5 : Int) : Entry } (lkp { dot := { rep := (0 : Int), num := (3 : Int) : Dot }, sku := { data := #[(65 : UInt8)] : ByteArray }, qty := (5 : Int) : Entry }.sku [])) []))) (mset { dot := { rep := (0 : Int), num := (3 : Int) : Dot }, sku := { data := #[(65 : UInt8)] : ByteArray }, qty := (5 : Int) : Entry }.sku (addV { dot := { rep := (0 : Int), num := (3 : Int) : Dot }, sku := { data := #[(65 : UInt8)] : ByteArray }, qty := (5 : Int) : Entry } (lkp { dot := { rep := (0 : Int), num := (3 : Int) : Dot }, sku := { data := #[(65 : UInt8)] : ByteArray }, qty := (5 : Int) : Entry }.sku [])) [])))))) ∧ ((c55 (addV { dot := { rep := (1 : Int), num := (4 : Int) : Dot }, sku := { data := #[(65 : UInt8)] : ByteArray }, qty := (1 : Int) : Entry } (lkp { dot := { rep := (1 : Int), num := (4 : Int) : Dot }, sku := { data := #[(65 : UInt8)] : ByteArray }, qty := (1 : Int) : Entry }.sku (mset { dot := { rep := (1 : Int), num := (1 : Int) : Dot }, sku := { data := #[(66 : UInt8)] : ByteArray }, qty := (2 : Int) : Entry }.sku (addV { dot := { rep := (1 : Int), num := (1 : Int) : Dot }, sku := { data := #[(66 : UInt8)] : ByteArray }, qty := (2 : Int) : Entry } (lkp { dot := { rep := (1 : Int), num := (1 : Int) : Dot }, sku := { data := #[(66 : UInt8)] : ByteArray }, qty := (2 : Int) : Entry }.sku (mset { dot := { rep := (0 : Int), num := (3 : Int) : Dot }, sku := { data := #[(65 : UInt8)] : ByteArray }, qty := (5 : Int) : Entry }.sku (addV { dot := { rep := (0 : Int), num := (3 : Int) : Dot }, sku := { data := #[(65 : UInt8)] : ByteArray }, qty := (5 : Int) : Entry } (lkp { dot := { rep := (0 : Int), num := (3 : Int) : Dot }, sku := { data := #[(65 : UInt8)] : ByteArray }, qty := (5 : Int) : Entry }.sku [])) []))) (mset { dot := { rep := (0 : Int), num := (3 : Int) : Dot }, sku := { data := #[(65 : UInt8)] : ByteArray }, qty := (5 : Int) : Entry }.sku (addV { dot := { rep := (0 : Int), num := (3 : Int) : Dot }, sku := { data := #[(65 : UInt8)] : ByteArray }, qty := (5 : Int) : Entry } (lkp { dot := { rep := (0 : Int), num := (3 : Int) : Dot }, sku := { data := #[(65 : UInt8)] : ByteArray }, qty := (5 : Int) : Entry }.sku [])) []))))).length = (3 : Nat)) ∧ ((0 : Int) ≤ (0 : Int)) ∧ ((List.map c55 (linesV someL).fst)[Int.toNat (0 : Int)]? = some (c55 (addV { dot := { rep := (1 : Int), num := (4 : Int) : Dot }, sku := { data := #[(65 : UInt8)] : ByteArray }, qty := (1 : Int) : Entry } (lkp { dot := { rep := (1 : Int), num := (4 : Int) : Dot }, sku := { data := #[(65 : UInt8)] : ByteArray }, qty := (1 : Int) : Entry }.sku (mset { dot := { rep := (1 : Int), num := (1 : Int) : Dot }, sku := { data := #[(66 : UInt8)] : ByteArray }, qty := (2 : Int) : Entry }.sku (addV { dot := { rep := (1 : Int), num := (1 : Int) : Dot }, sku := { data := #[(66 : UInt8)] : ByteArray }, qty := (2 : Int) : Entry } (lkp { dot := { rep := (1 : Int), num := (1 : Int) : Dot }, sku := { data := #[(66 : UInt8)] : ByteArray }, qty := (2 : Int) : Entry }.sku (mset { dot := { rep := (0 : Int), num := (3 : Int) : Dot }, sku := { data := #[(65 : UInt8)] : ByteArray }, qty := (5 : Int) : Entry }.sku (addV { dot := { rep := (0 : Int), num := (3 : Int) : Dot }, sku := { data := #[(65 : UInt8)] : ByteArray }, qty := (5 : Int) : Entry } (lkp { dot := { rep := (0 : Int), num := (3 : Int) : Dot }, sku := { data := #[(65 : UInt8)] : ByteArray }, qty := (5 : Int) : Entry }.sku [])) []))) (mset { dot := { rep := (0 : Int), num := (3 : Int) : Dot }, sku := { data := #[(65 : UInt8)] : ByteArray }, qty := (5 : Int) : Entry }.sku (addV { dot := { rep := (0 : Int), num := (3 : Int) : Dot }, sku := { data := #[(65 : UInt8)] : ByteArray }, qty := (5 : Int) : Entry } (lkp { dot := { rep := (0 : Int), num := (3 : Int) : Dot }, sku := { data := #[(65 : UInt8)] : ByteArray }, qty := (5 : Int) : Entry }.sku [])) [])))))) ∧ ((c55 (addV { dot := { rep := (1 : Int), num := (4 : Int) : Dot }, sku := { data := #[(65 : UInt8)] : ByteArray }, qty := (1 : Int) : Entry } (lkp { dot := { rep := (1 : Int), num := (4 : Int) : Dot }, sku := { data := #[(65 : UInt8)] : ByteArray }, qty := (1 : Int) : Entry }.sku (mset { dot := { rep := (1 : Int), num := (1 : Int) : Dot }, sku := { data := #[(66 : UInt8)] : ByteArray }, qty := (2 : Int) : Entry }.sku (addV { dot := { rep := (1 : Int), num := (1 : Int) : Dot }, sku := { data := #[(66 : UInt8)] : ByteArray }, qty := (2 : Int) : Entry } (lkp { dot := { rep := (1 : Int), num := (1 : Int) : Dot }, sku := { data := #[(66 : UInt8)] : ByteArray }, qty := (2 : Int) : Entry }.sku (mset { dot := { rep := (0 : Int), num := (3 : Int) : Dot }, sku := { data := #[(65 : UInt8)] : ByteArray }, qty := (5 : Int) : Entry }.sku (addV { dot := { rep := (0 : Int), num := (3 : Int) : Dot }, sku := { data := #[(65 : UInt8)] : ByteArray }, qty := (5 : Int) : Entry } (lkp { dot := { rep := (0 : Int), num := (3 : Int) : Dot }, sku := { data := #[(65 : UInt8)] : ByteArray }, qty := (5 : Int) : Entry }.sku [])) []))) (mset { dot := { rep := (0 : Int), num := (3 : Int) : Dot }, sku := { data := #[(65 : UInt8)] : ByteArray }, qty := (5 : Int) : Entry }.sku (addV { dot := { rep := (0 : Int), num := (3 : Int) : Dot }, sku := { data := #[(65 : UInt8)] : ByteArray }, qty := (5 : Int) : Entry } (lkp { dot := { rep := (0 : Int), num := (3 : Int) : Dot }, sku := { data := #[(65 : UInt8)] : ByteArray }, qty := (5 : Int) : Entry }.sku [])) []))))).length = (3 : Nat)) ∧ ((0 : Int) ≤ (0 : Int)) ∧ ((List.map c55 (linesV someL).fst)[Int.toNat (0 : Int)]? = some (c55 (addV { dot := { rep := (1 : Int), num := (4 : Int) : Dot }, sku := { data := #[(65 : UInt8)] : ByteArray }, qty := (1 : Int) : Entry } (lkp { dot := { rep := (1 : Int), num := (4 : Int) : Dot }, sku := { data := #[(65 : UInt8)] : ByteArray }, qty := (1 : Int) : Entry }.sku (mset { dot := { rep := (1 : Int), num := (1 : Int) : Dot }, sku := { data := #[(66 : UInt8)] : ByteArray }, qty := (2 : Int) : Entry }.sku (addV { dot := { rep := (1 : Int), num := (1 : Int) : Dot }, sku := { data := #[(66 : UInt8)] : ByteArray }, qty := (2 : Int) : Entry } (lkp { dot := { rep := (1 : Int), num := (1 : Int) : Dot }, sku := { data := #[(66 : UInt8)] : ByteArray }, qty := (2 : Int) : Entry }.sku (mset { dot := { rep := (0 : Int), num := (3 : Int) : Dot }, sku := { data := #[(65 : UInt8)] : ByteArray }, qty := (5 : Int) : Entry }.sku (addV { dot := { rep := (0 : Int), num := (3 : Int) : Dot }, sku := { data := #[(65 : UInt8)] : ByteArray }, qty := (5 : Int) : Entry } (lkp { dot := { rep := (0 : Int), num := (3 : Int) : Dot }, sku := { data := #[(65 : UInt8)] : ByteArray }, qty := (5 : Int) : Entry }.sku [])) []))) (mset { dot := { rep := (0 : Int), num := (3 : Int) : Dot }, sku := { data := #[(65 : UInt8)] : ByteArray }, qty := (5 : Int) : Entry }.sku (addV { dot := { rep := (0 : Int), num := (3 : Int) : Dot }, sku := { data := #[(65 : UInt8)] : ByteArray }, qty := (5 : Int) : Entry } (lkp { dot := { rep := (0 : Int), num := (3 : Int) : Dot }, sku := { data := #[(65 : UInt8)] : ByteArray }, qty := (5 : Int) : Entry }.sku [])) [])))))) ∧ ((c55 (addV { dot := { rep := (1 : Int), num := (4 : Int) : Dot }, sku := { data := #[(65 : UInt8)] : ByteArray }, qty := (1 : Int) : Entry } (lkp { dot := { rep := (1 : Int), num := (4 : Int) : Dot }, sku := { data := #[(65 : UInt8)] : ByteArray }, qty := (1 : Int) : Entry }.sku (mset { dot := { rep := (1 : Int), num := (1 : Int) : Dot }, sku := { data := #[(66 : UInt8)] : ByteArray }, qty := (2 : Int) : Entry }.sku (addV { dot := { rep := (1 : Int), num := (1 : Int) : Dot }, sku := { data := #[(66 : UInt8)] : ByteArray }, qty := (2 : Int) : Entry } (lkp { dot := { rep := (1 : Int), num := (1 : Int) : Dot }, sku := { data := #[(66 : UInt8)] : ByteArray }, qty := (2 : Int) : Entry }.sku (mset { dot := { rep := (0 : Int), num := (3 : Int) : Dot }, sku := { data := #[(65 : UInt8)] : ByteArray }, qty := (5 : Int) : Entry }.sku (addV { dot := { rep := (0 : Int), num := (3 : Int) : Dot }, sku := { data := #[(65 : UInt8)] : ByteArray }, qty := (5 : Int) : Entry } (lkp { dot := { rep := (0 : Int), num := (3 : Int) : Dot }, sku := { data := #[(65 : UInt8)] : ByteArray }, qty := (5 : Int) : Entry }.sku [])) []))) (mset { dot := { rep := (0 : Int), num := (3 : Int) : Dot }, sku := { data := #[(65 : UInt8)] : ByteArray }, qty := (5 : Int) : Entry }.sku (addV { dot := { rep := (0 : Int), num := (3 : Int) : Dot }, sku := { data := #[(65 : UInt8)] : ByteArray }, qty := (5 : Int) : Entry } (lkp { dot := { rep := (0 : Int), num := (3 : Int) : Dot }, sku := { data := #[(65 : UInt8)] : ByteArray }, qty := (5 : Int) : Entry }.sku [])) []))))).length = (3 : Nat)) ∧ ((0 : Int) ≤ (1 : Int)) ∧ ((List.map c55 (linesV someL).fst)[Int.toNat (1 : Int)]? = some (c55 (addV { dot := { rep := (1 : Int), num := (1 : Int) : Dot }, sku := { data := #[(66 : UInt8)] : ByteArray }, qty := (2 : Int) : Entry } (lkp { dot := { rep := (1 : Int), num := (1 : Int) : Dot }, sku := { data := #[(66 : UInt8)] : ByteArray }, qty := (2 : Int) : Entry }.sku (mset { dot := { rep := (0 : Int), num := (3 : Int) : Dot }, sku := { data := #[(65 : UInt8)] : ByteArray }, qty := (5 : Int) : Entry }.sku (addV { dot := { rep := (0 : Int), num := (3 : Int) : Dot }, sku := { data := #[(65 : UInt8)] : ByteArray }, qty := (5 : Int) : Entry } (lkp { dot := { rep := (0 : Int), num := (3 : Int) : Dot }, sku := { data := #[(65 : UInt8)] : ByteArray }, qty := (5 : Int) : Entry }.sku [])) []))))) ∧ ((c55 (addV { dot := { rep := (1 : Int), num := (1 : Int) : Dot }, sku := { data := #[(66 : UInt8)] : ByteArray }, qty := (2 : Int) : Entry } (lkp { dot := { rep := (1 : Int), num := (1 : Int) : Dot }, sku := { data := #[(66 : UInt8)] : ByteArray }, qty := (2 : Int) : Entry }.sku (mset { dot := { rep := (0 : Int), num := (3 : Int) : Dot }, sku := { data := #[(65 : UInt8)] : ByteArray }, qty := (5 : Int) : Entry }.sku (addV { dot := { rep := (0 : Int), num := (3 : Int) : Dot }, sku := { data := #[(65 : UInt8)] : ByteArray }, qty := (5 : Int) : Entry } (lkp { dot := { rep := (0 : Int), num := (3 : Int) : Dot }, sku := { data := #[(65 : UInt8)] : ByteArray }, qty := (5 : Int) : Entry }.sku [])) [])))).length = (3 : Nat)) ∧ ((0 : Int) ≤ (1 : Int)) ∧ ((List.map c55 (linesV someL).fst)[Int.toNat (1 : Int)]? = some (c55 (addV { dot := { rep := (1 : Int), num := (1 : Int) : Dot }, sku := { data := #[(66 : UInt8)] : ByteArray }, qty := (2 : Int) : Entry } (lkp { dot := { rep := (1 : Int), num := (1 : Int) : Dot }, sku := { data := #[(66 : UInt8)] : ByteArray }, qty := (2 : Int) : Entry }.sku (mset { dot := { rep := (0 : Int), num := (3 : Int) : Dot }, sku := { data := #[(65 : UInt8)] : ByteArray }, qty := (5 : Int) : Entry }.sku (addV { dot := { rep := (0 : Int), num := (3 : Int) : Dot }, sku := { data := #[(65 : UInt8)] : ByteArray }, qty := (5 : Int) : Entry } (lkp { dot := { rep := (0 : Int), num := (3 : Int) : Dot }, sku := { data := #[(65 : UInt8)] : ByteArray }, qty := (5 : Int) : Entry }.sku [])) []))))) ∧ ((c55 (addV { dot := { rep := (1 : Int), num := (1 : Int) : Dot }, sku := { data := #[(66 : UInt8)] : ByteArray }, qty := (2 : Int) : Entry } (lkp { dot := { rep := (1 : Int), num := (1 : Int) : Dot }, sku := { data := #[(66 : UInt8)] : ByteArray }, qty := (2 : Int) : Entry }.sku (mset { dot := { rep := (0 : Int), num := (3 : Int) : Dot }, sku := { data := #[(65 : UInt8)] : ByteArray }, qty := (5 : Int) : Entry }.sku (addV { dot := { rep := (0 : Int), num := (3 : Int) : Dot }, sku := { data := #[(65 : UInt8)] : ByteArray }, qty := (5 : Int) : Entry } (lkp { dot := { rep := (0 : Int), num := (3 : Int) : Dot }, sku := { data := #[(65 : UInt8)] : ByteArray }, qty := (5 : Int) : Entry }.sku [])) [])))).length = (3 : Nat)) ∧ ((0 : Int) ≤ (1 : Int)) ∧ ((List.map c55 (linesV someL).fst)[Int.toNat (1 : Int)]? = some (c55 (addV { dot := { rep := (1 : Int), num := (1 : Int) : Dot }, sku := { data := #[(66 : UInt8)] : ByteArray }, qty := (2 : Int) : Entry } (lkp { dot := { rep := (1 : Int), num := (1 : Int) : Dot }, sku := { data := #[(66 : UInt8)] : ByteArray }, qty := (2 : Int) : Entry }.sku (mset { dot := { rep := (0 : Int), num := (3 : Int) : Dot }, sku := { data := #[(65 : UInt8)] : ByteArray }, qty := (5 : Int) : Entry }.sku (addV { dot := { rep := (0 : Int), num := (3 : Int) : Dot }, sku := { data := #[(65 : UInt8)] : ByteArray }, qty := (5 : Int) : Entry } (lkp { dot := { rep := (0 : Int), num := (3 : Int) : Dot }, sku := { data := #[(65 : UInt8)] : ByteArray }, qty := (5 : Int) : Entry }.sku [])) []))))) ∧ ((c55 (addV { dot := { rep := (1 : Int), num := (1 : Int) : Dot }, sku := { data := #[(66 : UInt8)] : ByteArray }, qty := (2 : Int) : Entry } (lkp { dot := { rep := (1 : Int), num := (1 : Int) : Dot }, sku := { data := #[(66 : UInt8)] : ByteArray }, qty := (2 : Int) : Entry }.sku (mset { dot := { rep := (0 : Int), num := (3 : Int) : Dot }, sku := { data := #[(65 : UInt8)] : ByteArray }, qty := (5 : Int) : Entry }.sku (addV { dot := { rep := (0 : Int), num := (3 : Int) : Dot }, sku := { data := #[(65 : UInt8)] : ByteArray }, qty := (5 : Int) : Entry } (lkp { dot := { rep := (0 : Int), num := (3 : Int) : Dot }, sku := { data := #[(65 : UInt8)] : ByteArray }, qty := (5 : Int) : Entry }.sku [])) [])))).length = (3 : Nat))) cx [(9, { row := (c55 ((fun x ↦ x.snd) (({ dot := { rep := (0 : Int), num := (3 : Int) : Dot }, sku := { data := #[(65 : UInt8)] : ByteArray }, qty := (5 : Int) : Entry }.sku, addV { dot := { rep := (0 : Int), num := (3 : Int) : Dot }, sku := { data := #[(65 : UInt8)] : ByteArray }, qty := (5 : Int) : Entry } (lkp { dot := { rep := (0 : Int), num := (3 : Int) : Dot }, sku := { data := #[(65 : UInt8)] : ByteArray }, qty := (5 : Int) : Entry }.sku [])).fst, addV { dot := { rep := (1 : Int), num := (4 : Int) : Dot }, sku := { data := #[(65 : UInt8)] : ByteArray }, qty := (1 : Int) : Entry } (lkp { dot := { rep := (1 : Int), num := (4 : Int) : Dot }, sku := { data := #[(65 : UInt8)] : ByteArray }, qty := (1 : Int) : Entry }.sku ((fun m e ↦ mset e.sku (addV e (lkp e.sku m)) m) ((fun m e ↦ mset e.sku (addV e (lkp e.sku m)) m) [] { dot := { rep := (0 : Int), num := (3 : Int) : Dot }, sku := { data := #[(65 : UInt8)] : ByteArray }, qty := (5 : Int) : Entry }) { dot := { rep := (1 : Int), num := (1 : Int) : Dot }, sku := { data := #[(66 : UInt8)] : ByteArray }, qty := (2 : Int) : Entry }))))) }), (16, { row := (c55 ((fun x ↦ x.snd) (({ dot := { rep := (0 : Int), num := (3 : Int) : Dot }, sku := { data := #[(65 : UInt8)] : ByteArray }, qty := (5 : Int) : Entry }.sku, addV { dot := { rep := (0 : Int), num := (3 : Int) : Dot }, sku := { data := #[(65 : UInt8)] : ByteArray }, qty := (5 : Int) : Entry } (lkp { dot := { rep := (0 : Int), num := (3 : Int) : Dot }, sku := { data := #[(65 : UInt8)] : ByteArray }, qty := (5 : Int) : Entry }.sku [])).fst, addV { dot := { rep := (1 : Int), num := (4 : Int) : Dot }, sku := { data := #[(65 : UInt8)] : ByteArray }, qty := (1 : Int) : Entry } (lkp { dot := { rep := (1 : Int), num := (4 : Int) : Dot }, sku := { data := #[(65 : UInt8)] : ByteArray }, qty := (1 : Int) : Entry }.sku ((fun m e ↦ mset e.sku (addV e (lkp e.sku m)) m) ((fun m e ↦ mset e.sku (addV e (lkp e.sku m)) m) [] { dot := { rep := (0 : Int), num := (3 : Int) : Dot }, sku := { data := #[(65 : UInt8)] : ByteArray }, qty := (5 : Int) : Entry }) { dot := { rep := (1 : Int), num := (1 : Int) : Dot }, sku := { data := #[(66 : UInt8)] : ByteArray }, qty := (2 : Int) : Entry }))))) }), (23, { row := (c55 ((fun x ↦ x.snd) (({ dot := { rep := (0 : Int), num := (3 : Int) : Dot }, sku := { data := #[(65 : UInt8)] : ByteArray }, qty := (5 : Int) : Entry }.sku, addV { dot := { rep := (0 : Int), num := (3 : Int) : Dot }, sku := { data := #[(65 : UInt8)] : ByteArray }, qty := (5 : Int) : Entry } (lkp { dot := { rep := (0 : Int), num := (3 : Int) : Dot }, sku := { data := #[(65 : UInt8)] : ByteArray }, qty := (5 : Int) : Entry }.sku [])).fst, addV { dot := { rep := (1 : Int), num := (4 : Int) : Dot }, sku := { data := #[(65 : UInt8)] : ByteArray }, qty := (1 : Int) : Entry } (lkp { dot := { rep := (1 : Int), num := (4 : Int) : Dot }, sku := { data := #[(65 : UInt8)] : ByteArray }, qty := (1 : Int) : Entry }.sku ((fun m e ↦ mset e.sku (addV e (lkp e.sku m)) m) ((fun m e ↦ mset e.sku (addV e (lkp e.sku m)) m) [] { dot := { rep := (0 : Int), num := (3 : Int) : Dot }, sku := { data := #[(65 : UInt8)] : ByteArray }, qty := (5 : Int) : Entry }) { dot := { rep := (1 : Int), num := (1 : Int) : Dot }, sku := { data := #[(66 : UInt8)] : ByteArray }, qty := (2 : Int) : Entry }))))) }), (30, { row := (c55 ((fun x ↦ x.snd) ({ dot := { rep := (1 : Int), num := (1 : Int) : Dot }, sku := { data := #[(66 : UInt8)] : ByteArray }, qty := (2 : Int) : Entry }.sku, addV { dot := { rep := (1 : Int), num := (1 : Int) : Dot }, sku := { data := #[(66 : UInt8)] : ByteArray }, qty := (2 : Int) : Entry } (lkp { dot := { rep := (1 : Int), num := (1 : Int) : Dot }, sku := { data := #[(66 : UInt8)] : ByteArray }, qty := (2 : Int) : Entry }.sku ((fun m e ↦ mset e.sku (addV e (lkp e.sku m)) m) [] { dot := { rep := (0 : Int), num := (3 : Int) : Dot }, sku := { data := #[(65 : UInt8)] : ByteArray }, qty := (5 : Int) : Entry }))))) }), (37, { row := (c55 ((fun x ↦ x.snd) ({ dot := { rep := (1 : Int), num := (1 : Int) : Dot }, sku := { data := #[(66 : UInt8)] : ByteArray }, qty := (2 : Int) : Entry }.sku, addV { dot := { rep := (1 : Int), num := (1 : Int) : Dot }, sku := { data := #[(66 : UInt8)] : ByteArray }, qty := (2 : Int) : Entry } (lkp { dot := { rep := (1 : Int), num := (1 : Int) : Dot }, sku := { data := #[(66 : UInt8)] : ByteArray }, qty := (2 : Int) : Entry }.sku ((fun m e ↦ mset e.sku (addV e (lkp e.sku m)) m) [] { dot := { rep := (0 : Int), num := (3 : Int) : Dot }, sku := { data := #[(65 : UInt8)] : ByteArray }, qty := (5 : Int) : Entry }))))) }), (44, { row := (c55 ((fun x ↦ x.snd) ({ dot := { rep := (1 : Int), num := (1 : Int) : Dot }, sku := { data := #[(66 : UInt8)] : ByteArray }, qty := (2 : Int) : Entry }.sku, addV { dot := { rep := (1 : Int), num := (1 : Int) : Dot }, sku := { data := #[(66 : UInt8)] : ByteArray }, qty := (2 : Int) : Entry } (lkp { dot := { rep := (1 : Int), num := (1 : Int) : Dot }, sku := { data := #[(66 : UInt8)] : ByteArray }, qty := (2 : Int) : Entry }.sku ((fun m e ↦ mset e.sku (addV e (lkp e.sku m)) m) [] { dot := { rep := (0 : Int), num := (3 : Int) : Dot }, sku := { data := #[(65 : UInt8)] : ByteArray }, qty := (5 : Int) : Entry }))))) })] [0] [] ⟨(by omega), (by kernel_rfl), (by kernel_rfl), (by omega), (by kernel_rfl), (by kernel_rfl), (by omega), (by kernel_rfl), (by kernel_rfl), (by omega), (by kernel_rfl), (by kernel_rfl), (by omega), (by kernel_rfl), (by kernel_rfl), (by omega), (by kernel_rfl), (by kernel_rfl)⟩ ?_
  refine sn ?_
  refine st_ret (by kernel_rfl) ?_
  exact q_ret (r := .b (true)) (obl := []) (by kernel_rfl) trivial (AVle.refl _)
  case g0 => decide
theorem con8 (es : List Entry) (s : ByteArray) (hs : es.length * 40 ≤ 140737488351232) : Con Try.prog 8 [.sl (es.map c28), .s s] (.b true) :=
  by
  refine con_lens 0 (c28) (es) (by kernel_rfl) Go.Proofs.Try.func8 (by kernel_rfl) fun hl_0 => ?_
  refine st_con tab_ok (by kernel_rfl) [.tmp 4] 74 Go.Proofs.Try.func8 (by kernel_rfl) (by kernel_rfl) ?_
  intro e0 cx
  refine sq ?_
  refine rg (A := True) cx [] [0, 1] [] trivial ?_
  refine sn ?_
  refine sq ?_
  refine sq ?_
  refine rg (A := _) cx [(0, { val := some (.b (true)) })] [0, 1, 16] [] (con31 ) ?_
  refine sn ?_
  refine st_false (by kernel_rfl) (by kernel_rfl) ?_
  refine st_skip (by kernel_rfl) ?_
  refine sn ?_
  refine sq ?_
  refine rg (A := _) cx [(1, { val := some (.tup [.sl (List.map c55 (linesV es).fst), .i .i64 ((linesV es).snd)]) })] [0, 1, 5, 6] [] (con32 (es) (by (with_reducible assumption))) ?_
  refine sn ?_
  refine sq ?_
  refine rg (A := _) cx [(2, { val := some (.tup [.agg [.s ((lineR es s).fst.sku), .i .i64 ((lineR es s).fst.qty), .i .i64 ((lineR es s).fst.parts)], .i .i64 ((lineR es s).snd)]) })] [0, 1, 5, 6, 7, 8] [7] (con33 (es) (s) (by (with_reducible assumption))) ?_
  refine sn ?_
  refine sq ?_
  refine rg (A := _) cx [(1, { val := some (.tup [.i .i64 ((totR es).fst), .i .i64 ((totR es).snd)]) })] [0, 1, 5, 6, 7, 8, 9, 10] [7] (con34 (es) (by (with_reducible assumption))) ?_
  refine sn ?_
  refine sq ?_
  refine rg (A := _) cx [(1, { val := some (.tup [.sl (List.map c55 (linesV es).fst), .i .i64 ((linesV es).snd)]) })] ([0, 1] ++ List.range' 5 8) [7] (con35 (es) (by (with_reducible assumption))) ?_
  refine sn ?_
  refine sq ?_
  refine sq ?_
  refine rg (A := (AV.b ((linesV es).snd != (linesV es).snd) = AV.b false) ∧ _ ∧ ((AV.b !decide ((linesV es).fst = (linesV es).fst)) = AV.b (decide ¬(linesV es).fst = (linesV es).fst))) cx [(2, { tell := some (.b (false)) }), (6, { val := some (.b (decide ((linesV es).fst = (linesV es).fst))) }), (7, { tell := some (.b (decide ¬(linesV es).fst = (linesV es).fst)) })] [0, 1, 7, 8, 9, 10, 46] [7] ⟨(told_ins), (con36 ((linesV es).fst) ((linesV es).fst)), (told_notd)⟩ ?_
  refine sn ?_
  refine st_dec (¬(linesV es).fst = (linesV es).fst) (by kernel_rfl) (by kernel_rfl) (fun h_0 => absurd h_0 (fun hn => hn rfl)) (fun h_0 => ?_)
  refine st_skip (by kernel_rfl) ?_
  refine sn ?_
  refine sq ?_
  refine rg (A := _) cx [(2, { val := some (.tup [.agg [.s ((lineR es s).fst.sku), .i .i64 ((lineR es s).fst.qty), .i .i64 ((lineR es s).fst.parts)], .i .i64 ((lineR es s).snd)]) })] [0, 7, 8, 9, 10, 13, 12] [7, 13] (con37 (es) (s) (by (with_reducible assumption))) ?_
  refine sn ?_
  refine sq ?_
  refine sq ?_
  refine rg (A := (AV.b ((lineR es s).snd != (lineR es s).snd) = AV.b false) ∧ (AggEq Try.prog (55 : Nat) [AV.s (lineR es s).fst.sku, AV.i IntKind.i64 (lineR es s).fst.qty, AV.i IntKind.i64 (lineR es s).fst.parts] [AV.s (lineR es s).fst.sku, AV.i IntKind.i64 (lineR es s).fst.qty, AV.i IntKind.i64 (lineR es s).fst.parts] !false)) cx [(2, { tell := some (.b (false)) }), (6, { val := some (.b (false)) })] [0, 9, 10, 60] [] ⟨(told_ins), (aggEq_true (eq55 (lineR es s).fst (lineR es s).fst) (Eq.refl (lineR es s).fst))⟩ ?_
  refine sn ?_
  refine st_false (by kernel_rfl) (by kernel_rfl) ?_
  refine st_skip (by kernel_rfl) ?_
  refine sn ?_
  refine sq ?_
  refine rg (A := _) cx [(1, { val := some (.tup [.i .i64 ((totR es).fst), .i .i64 ((totR es).snd)]) })] [9, 10, 14, 12] [] (con38 (es) (by (with_reducible assumption))) ?_
  refine sn ?_
  refine sq ?_
  refine rg (A := (AV.b ((totR es).snd == (totR es).snd) = AV.b true) ∧ (AV.b ((totR es).fst == (totR es).fst) = AV.b true)) cx [(2, { tell := some (.b (true)) }), (6, { tell := some (.b (true)) })] [4] [] ⟨(told_ies), (told_ies)⟩ ?_
  refine sn ?_
  refine st_ret (by kernel_rfl) ?_
  exact q_ret (r := .b (true)) (obl := []) (by kernel_rfl) trivial (AVle.refl _)
end Go.Proofs.Ytjngmlkaijpbgaa
