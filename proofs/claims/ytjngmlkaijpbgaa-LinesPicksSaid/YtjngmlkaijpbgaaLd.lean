/- Ld: walks, written by a program of this claim's own, and what each function hands back. Conditions: none. -/
import Derived.Test.YtjngmlkaijpbgaaLc
set_option linter.unusedVariables false
set_option linter.unusedSimpArgs false
namespace Go.Proofs.Ytjngmlkaijpbgaa
open Go.E
set_option maxRecDepth 100000
set_option maxHeartbeats 4000000
theorem dLt_trans {a b c : Dot} (h1 : dLt a b = true) (h2 : dLt b c = true) : dLt a c = true := by
  unfold dLt at *; rw [decide_eq_true_iff] at *; omega
theorem okL_at {es : List Entry} (h : okL es = true) {i : Nat} (hi : i < es.length) : entE es[i]! = 0 ∧ (i = 0 ∨ dLt es[i - 1]!.dot es[i]!.dot = true) :=
  (okAt_iff es i).1 ((allUp_iff _ _).1 h i hi)
theorem okL_lt {es : List Entry} (h : okL es = true) : ∀ j i, i < j → j < es.length → dLt es[i]!.dot es[j]!.dot = true
  | 0, i, h1, _ => by omega
  | j + 1, i, h1, h2 => by
    have k := (okL_at h h2).2
    rcases k with k | k
    · omega
    · have e : j + 1 - 1 = j := rfl
      rw [e] at k
      by_cases c : i = j
      · rw [c]; exact k
      · exact dLt_trans (okL_lt h j i (by omega) (by omega)) k
theorem okL_reps {es : List Entry} (h : okL es = true) : es.Pairwise fun a b => a.dot.rep ≤ b.dot.rep := by
  rw [List.pairwise_iff_getElem]
  intro i j hi hj hij
  have := okL_lt h j i hij hj
  rw [getElem!_pos es i hi, getElem!_pos es j hj] at this
  unfold dLt at this; rw [decide_eq_true_iff] at this; omega
theorem entE_rep {e : Entry} (h : entE e = 0) : 0 ≤ e.dot.rep ∧ e.dot.rep < 16 ∧ 1 ≤ e.dot.num ∧ e.dot.num ≤ 1000000000 ∧ good e.sku = true ∧ 1 ≤ e.qty ∧ e.qty ≤ 1000000 := by
  unfold entE at h
  split at h
  · omega
  · split at h
    · omega
    · split at h
      · omega
      · split at h
        · omega
        · rename_i g _; exact ⟨by omega, by omega, by omega, by omega, by simpa using g, by omega, by omega⟩
theorem okL_mem {es : List Entry} (h : okL es = true) {e : Entry} (he : e ∈ es) : entE e = 0 := by
  obtain ⟨i, hi, rfl⟩ := List.getElem_of_mem he
  have := (okL_at h hi).1
  rwa [getElem!_pos es i hi] at this
theorem filter_reps (p : Entry → Bool) (n : Int) : ∀ es : List Entry, es.Pairwise (fun a b => a.dot.rep ≤ b.dot.rep) →
    es.filter (fun e => p e && decide (e.dot.rep < n + 1)) = es.filter (fun e => p e && decide (e.dot.rep < n)) ++ es.filter (fun e => p e && decide (e.dot.rep = n))
  | [], _ => rfl
  | x :: es, h => by
    rw [List.pairwise_cons] at h
    have ih := filter_reps p n es h.2
    by_cases hp : p x = true
    · by_cases c1 : x.dot.rep < n
      · rw [List.filter_cons_of_pos (by simp [hp]; omega), List.filter_cons_of_pos (by simp [hp]; omega), List.filter_cons_of_neg (by simp; intro _; omega), ih]; rfl
      · have e1 : es.filter (fun e => p e && decide (e.dot.rep < n)) = [] := by
          rw [List.filter_eq_nil_iff]; intro e he; have := h.1 e he; simp; intro _; omega
        by_cases c2 : x.dot.rep = n
        · rw [List.filter_cons_of_pos (by simp [hp]; omega), List.filter_cons_of_neg (by simp; intro _; omega), List.filter_cons_of_pos (by simp [hp]; omega), ih, e1]; rfl
        · rw [List.filter_cons_of_neg (by simp; intro _; omega), List.filter_cons_of_neg (by simp; intro _; omega), List.filter_cons_of_neg (by simp; intro _; omega), ih]
    · rw [List.filter_cons_of_neg (by simp [hp]), List.filter_cons_of_neg (by simp [hp]), List.filter_cons_of_neg (by simp [hp]), ih]
def allOwn (es : List Entry) (sku : ByteArray) : Nat → List Entry
  | 0 => []
  | n + 1 => allOwn es sku n ++ (ownV es n sku).1
theorem allOwn_ok {es : List Entry} {sku : ByteArray} (h : lstE es = 0) (g : good sku = true) : ∀ n : Nat, n ≤ 16 → allOwn es sku n = es.filter (fun e => decide (e.sku = sku) && decide (e.dot.rep < (n : Int)))
  | 0, _ => by
    symm
    rw [allOwn, List.filter_eq_nil_iff]
    intro e he
    have := (entE_rep (okL_mem (okL_of h) he)).1
    simp; intro _; omega
  | n + 1, hn => by
    rw [allOwn, allOwn_ok h g n (by omega), ownV_ok h (by omega) g]
    have := filter_reps (fun e => decide (e.sku = sku)) n es (okL_reps (okL_of h))
    rw [show ((n + 1 : Nat) : Int) = (n : Int) + 1 by omega, this]
    congr 1
    refine List.filter_congr fun e _ => ?_
    rw [Bool.decide_and]
theorem allOwn_bad {es : List Entry} {sku : ByteArray} (h : ¬ (lstE es = 0 ∧ good sku = true)) : ∀ n : Nat, n ≤ 16 → allOwn es sku n = []
  | 0, _ => rfl
  | n + 1, hn => by
    rw [allOwn, allOwn_bad h n (by omega)]
    by_cases h1 : lstE es = 0
    · rw [ownV_sku h1 (by omega) (fun g => h ⟨h1, g⟩)]; rfl
    · rw [ownV_form h1]; rfl
theorem allOwn_len (es : List Entry) (sku : ByteArray) (n : Nat) (hn : n ≤ 16) : (allOwn es sku n).length ≤ es.length := by
  by_cases h : lstE es = 0 ∧ good sku = true
  · rw [allOwn_ok h.1 h.2 n hn]; exact List.length_filter_le _ _
  · rw [allOwn_bad h n hn]; simp
theorem allOwn_16 (es : List Entry) (sku : ByteArray) : allOwn es sku 16 = (ofV es sku).1 := by
  by_cases h : lstE es = 0 ∧ good sku = true
  · rw [allOwn_ok h.1 h.2 16 (by omega), ofV_ok h.1 h.2]
    refine List.filter_congr fun e he => ?_
    have := (entE_rep (okL_mem (okL_of h.1) he)).2.1
    rw [decide_eq_true (show e.dot.rep < ((16 : Nat) : Int) by omega), Bool.and_true]
  · rw [allOwn_bad h 16 (by omega)]
    by_cases h1 : lstE es = 0
    · rw [ofV_sku h1 (fun g => h ⟨h1, g⟩)]
    · rw [ofV_form h1]
theorem own_err (es : List Entry) (sku : ByteArray) (r : Int) (h0 : 0 ≤ r) (h1 : r < 16) : (ownV es r sku).2 = (ofV es sku).2 := by
  by_cases h : lstE es = 0
  · rw [own_of h (by omega)]
  · rw [ownV_form h, ofV_form h]
theorem own_mem (es : List Entry) (sku : ByteArray) (r : Int) (e : Entry) (he : e ∈ (ownV es r sku).1) : e.dot.rep = r ∧ e.sku = sku := by
  unfold ownV at he
  split at he
  · split at he
    · split at he
      · have := (List.mem_filter.1 he).2
        rw [decide_eq_true_iff] at this
        exact ⟨this.2, this.1⟩
      · simp at he
    · simp at he
  · simp at he
def inv12 (es : List Entry) (sku : ByteArray) (rep : Int) (all : List Entry) : Prop := 0 ≤ rep ∧ rep ≤ 16 ∧ all = allOwn es sku rep.toNat
def dec12 (rep : Int) (all : List Entry) : Nat := (16 - rep).toNat
def inv12b (es : List Entry) (sku : ByteArray) (rep i : Int) (all : List Entry) : Prop := 0 ≤ i ∧ i ≤ (ownV es rep sku).1.length ∧ all = allOwn es sku rep.toNat ++ (ownV es rep sku).1.take i.toNat ∧ all.length ≤ es.length
def dec12b (es : List Entry) (sku : ByteArray) (rep i : Int) (all : List Entry) : Nat := ((ownV es rep sku).1.length - i).toNat
theorem walk4 (c : Case) (hs : c.a.length * (40 : Nat) ≤ (140737488351232 : Nat))
    (g0 : someL.length * (40 : Nat) ≤ (140737488351232 : Nat))
    (g1 : ¬¬(ofV c.a c.sku).fst = (ofV c.a c.sku).fst → AV.b (decide ((ownV c.a c.rep c.sku).fst = (ownV c.a c.rep c.sku).fst)) = AV.b true) :
    Con Try.prog (4 : FuncId) [AV.agg (c38 c)] (AV.b true) := by
  refine st_con tab_ok (by kernel_rfl) [.tmp 2] 81 Go.Proofs.Try.func4 (by kernel_rfl) (by kernel_rfl) ?_
  intro e0 cx
  refine st_seq (by kernel_rfl) ?_
  refine st_reg (A := True) (σ' := ⟨[(1, .ptr (1) (0) (0) (0))], [(1, ⟨0, 38, .var [.sl (List.map c28 c.a), .sl (List.map c28 c.b), .sl (List.map c3 c.p.vec), .sl (List.map c81 c.p.cloud), .i .i64 (c.d.rep), .i .i64 (c.d.num), .i .i64 (c.rep), .s (c.sku)]⟩)]⟩) cx [] [1] [1] (by kernel_rfl) (by kernel_rfl) trivial ?_
  refine q_seq_normal ?_
  refine st_seq (by kernel_rfl) ?_
  refine st_reg (A := (Con Try.prog (17 : FuncId) [] (AV.sl (List.map c28 someL))) ∧ (Con Try.prog (20 : FuncId) [AV.sl (List.map c28 someL), AV.i IntKind.i64 (1 : Int), AV.s { data := #[(65 : UInt8)] : ByteArray }] (AV.tup [AV.sl (List.map c28 (ownV someL (1 : Int) { data := #[(65 : UInt8)] : ByteArray }).fst), AV.i IntKind.i64 (ownV someL (1 : Int) { data := #[(65 : UInt8)] : ByteArray }).snd]))) (σ' := ⟨[(1, .ptr (1) (0) (0) (0)), (3, .sl (List.map c28 (ownV someL (1 : Int) { data := #[(65 : UInt8)] : ByteArray }).fst)), (4, .i .i64 ((0 : Int)))], [(1, ⟨0, 38, .var [.sl (List.map c28 c.a), .sl (List.map c28 c.b), .sl (List.map c3 c.p.vec), .sl (List.map c81 c.p.cloud), .i .i64 (c.d.rep), .i .i64 (c.d.num), .i .i64 (c.rep), .s (c.sku)]⟩)]⟩) cx [(0, { val := some (.sl (List.map c28 someL)) }), (1, { val := some (.tup [.sl (List.map c28 (ownV someL (1 : Int) { data := #[(65 : UInt8)] : ByteArray }).fst), .i .i64 ((0 : Int))]) })] [1, 3, 4] [1] (by kernel_rfl) (by kernel_rfl) ⟨(con17 ), (con20 (someL) ((1 : Int)) ({ data := #[(65 : UInt8)] : ByteArray }) g0)⟩ ?_
  refine q_seq_normal ?_
  refine st_seq (by kernel_rfl) ?_
  refine st_seq (by kernel_rfl) ?_
  refine st_reg (A := ((0 : Int) ≤ (0 : Int)) ∧ ((List.map c28 (ownV someL (1 : Int) { data := #[(65 : UInt8)] : ByteArray }).fst)[Int.toNat (0 : Int)]? = some (c28 { dot := { rep := (1 : Int), num := (4 : Int) : Dot }, sku := { data := #[(65 : UInt8)] : ByteArray }, qty := (1 : Int) : Entry })) ∧ ((c28 { dot := { rep := (1 : Int), num := (4 : Int) : Dot }, sku := { data := #[(65 : UInt8)] : ByteArray }, qty := (1 : Int) : Entry }).length = (4 : Nat))) (σ' := ⟨[(1, .ptr (1) (0) (0) (0)), (27, .b (false))], [(1, ⟨0, 38, .var [.sl (List.map c28 c.a), .sl (List.map c28 c.b), .sl (List.map c3 c.p.vec), .sl (List.map c81 c.p.cloud), .i .i64 (c.d.rep), .i .i64 (c.d.num), .i .i64 (c.rep), .s (c.sku)]⟩)]⟩) cx [(9, { row := (c28 { dot := { rep := (1 : Int), num := (4 : Int) : Dot }, sku := { data := #[(65 : UInt8)] : ByteArray }, qty := (1 : Int) : Entry }) })] [1, 27] [1] (by kernel_rfl) (by kernel_rfl) ⟨(by omega), (by kernel_rfl), (by kernel_rfl)⟩ ?_
  refine q_seq_normal ?_
  refine st_false (by kernel_rfl) (by kernel_rfl) ?_
  refine st_skip (by kernel_rfl) ?_
  refine q_seq_normal ?_
  refine st_seq (by kernel_rfl) ?_
  have hl_0 := (rng_ofV c.a)
  have hl_1 := (rng_ofV c.a c.sku)
  refine st_reg (A := (Con Try.prog (21 : FuncId) [AV.sl (List.map c28 c.a), AV.s c.sku] (AV.tup [AV.sl (List.map c28 (ofV c.a c.sku).fst), AV.i IntKind.i64 (ofV c.a c.sku).snd]))) (σ' := ⟨[(1, .ptr (1) (0) (0) (0)), (5, .sl (List.map c28 (ofV c.a c.sku).fst)), (6, .i .i64 ((ofV c.a c.sku).snd))], [(1, ⟨0, 38, .var [.sl (List.map c28 c.a), .sl (List.map c28 c.b), .sl (List.map c3 c.p.vec), .sl (List.map c81 c.p.cloud), .i .i64 (c.d.rep), .i .i64 (c.d.num), .i .i64 (c.rep), .s (c.sku)]⟩)]⟩) cx [(4, { val := some (.tup [.sl (List.map c28 (ofV c.a c.sku).fst), .i .i64 ((ofV c.a c.sku).snd)]) })] [1, 5, 6] [1] (by kernel_rfl) (by kernel_rfl) (con21 (c.a) (c.sku) (by (with_reducible assumption))) ?_
  refine q_seq_normal ?_
  refine st_seq (by kernel_rfl) ?_
  refine st_reg (A := (Con Try.prog (22 : FuncId) [AV.sl (List.map c28 c.a), AV.i IntKind.i64 c.rep, AV.s c.sku] (AV.tup [AV.sl (List.map c28 (ownV c.a c.rep c.sku).fst), AV.i IntKind.i64 (ownV c.a c.rep c.sku).snd]))) (σ' := ⟨[(1, .ptr (1) (0) (0) (0)), (5, .sl (List.map c28 (ofV c.a c.sku).fst)), (6, .i .i64 ((ofV c.a c.sku).snd)), (7, .sl (List.map c28 (ownV c.a c.rep c.sku).fst)), (8, .i .i64 ((ownV c.a c.rep c.sku).snd))], [(1, ⟨0, 38, .var [.sl (List.map c28 c.a), .sl (List.map c28 c.b), .sl (List.map c3 c.p.vec), .sl (List.map c81 c.p.cloud), .i .i64 (c.d.rep), .i .i64 (c.d.num), .i .i64 (c.rep), .s (c.sku)]⟩)]⟩) cx [(6, { val := some (.tup [.sl (List.map c28 (ownV c.a c.rep c.sku).fst), .i .i64 ((ownV c.a c.rep c.sku).snd)]) })] [1, 5, 6, 7, 8] [1] (by kernel_rfl) (by kernel_rfl) (con22 (c.a) (c.rep) (c.sku) (by (with_reducible assumption))) ?_
  refine q_seq_normal ?_
  refine st_seq (by kernel_rfl) ?_
  refine st_reg (A := (Con Try.prog (23 : FuncId) [AV.sl (List.map c28 c.a), AV.s c.sku] (AV.tup [AV.sl (List.map c28 (ofV c.a c.sku).fst), AV.i IntKind.i64 (ofV c.a c.sku).snd]))) (σ' := ⟨[(1, .ptr (1) (0) (0) (0)), (5, .sl (List.map c28 (ofV c.a c.sku).fst)), (6, .i .i64 ((ofV c.a c.sku).snd)), (7, .sl (List.map c28 (ownV c.a c.rep c.sku).fst)), (8, .i .i64 ((ownV c.a c.rep c.sku).snd)), (3, .sl (List.map c28 (ofV c.a c.sku).fst)), (4, .i .i64 ((ofV c.a c.sku).snd))], [(1, ⟨0, 38, .var [.sl (List.map c28 c.a), .sl (List.map c28 c.b), .sl (List.map c3 c.p.vec), .sl (List.map c81 c.p.cloud), .i .i64 (c.d.rep), .i .i64 (c.d.num), .i .i64 (c.rep), .s (c.sku)]⟩)]⟩) cx [(4, { val := some (.tup [.sl (List.map c28 (ofV c.a c.sku).fst), .i .i64 ((ofV c.a c.sku).snd)]) })] [1, 5, 6, 7, 8, 3, 4] [1] (by kernel_rfl) (by kernel_rfl) (con23 (c.a) (c.sku) (by (with_reducible assumption))) ?_
  refine q_seq_normal ?_
  refine st_seq (by kernel_rfl) ?_
  refine st_seq (by kernel_rfl) ?_
  refine st_reg (A := (AV.b ((ofV c.a c.sku).snd != (ofV c.a c.sku).snd) = AV.b false) ∧ (Con Try.prog (24 : FuncId) [AV.sl (List.map c28 (ofV c.a c.sku).fst), AV.sl (List.map c28 (ofV c.a c.sku).fst)] (AV.b (decide ((ofV c.a c.sku).fst = (ofV c.a c.sku).fst)))) ∧ ((AV.b !decide ((ofV c.a c.sku).fst = (ofV c.a c.sku).fst)) = AV.b (decide ¬(ofV c.a c.sku).fst = (ofV c.a c.sku).fst))) (σ' := ⟨[(1, .ptr (1) (0) (0) (0)), (7, .sl (List.map c28 (ownV c.a c.rep c.sku).fst)), (8, .i .i64 ((ownV c.a c.rep c.sku).snd)), (62, .b (decide ¬(ofV c.a c.sku).fst = (ofV c.a c.sku).fst))], [(1, ⟨0, 38, .var [.sl (List.map c28 c.a), .sl (List.map c28 c.b), .sl (List.map c3 c.p.vec), .sl (List.map c81 c.p.cloud), .i .i64 (c.d.rep), .i .i64 (c.d.num), .i .i64 (c.rep), .s (c.sku)]⟩)]⟩) cx [(2, { tell := some (.b (false)) }), (6, { val := some (.b (decide ((ofV c.a c.sku).fst = (ofV c.a c.sku).fst))) }), (7, { tell := some (.b (decide ¬(ofV c.a c.sku).fst = (ofV c.a c.sku).fst)) })] [1, 7, 8, 62] [1] (by kernel_rfl) (by kernel_rfl) ⟨(told_ins), (con24 ((ofV c.a c.sku).fst) ((ofV c.a c.sku).fst)), (told_notd)⟩ ?_
  refine q_seq_normal ?_
  refine st_dec (¬(ofV c.a c.sku).fst = (ofV c.a c.sku).fst) (by kernel_rfl) (by kernel_rfl) (fun h_2 => absurd h_2 (fun hn => hn rfl)) (fun h_2 => ?_)
  refine st_skip (by kernel_rfl) ?_
  refine q_seq_normal ?_
  refine st_seq (by kernel_rfl) ?_
  refine st_reg (A := (Con Try.prog (20 : FuncId) [AV.sl (List.map c28 c.a), AV.i IntKind.i64 c.rep, AV.s c.sku] (AV.tup [AV.sl (List.map c28 (ownV c.a c.rep c.sku).fst), AV.i IntKind.i64 (ownV c.a c.rep c.sku).snd]))) (σ' := ⟨[(7, .sl (List.map c28 (ownV c.a c.rep c.sku).fst)), (8, .i .i64 ((ownV c.a c.rep c.sku).snd)), (3, .sl (List.map c28 (ownV c.a c.rep c.sku).fst)), (4, .i .i64 ((ownV c.a c.rep c.sku).snd))], []⟩) cx [(6, { val := some (.tup [.sl (List.map c28 (ownV c.a c.rep c.sku).fst), .i .i64 ((ownV c.a c.rep c.sku).snd)]) })] [7, 8, 3, 4] [] (by kernel_rfl) (by kernel_rfl) (con20 (c.a) (c.rep) (c.sku) (by (with_reducible assumption))) ?_
  refine q_seq_normal ?_
  refine st_seq (by kernel_rfl) ?_
  refine st_reg (A := (AV.b ((ownV c.a c.rep c.sku).snd == (ownV c.a c.rep c.sku).snd) = AV.b true) ∧ (Con Try.prog (24 : FuncId) [AV.sl (List.map c28 (ownV c.a c.rep c.sku).fst), AV.sl (List.map c28 (ownV c.a c.rep c.sku).fst)] (AV.b (decide ((ownV c.a c.rep c.sku).fst = (ownV c.a c.rep c.sku).fst))))) (σ' := ⟨[(2, .b (decide ((ownV c.a c.rep c.sku).fst = (ownV c.a c.rep c.sku).fst)))], []⟩) cx [(2, { tell := some (.b (true)) }), (6, { val := some (.b (decide ((ownV c.a c.rep c.sku).fst = (ownV c.a c.rep c.sku).fst))) })] [2] [] (by kernel_rfl) (by kernel_rfl) ⟨(told_ies), (con24 ((ownV c.a c.rep c.sku).fst) ((ownV c.a c.rep c.sku).fst))⟩ ?_
  refine q_seq_normal ?_
  refine st_ret (by kernel_rfl) ?_
  exact q_ret (r := .b (decide ((ownV c.a c.rep c.sku).fst = (ownV c.a c.rep c.sku).fst))) (obl := []) (by kernel_rfl) trivial (AVle.eq (g1 h_2))
theorem con4 (c : Case) (hs : c.a.length * 40 ≤ 140737488351232) : Con Try.prog 4 [.agg (c38 c)] (.b true) :=
  walk4 c hs (by decide) (fun _ => by rw [decide_eq_true rfl])
theorem rng_ownV (es : List Entry) (rep : Int) (sku : ByteArray) : (ownV es rep sku).1.length ≤ es.length := by
  unfold ownV
  split
  · split
    · split
      · exact List.length_filter_le _ _
      · simp
    · simp
  · simp
theorem owners_len (es : List Entry) (sku : ByteArray) {rep i : Int} (h0 : 0 ≤ rep) (h1 : rep < 16) : (allOwn es sku rep.toNat ++ (ownV es rep sku).1.take i.toNat).length ≤ es.length := by
  have h := allOwn_len es sku (rep.toNat + 1) (by omega)
  rw [allOwn, show ((rep.toNat : Nat) : Int) = rep by omega, List.length_append] at h
  rw [List.length_append, List.length_take]
  omega
theorem walk5 (es : List Entry) (sku : ByteArray) (hs : es.length * (40 : Nat) ≤ (140737488351232 : Nat)) (F1 : ∀ (r : Int), (0 : Int) ≤ r → r < (16 : Int) → (ownV es r sku).snd = (ofV es sku).snd) (F2 : ∀ (r i : Int), (0 : Int) ≤ i → i < (↑(ownV es r sku).fst.length : Int) → (ownV es r sku).fst[i.toNat]!.dot.rep = r) (F3 : ∀ (r i : Int), (0 : Int) ≤ i → i < (↑(ownV es r sku).fst.length : Int) → (ownV es r sku).fst[i.toNat]!.sku = sku)
    (g0 : someL.length * (40 : Nat) ≤ (140737488351232 : Nat))
    (g1 : inv12 es sku (0 : Int) [])
    (g2 : ∀ (rep_4 : Int) (all_5 : List Entry), (0 : Int) ≤ rep_4 → rep_4 ≤ (16 : Int) → all_5 = allOwn es sku rep_4.toNat → rep_4 < (16 : Int) → ¬¬(ownV es rep_4 sku).snd = (ofV es sku).snd → inv12b es sku rep_4 (0 : Int) all_5)
    (g3 : ∀ (rep_4 : Int) (all_5 : List Entry), (0 : Int) ≤ rep_4 → rep_4 ≤ (16 : Int) → all_5 = allOwn es sku rep_4.toNat → rep_4 < (16 : Int) → ¬¬(ownV es rep_4 sku).snd = (ofV es sku).snd → ∀ (i_15 : Int) (all_16 : List Entry), (0 : Int) ≤ i_15 → i_15 ≤ (↑(ownV es rep_4 sku).fst.length : Int) → all_16 = allOwn es sku rep_4.toNat ++ List.take i_15.toNat (ownV es rep_4 sku).fst → all_16.length ≤ es.length → i_15 < (↑(ownV es rep_4 sku).fst.length : Int) → ¬¬(ownV es rep_4 sku).fst[i_15.toNat]!.dot.rep = rep_4 → ¬¬(ownV es rep_4 sku).fst[i_15.toNat]!.sku = sku → inv12b es sku rep_4 (i_15 + (1 : Int)) (all_16 ++ [(ownV es rep_4 sku).fst[i_15.toNat]!]))
    (g4 : ∀ (rep_4 : Int) (all_5 : List Entry), (0 : Int) ≤ rep_4 → rep_4 ≤ (16 : Int) → all_5 = allOwn es sku rep_4.toNat → rep_4 < (16 : Int) → ¬¬(ownV es rep_4 sku).snd = (ofV es sku).snd → ∀ (i_15 : Int) (all_16 : List Entry), (0 : Int) ≤ i_15 → i_15 ≤ (↑(ownV es rep_4 sku).fst.length : Int) → all_16 = allOwn es sku rep_4.toNat ++ List.take i_15.toNat (ownV es rep_4 sku).fst → all_16.length ≤ es.length → ¬i_15 < (↑(ownV es rep_4 sku).fst.length : Int) → inv12 es sku (rep_4 + (1 : Int)) all_16)
    (g5 : ∀ (rep_4 : Int) (all_5 : List Entry), (0 : Int) ≤ rep_4 → rep_4 ≤ (16 : Int) → all_5 = allOwn es sku rep_4.toNat → ¬rep_4 < (16 : Int) → ¬(ofV es sku).snd = (0 : Int) → AV.b (decide ((↑(ofV es sku).fst.length : Int) = (0 : Int) ∧ (↑all_5.length : Int) = (0 : Int))) = AV.b true)
    (g6 : ∀ (rep_4 : Int) (all_5 : List Entry), (0 : Int) ≤ rep_4 → rep_4 ≤ (16 : Int) → all_5 = allOwn es sku rep_4.toNat → ¬rep_4 < (16 : Int) → ¬¬(ofV es sku).snd = (0 : Int) → AV.b (decide (all_5 = (ofV es sku).fst)) = AV.b true) :
    Con Try.prog (5 : FuncId) [AV.sl (List.map c28 es), AV.s sku] (AV.b true) := by
  refine con_lens 0 (c28) (es) (by kernel_rfl) Go.Proofs.Try.func5 (by kernel_rfl) fun hl_0 => ?_
  refine st_con tab_ok (by kernel_rfl) [.tmp 4] 80 Go.Proofs.Try.func5 (by kernel_rfl) (by kernel_rfl) ?_
  intro e0 cx
  refine st_seq (by kernel_rfl) ?_
  refine st_reg (A := True) (σ' := ⟨[(0, .sl (List.map c28 es)), (1, .s (sku))], []⟩) cx [] [0, 1] [] (by kernel_rfl) (by kernel_rfl) trivial ?_
  refine q_seq_normal ?_
  refine st_seq (by kernel_rfl) ?_
  have hl_0 := (rng_ofV someL)
  have hl_1 := (rng_ofV someL { data := #[(65 : UInt8)] : ByteArray })
  refine st_reg (A := (Con Try.prog (17 : FuncId) [] (AV.sl (List.map c28 someL))) ∧ (Con Try.prog (23 : FuncId) [AV.sl (List.map c28 someL), AV.s { data := #[(65 : UInt8)] : ByteArray }] (AV.tup [AV.sl (List.map c28 (ofV someL { data := #[(65 : UInt8)] : ByteArray }).fst), AV.i IntKind.i64 (ofV someL { data := #[(65 : UInt8)] : ByteArray }).snd]))) (σ' := ⟨[(0, .sl (List.map c28 es)), (1, .s (sku)), (5, .sl (List.map c28 (ofV someL { data := #[(65 : UInt8)] : ByteArray }).fst)), (6, .i .i64 ((0 : Int)))], []⟩) cx [(0, { val := some (.sl (List.map c28 someL)) }), (1, { val := some (.tup [.sl (List.map c28 (ofV someL { data := #[(65 : UInt8)] : ByteArray }).fst), .i .i64 ((0 : Int))]) })] [0, 1, 5, 6] [] (by kernel_rfl) (by kernel_rfl) ⟨(con17 ), (con23 (someL) ({ data := #[(65 : UInt8)] : ByteArray }) g0)⟩ ?_
  refine q_seq_normal ?_
  refine st_seq (by kernel_rfl) ?_
  refine st_seq (by kernel_rfl) ?_
  refine st_reg (A := True) (σ' := ⟨[(0, .sl (List.map c28 es)), (1, .s (sku)), (24, .b (false))], []⟩) cx [] [0, 1, 24] [] (by kernel_rfl) (by kernel_rfl) trivial ?_
  refine q_seq_normal ?_
  refine st_false (by kernel_rfl) (by kernel_rfl) ?_
  refine st_skip (by kernel_rfl) ?_
  refine q_seq_normal ?_
  refine st_seq (by kernel_rfl) ?_
  have hl_2 := (rng_ofV es)
  have hl_3 := (rng_ofV es sku)
  refine st_reg (A := (Con Try.prog (23 : FuncId) [AV.sl (List.map c28 es), AV.s sku] (AV.tup [AV.sl (List.map c28 (ofV es sku).fst), AV.i IntKind.i64 (ofV es sku).snd]))) (σ' := ⟨[(0, .sl (List.map c28 es)), (1, .s (sku)), (5, .sl (List.map c28 (ofV es sku).fst)), (6, .i .i64 ((ofV es sku).snd))], []⟩) cx [(2, { val := some (.tup [.sl (List.map c28 (ofV es sku).fst), .i .i64 ((ofV es sku).snd)]) })] [0, 1, 5, 6] [] (by kernel_rfl) (by kernel_rfl) (con23 (es) (sku) (by (with_reducible assumption))) ?_
  refine q_seq_normal ?_
  refine st_seq (by kernel_rfl) ?_
  refine st_reg (A := True) (σ' := ⟨[(0, .sl (List.map c28 es)), (1, .s (sku)), (5, .sl (List.map c28 (ofV es sku).fst)), (6, .i .i64 ((ofV es sku).snd)), (7, .nl)], []⟩) cx [] [0, 1, 5, 6, 7] [] (by kernel_rfl) (by kernel_rfl) trivial ?_
  refine q_seq_normal ?_
  refine st_seq (by kernel_rfl) ?_
  refine st_seq (by kernel_rfl) ?_
  refine st_reg (A := True) (σ' := ⟨[(0, .sl (List.map c28 es)), (1, .s (sku)), (5, .sl (List.map c28 (ofV es sku).fst)), (6, .i .i64 ((ofV es sku).snd)), (7, .nl), (8, .i .i64 ((0 : Int)))], []⟩) cx [] [0, 1, 5, 6, 7, 8] [] (by kernel_rfl) (by kernel_rfl) trivial ?_
  refine q_seq_normal ?_
  refine st_block 0 (by kernel_rfl) ?_
  refine awp_adopt 7 1007 28 4 (σ' := ⟨[(0, .sl (List.map c28 es)), (1, .s (sku)), (5, .sl (List.map c28 (ofV es sku).fst)), (6, .i .i64 ((ofV es sku).snd)), (7, .own 1007 0), (8, .i .i64 ((0 : Int)))], [(1007, ⟨0, 28, .row 4 (List.map c28 [])⟩)]⟩) (by kernel_rfl) ?_
  refine st_loop (X := Int × List Entry) (fun x => ⟨[(0, .sl (List.map c28 es)), (1, .s (sku)), (5, .sl (List.map c28 (ofV es sku).fst)), (6, .i .i64 ((ofV es sku).snd)), (7, .own 1007 0), (8, .i .i64 (x.fst))], [(1007, ⟨0, 28, .row 4 (List.map c28 x.snd)⟩)]⟩) (fun x ↦ dec12 x.fst x.snd) (fun x ↦ inv12 es sku x.fst x.snd) [0, 1, 5, 6, 7, 8] [1007] (((0 : Int), [])) (by kernel_rfl) (by kernel_rfl) g1 ?_
  rintro ⟨rep_4, all_5⟩ h_6
  obtain ⟨h_7, h_8, h_9⟩ : (0 : Int) ≤ rep_4 ∧ rep_4 ≤ (16 : Int) ∧ all_5 = allOwn es sku rep_4.toNat := h_6
  refine st_seq (by kernel_rfl) ?_
  refine st_seq (by kernel_rfl) ?_
  refine st_reg (A := (AV.b (decide (rep_4 < (16 : Int))) = AV.b (decide (rep_4 < (16 : Int))))) (σ' := ⟨[(0, .sl (List.map c28 es)), (1, .s (sku)), (5, .sl (List.map c28 (ofV es sku).fst)), (6, .i .i64 ((ofV es sku).snd)), (7, .own 1007 0), (8, .i .i64 (rep_4)), (32, .b (decide (rep_4 < (16 : Int))))], [(1007, ⟨0, 28, .row 4 (List.map c28 all_5)⟩)]⟩) cx [(1, { tell := some (.b (decide (rep_4 < (16 : Int)))) })] [0, 1, 5, 6, 7, 8, 32] [1007] (by kernel_rfl) (by kernel_rfl) (by kernel_rfl) ?_
  refine q_seq_normal ?_
  refine st_dec (rep_4 < (16 : Int)) (by kernel_rfl) (by kernel_rfl) (fun h_10 => ?_) (fun h_10 => ?_)
  ·
    refine st_skip (by kernel_rfl) ?_
    refine q_seq_normal ?_
    refine st_seq (by kernel_rfl) ?_
    refine st_block 1 (by kernel_rfl) ?_
    refine st_seq (by kernel_rfl) ?_
    have hl_11 := (rng_ownV es)
    have hl_12 := (rng_ownV es rep_4)
    have hl_13 := (rng_ownV es rep_4 sku)
    refine st_reg (A := (Con Try.prog (20 : FuncId) [AV.sl (List.map c28 es), AV.i IntKind.i64 rep_4, AV.s sku] (AV.tup [AV.sl (List.map c28 (ownV es rep_4 sku).fst), AV.i IntKind.i64 (ownV es rep_4 sku).snd]))) (σ' := ⟨[(0, .sl (List.map c28 es)), (1, .s (sku)), (5, .sl (List.map c28 (ofV es sku).fst)), (6, .i .i64 ((ofV es sku).snd)), (7, .own 1007 0), (8, .i .i64 (rep_4)), (9, .sl (List.map c28 (ownV es rep_4 sku).fst)), (10, .i .i64 ((ownV es rep_4 sku).snd))], [(1007, ⟨0, 28, .row 4 (List.map c28 all_5)⟩)]⟩) cx [(3, { val := some (.tup [.sl (List.map c28 (ownV es rep_4 sku).fst), .i .i64 ((ownV es rep_4 sku).snd)]) })] [0, 1, 5, 6, 7, 8, 9, 10] [1007] (by kernel_rfl) (by kernel_rfl) (con20 (es) (rep_4) (sku) (by (with_reducible assumption))) ?_
    refine q_seq_normal ?_
    refine st_seq (by kernel_rfl) ?_
    refine st_seq (by kernel_rfl) ?_
    refine st_reg (A := (AV.b ((ownV es rep_4 sku).snd != (ofV es sku).snd) = AV.b (decide ¬(ownV es rep_4 sku).snd = (ofV es sku).snd))) (σ' := ⟨[(0, .sl (List.map c28 es)), (1, .s (sku)), (5, .sl (List.map c28 (ofV es sku).fst)), (6, .i .i64 ((ofV es sku).snd)), (7, .own 1007 0), (8, .i .i64 (rep_4)), (9, .sl (List.map c28 (ownV es rep_4 sku).fst)), (44, .b (decide ¬(ownV es rep_4 sku).snd = (ofV es sku).snd))], [(1007, ⟨0, 28, .row 4 (List.map c28 all_5)⟩)]⟩) cx [(2, { tell := some (.b (decide ¬(ownV es rep_4 sku).snd = (ofV es sku).snd)) })] [0, 1, 5, 6, 7, 8, 9, 44] [1007] (by kernel_rfl) (by kernel_rfl) (told_neq) ?_
    refine q_seq_normal ?_
    refine st_dec (¬(ownV es rep_4 sku).snd = (ofV es sku).snd) (by kernel_rfl) (by kernel_rfl) (fun h_14 => absurd h_14 (fun hn => hn (F1 (rep_4) h_7 h_10))) (fun h_14 => ?_)
    refine st_skip (by kernel_rfl) ?_
    refine q_seq_normal ?_
    refine st_seq (by kernel_rfl) ?_
    refine st_reg (A := (AV.i IntKind.i64 (↑(List.map c28 (ownV es rep_4 sku).fst).length : Int) = AV.i IntKind.i64 (↑(ownV es rep_4 sku).fst.length : Int))) (σ' := ⟨[(0, .sl (List.map c28 es)), (1, .s (sku)), (5, .sl (List.map c28 (ofV es sku).fst)), (6, .i .i64 ((ofV es sku).snd)), (7, .own 1007 0), (8, .i .i64 (rep_4)), (45, .sl (List.map c28 (ownV es rep_4 sku).fst)), (46, .i .i64 ((↑(ownV es rep_4 sku).fst.length : Int))), (47, .i .i64 ((0 : Int)))], [(1007, ⟨0, 28, .row 4 (List.map c28 all_5)⟩)]⟩) cx [(1, { tell := some (.i .i64 ((↑(ownV es rep_4 sku).fst.length : Int))) })] [0, 1, 5, 6, 7, 8, 45, 46, 47] [1007] (by kernel_rfl) (by kernel_rfl) (told_len c28 (ownV es rep_4 sku).fst) ?_
    refine q_seq_normal ?_
    refine st_block 2 (by kernel_rfl) ?_
    refine st_loop (X := Int × List Entry) (fun x => ⟨[(0, .sl (List.map c28 es)), (1, .s (sku)), (5, .sl (List.map c28 (ofV es sku).fst)), (6, .i .i64 ((ofV es sku).snd)), (7, .own 1007 0), (8, .i .i64 (rep_4)), (45, .sl (List.map c28 (ownV es rep_4 sku).fst)), (46, .i .i64 ((↑(ownV es rep_4 sku).fst.length : Int))), (47, .i .i64 (x.fst))], [(1007, ⟨0, 28, .row 4 (List.map c28 x.snd)⟩)]⟩) (fun x ↦ dec12b es sku rep_4 x.fst x.snd) (fun x ↦ inv12b es sku rep_4 x.fst x.snd) [0, 1, 5, 6, 7, 8, 45, 46, 47] [1007] (((0 : Int), all_5)) (by kernel_rfl) (by kernel_rfl) (g2 rep_4 all_5 h_7 h_8 h_9 h_10 h_14) ?_
    rintro ⟨i_15, all_16⟩ h_17
    obtain ⟨h_18, h_19, h_20, h_21⟩ : (0 : Int) ≤ i_15 ∧ i_15 ≤ (↑(ownV es rep_4 sku).fst.length : Int) ∧ all_16 = allOwn es sku rep_4.toNat ++ List.take i_15.toNat (ownV es rep_4 sku).fst ∧ all_16.length ≤ es.length := h_17
    refine st_seq (by kernel_rfl) ?_
    refine st_reg (A := (AV.b (decide (i_15 < (↑(ownV es rep_4 sku).fst.length : Int))) = AV.b (decide (i_15 < (↑(ownV es rep_4 sku).fst.length : Int))))) (σ' := ⟨[(0, .sl (List.map c28 es)), (1, .s (sku)), (5, .sl (List.map c28 (ofV es sku).fst)), (6, .i .i64 ((ofV es sku).snd)), (7, .own 1007 0), (8, .i .i64 (rep_4)), (45, .sl (List.map c28 (ownV es rep_4 sku).fst)), (46, .i .i64 ((↑(ownV es rep_4 sku).fst.length : Int))), (47, .i .i64 (i_15)), (48, .b (decide (i_15 < (↑(ownV es rep_4 sku).fst.length : Int))))], [(1007, ⟨0, 28, .row 4 (List.map c28 all_16)⟩)]⟩) cx [(0, { tell := some (.b (decide (i_15 < (↑(ownV es rep_4 sku).fst.length : Int)))) })] [0, 1, 5, 6, 7, 8, 45, 46, 47, 48] [1007] (by kernel_rfl) (by kernel_rfl) (by kernel_rfl) ?_
    refine q_seq_normal ?_
    refine st_seq (by kernel_rfl) ?_
    refine st_dec (i_15 < (↑(ownV es rep_4 sku).fst.length : Int)) (by kernel_rfl) (by kernel_rfl) (fun h_22 => ?_) (fun h_22 => ?_)
    ·
      refine st_skip (by kernel_rfl) ?_
      refine q_seq_normal ?_
      refine st_seq (by kernel_rfl) ?_
      refine st_block 3 (by kernel_rfl) ?_
      refine st_seq (by kernel_rfl) ?_
      refine st_reg (A := ((0 : Int) ≤ i_15) ∧ ((List.map c28 (ownV es rep_4 sku).fst)[i_15.toNat]? = some (c28 (ownV es rep_4 sku).fst[i_15.toNat]!)) ∧ ((c28 (ownV es rep_4 sku).fst[i_15.toNat]!).length = (4 : Nat)) ∧ ((4 : Nat) ≤ [AV.i IntKind.i64 (ownV es rep_4 sku).fst[i_15.toNat]!.dot.rep, AV.i IntKind.i64 (ownV es rep_4 sku).fst[i_15.toNat]!.dot.num, AV.s (ownV es rep_4 sku).fst[i_15.toNat]!.sku, AV.i IntKind.i64 (ownV es rep_4 sku).fst[i_15.toNat]!.qty].length)) (σ' := ⟨[(0, .sl (List.map c28 es)), (1, .s (sku)), (5, .sl (List.map c28 (ofV es sku).fst)), (6, .i .i64 ((ofV es sku).snd)), (7, .own 1007 0), (8, .i .i64 (rep_4)), (45, .sl (List.map c28 (ownV es rep_4 sku).fst)), (46, .i .i64 ((↑(ownV es rep_4 sku).fst.length : Int))), (47, .i .i64 (i_15)), (12, .ptr (12) (0) (0) (0))], [(1007, ⟨0, 28, .row 4 (List.map c28 all_16)⟩), (12, ⟨0, 28, .var [.i .i64 ((ownV es rep_4 sku).fst[i_15.toNat]!.dot.rep), .i .i64 ((ownV es rep_4 sku).fst[i_15.toNat]!.dot.num), .s ((ownV es rep_4 sku).fst[i_15.toNat]!.sku), .i .i64 ((ownV es rep_4 sku).fst[i_15.toNat]!.qty)]⟩)]⟩) cx [(0, { row := (c28 (ownV es rep_4 sku).fst[i_15.toNat]!) })] [0, 1, 5, 6, 7, 8, 45, 46, 47, 12] [1007, 12] (by kernel_rfl) (by kernel_rfl) ⟨(by (with_reducible assumption)), (by (with_reducible refine get_map ?_; omega)), (by kernel_rfl), (by (simp only [List.length_append, List.length_cons, List.length_nil]; omega))⟩ ?_
      refine q_seq_normal ?_
      refine st_seq (by kernel_rfl) ?_
      refine st_seq (by kernel_rfl) ?_
      refine st_split (¬(ownV es rep_4 sku).fst[i_15.toNat]!.dot.rep = rep_4) (fun h_23 => absurd h_23 (fun hn => hn (F2 (rep_4) (i_15) h_18 h_22))) (fun h_23 => ?_)
      refine st_reg (A := (AV.b ((ownV es rep_4 sku).fst[i_15.toNat]!.dot.rep != rep_4) = AV.b (decide ¬(ownV es rep_4 sku).fst[i_15.toNat]!.dot.rep = rep_4)) ∧ (AV.b (decide ¬(ownV es rep_4 sku).fst[i_15.toNat]!.dot.rep = rep_4) = AV.b false) ∧ ((AV.b !(ownV es rep_4 sku).fst[i_15.toNat]!.sku.toList == sku.toList) = AV.b (decide ¬(ownV es rep_4 sku).fst[i_15.toNat]!.sku = sku))) (σ' := ⟨[(0, .sl (List.map c28 es)), (1, .s (sku)), (5, .sl (List.map c28 (ofV es sku).fst)), (6, .i .i64 ((ofV es sku).snd)), (7, .own 1007 0), (8, .i .i64 (rep_4)), (45, .sl (List.map c28 (ownV es rep_4 sku).fst)), (46, .i .i64 ((↑(ownV es rep_4 sku).fst.length : Int))), (47, .i .i64 (i_15)), (12, .ptr (12) (0) (0) (0)), (61, .b (decide ¬(ownV es rep_4 sku).fst[i_15.toNat]!.sku = sku))], [(1007, ⟨0, 28, .row 4 (List.map c28 all_16)⟩), (12, ⟨0, 28, .var [.i .i64 ((ownV es rep_4 sku).fst[i_15.toNat]!.dot.rep), .i .i64 ((ownV es rep_4 sku).fst[i_15.toNat]!.dot.num), .s ((ownV es rep_4 sku).fst[i_15.toNat]!.sku), .i .i64 ((ownV es rep_4 sku).fst[i_15.toNat]!.qty)]⟩)]⟩) cx [(4, { tell := some (.b (decide ¬(ownV es rep_4 sku).fst[i_15.toNat]!.dot.rep = rep_4)) }), (5, { tell := some (.b (false)) }), (9, { tell := some (.b (decide ¬(ownV es rep_4 sku).fst[i_15.toNat]!.sku = sku)) })] [0, 1, 5, 6, 7, 8, 45, 46, 47, 12, 61] [1007, 12] (by kernel_rfl) (by kernel_rfl) ⟨(told_neq), (told_false h_23), (told_sne)⟩ ?_
      refine q_seq_normal ?_
      refine st_dec (¬(ownV es rep_4 sku).fst[i_15.toNat]!.sku = sku) (by kernel_rfl) (by kernel_rfl) (fun h_24 => absurd h_24 (fun hn => hn (F3 (rep_4) (i_15) h_18 h_22))) (fun h_24 => ?_)
      refine st_skip (by kernel_rfl) ?_
      refine q_seq_normal ?_
      refine st_reg (A := (28 = (28 : Nat)) ∧ ((4 : Nat) = 4) ∧ ([AV.i IntKind.i64 (0 : Int), AV.i IntKind.i64 (0 : Int), AV.s { data := #[] : ByteArray }, AV.i IntKind.i64 (0 : Int)].length = (4 : Nat)) ∧ (∀ (r : List AV), r ∈ List.map c28 [(ownV es rep_4 sku).fst[i_15.toNat]!] → r.length = 4) ∧ ((List.map c28 all_16).length + (List.map c28 [(ownV es rep_4 sku).fst[i_15.toNat]!]).length ≤ maxLen) ∧ (((List.map c28 all_16).length + (List.map c28 [(ownV es rep_4 sku).fst[i_15.toNat]!]).length) * (40 : Nat) ≤ (140737488355328 : Nat)) ∧ (List.map c28 all_16 ++ List.map c28 [(ownV es rep_4 sku).fst[i_15.toNat]!] = List.map c28 (all_16 ++ [(ownV es rep_4 sku).fst[i_15.toNat]!]))) (σ' := ⟨[(0, .sl (List.map c28 es)), (1, .s (sku)), (5, .sl (List.map c28 (ofV es sku).fst)), (6, .i .i64 ((ofV es sku).snd)), (7, .own 1007 0), (8, .i .i64 (rep_4)), (45, .sl (List.map c28 (ownV es rep_4 sku).fst)), (46, .i .i64 ((↑(ownV es rep_4 sku).fst.length : Int))), (47, .i .i64 (i_15))], [(1007, ⟨0, 28, .row 4 (List.map c28 (all_16 ++ [(ownV es rep_4 sku).fst[i_15.toNat]!]))⟩)]⟩) cx [(3, { rows := some (List.map c28 (all_16 ++ [(ownV es rep_4 sku).fst[i_15.toNat]!])) })] [0, 1, 5, 6, 7, 8, 45, 46, 47] [1007] (by kernel_rfl) (by kernel_rfl) ⟨(by kernel_rfl), (by kernel_rfl), (by kernel_rfl), (by (with_reducible refine len_map (fun _ => ?_) _; kernel_rfl)), (by (simp only [Go.maxLen, List.length_map, List.length_append, List.length_cons, List.length_nil]; omega)), (by (simp only [Go.maxLen, List.length_map, List.length_append, List.length_cons, List.length_nil]; omega)), (by (with_reducible refine app_map ?_; kernel_rfl))⟩ ?_
      refine q_blk_normal ?_
      refine q_seq_normal ?_
      refine st_reg (A := (AV.i IntKind.i64 (IntKind.i64.wrap (i_15 + (1 : Int))) = AV.i IntKind.i64 (i_15 + (1 : Int)))) (σ' := ⟨[(0, .sl (List.map c28 es)), (1, .s (sku)), (5, .sl (List.map c28 (ofV es sku).fst)), (6, .i .i64 ((ofV es sku).snd)), (7, .own 1007 0), (8, .i .i64 (rep_4)), (45, .sl (List.map c28 (ownV es rep_4 sku).fst)), (46, .i .i64 ((↑(ownV es rep_4 sku).fst.length : Int))), (47, .i .i64 (i_15 + (1 : Int)))], [(1007, ⟨0, 28, .row 4 (List.map c28 (all_16 ++ [(ownV es rep_4 sku).fst[i_15.toNat]!]))⟩)]⟩) cx [(0, { tell := some (.i .i64 (i_15 + (1 : Int))) })] [0, 1, 5, 6, 7, 8, 45, 46, 47] [1007] (by kernel_rfl) (by kernel_rfl) (told_i64 (by omega) (by omega)) ?_
      refine q_seq_normal ?_
      exact loop_next ((i_15 + (1 : Int), all_16 ++ [(ownV es rep_4 sku).fst[i_15.toNat]!])) (by kernel_rfl) (show ((↑(ownV es rep_4 sku).fst.length : Int) - (i_15 + (1 : Int))).toNat < ((↑(ownV es rep_4 sku).fst.length : Int) - i_15).toNat from (by omega)) (g3 rep_4 all_5 h_7 h_8 h_9 h_10 h_14 i_15 all_16 h_18 h_19 h_20 h_21 h_22 h_23 h_24)
    ·
      refine st_exit 2 (by kernel_rfl) ?_
      refine q_seq_exit ?_
      refine q_seq_exit ?_
      refine q_blk_hit ?_
      refine q_blk_normal ?_
      refine q_seq_normal ?_
      refine st_reg (A := (AV.i IntKind.i64 (IntKind.i64.wrap (rep_4 + (1 : Int))) = AV.i IntKind.i64 (rep_4 + (1 : Int)))) (σ' := ⟨[(0, .sl (List.map c28 es)), (1, .s (sku)), (5, .sl (List.map c28 (ofV es sku).fst)), (6, .i .i64 ((ofV es sku).snd)), (7, .own 1007 0), (8, .i .i64 (rep_4 + (1 : Int)))], [(1007, ⟨0, 28, .row 4 (List.map c28 all_16)⟩)]⟩) cx [(1, { tell := some (.i .i64 (rep_4 + (1 : Int))) })] [0, 1, 5, 6, 7, 8] [1007] (by kernel_rfl) (by kernel_rfl) (told_i64 (by omega) (by omega)) ?_
      refine q_seq_normal ?_
      exact loop_next ((rep_4 + (1 : Int), all_16)) (by kernel_rfl) (show ((16 : Int) - (rep_4 + (1 : Int))).toNat < ((16 : Int) - rep_4).toNat from (by omega)) (g4 rep_4 all_5 h_7 h_8 h_9 h_10 h_14 i_15 all_16 h_18 h_19 h_20 h_21 h_22)
  ·
    refine st_exit 0 (by kernel_rfl) ?_
    refine q_seq_exit ?_
    refine q_seq_exit ?_
    refine q_blk_hit ?_
    refine q_seq_normal ?_
    refine st_seq (by kernel_rfl) ?_
    refine st_seq (by kernel_rfl) ?_
    refine st_reg (A := (AV.b ((ofV es sku).snd != (0 : Int)) = AV.b (decide ¬(ofV es sku).snd = (0 : Int)))) (σ' := ⟨[(5, .sl (List.map c28 (ofV es sku).fst)), (7, .own 1007 0), (68, .b (decide ¬(ofV es sku).snd = (0 : Int)))], [(1007, ⟨0, 28, .row 4 (List.map c28 all_5)⟩)]⟩) cx [(1, { tell := some (.b (decide ¬(ofV es sku).snd = (0 : Int))) })] [5, 7, 68] [1007] (by kernel_rfl) (by kernel_rfl) (told_neq) ?_
    refine q_seq_normal ?_
    refine st_dec (¬(ofV es sku).snd = (0 : Int)) (by kernel_rfl) (by kernel_rfl) (fun h_25 => ?_) (fun h_25 => ?_)
    ·
      refine st_seq (by kernel_rfl) ?_
      refine st_join (σ' := ⟨[(4, .b (decide ((↑(ofV es sku).fst.length : Int) = (0 : Int) ∧ (↑all_5.length : Int) = (0 : Int))))], []⟩) ?_ ?_
      ·
        refine st_split ((↑(ofV es sku).fst.length : Int) = (0 : Int)) (fun h_27 => ?_) (fun h_27 => ?_)
        ·
          refine st_reg (A := (AV.i IntKind.i64 (↑(List.map c28 (ofV es sku).fst).length : Int) = AV.i IntKind.i64 (↑(ofV es sku).fst.length : Int)) ∧ (AV.b ((↑(ofV es sku).fst.length : Int) == (0 : Int)) = AV.b true) ∧ (AV.i IntKind.i64 (↑(List.map c28 all_5).length : Int) = AV.i IntKind.i64 (↑all_5.length : Int)) ∧ (AV.b ((↑all_5.length : Int) == (0 : Int)) = AV.b (decide ((↑all_5.length : Int) = (0 : Int)))) ∧ (AV.b (decide ((↑all_5.length : Int) = (0 : Int))) = AV.b (decide ((↑(ofV es sku).fst.length : Int) = (0 : Int) ∧ (↑all_5.length : Int) = (0 : Int))))) (σ' := ⟨[(4, .b (decide ((↑(ofV es sku).fst.length : Int) = (0 : Int) ∧ (↑all_5.length : Int) = (0 : Int))))], []⟩) cx [(1, { tell := some (.i .i64 ((↑(ofV es sku).fst.length : Int))) }), (2, { tell := some (.b (true)) }), (5, { tell := some (.i .i64 ((↑all_5.length : Int))) }), (6, { tell := some (.b (decide ((↑all_5.length : Int) = (0 : Int)))) }), (8, { tell := some (.b (decide ((↑(ofV es sku).fst.length : Int) = (0 : Int) ∧ (↑all_5.length : Int) = (0 : Int)))) })] [4] [] (by kernel_rfl) (by kernel_rfl) ⟨(told_len c28 (ofV es sku).fst), (told_true h_27), (told_len c28 all_5), (by kernel_rfl), (by simp only [eq_true h_27, told_simp1, told_simp2, and_true, true_and, and_false, false_and, or_true, true_or, or_false, false_or, not_true_eq_false, not_false_eq_true, decide_true, decide_false, Bool.decide_eq_true])⟩ ?_
          exact ⟨rfl, rfl⟩
        ·
          refine st_reg (A := (AV.i IntKind.i64 (↑(List.map c28 (ofV es sku).fst).length : Int) = AV.i IntKind.i64 (↑(ofV es sku).fst.length : Int)) ∧ (AV.b ((↑(ofV es sku).fst.length : Int) == (0 : Int)) = AV.b false) ∧ (AV.b false = AV.b (decide ((↑(ofV es sku).fst.length : Int) = (0 : Int) ∧ (↑all_5.length : Int) = (0 : Int))))) (σ' := ⟨[(4, .b (decide ((↑(ofV es sku).fst.length : Int) = (0 : Int) ∧ (↑all_5.length : Int) = (0 : Int))))], []⟩) cx [(1, { tell := some (.i .i64 ((↑(ofV es sku).fst.length : Int))) }), (2, { tell := some (.b (false)) }), (8, { tell := some (.b (decide ((↑(ofV es sku).fst.length : Int) = (0 : Int) ∧ (↑all_5.length : Int) = (0 : Int)))) })] [4] [] (by kernel_rfl) (by kernel_rfl) ⟨(told_len c28 (ofV es sku).fst), (told_false h_27), (by simp only [eq_false h_27, told_simp1, told_simp2, and_true, true_and, and_false, false_and, or_true, true_or, or_false, false_or, not_true_eq_false, not_false_eq_true, decide_true, decide_false, Bool.decide_eq_true])⟩ ?_
          exact ⟨rfl, rfl⟩
      ·
        refine q_seq_normal ?_
        refine st_ret (by kernel_rfl) ?_
        refine q_seq_ret ?_
        exact q_ret (r := .b (decide ((↑(ofV es sku).fst.length : Int) = (0 : Int) ∧ (↑all_5.length : Int) = (0 : Int)))) (obl := []) (by kernel_rfl) trivial (AVle.eq (g5 rep_4 all_5 h_7 h_8 h_9 h_10 h_25))
    ·
      refine st_skip (by kernel_rfl) ?_
      refine q_seq_normal ?_
      refine st_seq (by kernel_rfl) ?_
      refine st_reg (A := (Flat (AV.b (decide (all_5 = (ofV es sku).fst)))) ∧ (Con Try.prog (24 : FuncId) [AV.sl (List.map c28 all_5), AV.sl (List.map c28 (ofV es sku).fst)] (AV.b (decide (all_5 = (ofV es sku).fst))))) (σ' := ⟨[(4, .b (decide (all_5 = (ofV es sku).fst)))], []⟩) cx [(2, { val := some (.b (decide (all_5 = (ofV es sku).fst))), flat := true })] [4] [] (by kernel_rfl) (by kernel_rfl) ⟨(by exact Flat.b _), (con24 (all_5) ((ofV es sku).fst))⟩ ?_
      refine q_seq_normal ?_
      refine st_ret (by kernel_rfl) ?_
      exact q_ret (r := .b (decide (all_5 = (ofV es sku).fst))) (obl := []) (by kernel_rfl) trivial (AVle.eq (g6 rep_4 all_5 h_7 h_8 h_9 h_10 h_25))
theorem con5 (es : List Entry) (sku : ByteArray) (hs : es.length * 40 ≤ 140737488351232) (F1 : ∀ r : Int, 0 ≤ r → r < 16 → (ownV es r sku).2 = (ofV es sku).2) (F2 : ∀ r i : Int, 0 ≤ i → i < (ownV es r sku).1.length → (ownV es r sku).1[i.toNat]!.dot.rep = r) (F3 : ∀ r i : Int, 0 ≤ i → i < (ownV es r sku).1.length → (ownV es r sku).1[i.toNat]!.sku = sku) : Con Try.prog 5 [.sl (es.map c28), .s sku] (.b true) :=
  by
  refine walk5 es sku hs F1 F2 F3 (by decide) ⟨by omega, by omega, rfl⟩ (fun r l h0 h1 h2 h3 h4 => ⟨by omega, by omega, ?_, ?_⟩) (fun r l h0 h1 h2 h3 h4 i m k0 k1 k2 k3 k4 k5 k6 => ⟨by omega, by omega, ?_, ?_⟩)
    (fun r l h0 h1 h2 h3 h4 i m k0 k1 k2 k3 k4 => ⟨by omega, by omega, ?_⟩) (fun r l h0 h1 h2 h3 h4 => ?_) (fun r l h0 h1 h2 h3 h4 => ?_)
  · rw [h2]; simp
  · rw [h2]; exact allOwn_len es sku _ (by omega)
  · rw [k2, List.append_assoc, take_step k0 k4]
  · rw [k2, List.append_assoc, take_step k0 k4]; exact owners_len es sku h0 h3
  · have e : (r + 1).toNat = r.toNat + 1 := by omega
    rw [e, allOwn, k2, List.take_of_length_le (by omega), show ((r.toNat : Nat) : Int) = r by omega]
  · have e : r = 16 := by omega
    subst e
    have a : l = (ofV es sku).1 := h2.trans (allOwn_16 es sku)
    have b : (ofV es sku).1 = [] := by
      by_cases c : lstE es = 0 ∧ good sku = true
      · rw [ofV_ok c.1 c.2] at h4; exact absurd rfl h4
      · by_cases c1 : lstE es = 0
        · rw [ofV_sku c1 (fun g => c ⟨c1, g⟩)]
        · rw [ofV_form c1]
    rw [a, b, decide_eq_true ⟨rfl, rfl⟩]
  · have e : r = 16 := by omega
    subst e
    have a : l = (ofV es sku).1 := h2.trans (allOwn_16 es sku)
    rw [a, decide_eq_true rfl]
end Go.Proofs.Ytjngmlkaijpbgaa
