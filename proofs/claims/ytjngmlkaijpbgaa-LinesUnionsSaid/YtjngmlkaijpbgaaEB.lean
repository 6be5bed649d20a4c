/- EB: each operation of the model does what exec1 says (eighth part: lengths, pieces, appends, copies, bytes as a text). Conditions: none. -/
import Derived.Test.YtjngmlkaijpbgaaEA
set_option linter.unusedVariables false
set_option linter.unusedSimpArgs false
namespace Go.E
open Go.RowKit
section
variable {P : Program} {E : Env} {T : Tab} {ov : Ov} {o : Oper} {σ : St} {pl : Nat → Value} {a : Act} {w : World} {eff : Eff} {log : List Nat}

theorem run_builtin {b : Builtin} {args : Array Operand} {ts : Array TypeId} (ho : o.op = .call { callee := .builtin b, args := args, argTypes := ts }) :
    ∃ cs, (execOp a.eval o).run P w = (builtin b ts o.type cs (args.map a.eval)).run P w := by
  refine ⟨args.map fun | .const _ => true | _ => false, ?_⟩
  simp only [execOp, ho, resolve, Sem.run_bind, Sem.run_pure, Result.andThen_ok, invoke]
  rfl

theorem mapM_one {α β : Type} {f : α → Option β} {l : List α} {b : β} (h : l.mapM f = some [b]) : ∃ a, l = [a] ∧ f a = some b := by
  obtain ⟨h1, h2⟩ := mapM_get h
  match l, h1 with
  | [a], _ => exact ⟨a, rfl, h2 0 a b rfl rfl⟩
theorem mapM_two {α β : Type} {f : α → Option β} {l : List α} {b c : β} (h : l.mapM f = some [b, c]) : ∃ x y, l = [x, y] ∧ f x = some b ∧ f y = some c := by
  obtain ⟨h1, h2⟩ := mapM_get h
  match l, h1 with
  | [x, y], _ => exact ⟨x, y, rfl, h2 0 x b rfl rfl, h2 1 y c rfl rfl⟩
theorem toArray_of {α : Type} {xs : Array α} {l : List α} (h : xs.toList = l) : xs = l.toArray := by rw [← h, Array.toArray_toList]

theorem ok_len (hT : TabOk P T) (h : RelX E σ pl a w) (hd : ∀ q, o.dst = some q → q < E.nt) (args : Array Operand) (ts : Array TypeId) (ho : o.op = .call { callee := .builtin .len, args := args, argTypes := ts })
    (hrun : (exec1 P T ov o σ.ev).run (look σ.hp) [] = some (eff, log)) : Ok P E o a w (σ.app o.dst eff) := by
  simp only [exec1, ho] at hrun
  split at hrun
  · rename_i av ti h1 h2
    obtain ⟨x, e1, hx⟩ := mapM_one h1
    obtain ⟨t, e2, ht⟩ := mapM_one h2
    have e1 := toArray_of e1
    have e2 := toArray_of e2
    subst e1
    subst e2
    obtain ⟨cs, hr⟩ := run_builtin (P := P) (a := a) (w := w) ho
    have u := und hT ht w
    have hrx := h.ev hx
    split at hrun
    · rename_i hdesc
      rw [hdesc] at u
      split at hrun
      · rename_i z
        simp only [lenE, rets, Pg.run, Option.some.injEq, Prod.mk.injEq] at hrun
        obtain ⟨rfl, _⟩ := hrun
        have e := relv_toV hrx rfl
        refine .pure h hd (v := .int .i64 z.size) ?_ (.pure _ _ (.i _ _))
        rw [hr]
        simp [builtin, Builtin.len_, u, e, goInt]
      · simp [Pg.run] at hrun
    · rename_i e hdesc
      rw [hdesc] at u
      split at hrun
      · simp [Pg.run] at hrun
      · rename_i hne
        have : lenE av = rowsOf av fun rows => rets (.i .i64 rows.length) := by
          cases av <;> first | rfl | exact absurd rfl (hne _)
        rw [this] at hrun
        obtain ⟨rows, l', hk, hs⟩ := rowsOf_ok h hrx hrun
        simp only [rets, Pg.run, Option.some.injEq, Prod.mk.injEq] at hk
        obtain ⟨rfl, _⟩ := hk
        obtain ⟨A, cap, sz, us, hv, _⟩ := hs
        refine .pure h hd (v := .int .i64 rows.length) ?_ (.pure _ _ (.i _ _))
        rw [hr]
        simp [builtin, Builtin.len_, u, hv, goInt]
    · rename_i n e hdesc
      rw [hdesc] at u
      simp only [rets, Pg.run, Option.some.injEq, Prod.mk.injEq] at hrun
      obtain ⟨rfl, _⟩ := hrun
      refine .pure h hd (v := .int .i64 n) ?_ (.pure _ _ (.i _ _))
      rw [hr]
      simp [builtin, Builtin.len_, u, goInt]
    · simp [Pg.run] at hrun
  · simp [Pg.run] at hrun

theorem ok_cap (hT : TabOk P T) (h : RelX E σ pl a w) (hd : ∀ q, o.dst = some q → q < E.nt) (args : Array Operand) (ts : Array TypeId) (ho : o.op = .call { callee := .builtin .cap, args := args, argTypes := ts })
    (hrun : (exec1 P T ov o σ.ev).run (look σ.hp) [] = some (eff, log)) : Ok P E o a w (σ.app o.dst eff) := by
  simp only [exec1, ho] at hrun
  split at hrun
  · rename_i ti h1 h2
    obtain ⟨x, e1, hx⟩ := mapM_one h1
    obtain ⟨t, e2, ht⟩ := mapM_one h2
    have e1 := toArray_of e1
    have e2 := toArray_of e2
    subst e1
    subst e2
    obtain ⟨cs, hr⟩ := run_builtin (P := P) (a := a) (w := w) ho
    have u := und hT ht w
    have hrx := h.ev hx
    split at hrun
    · rename_i e hdesc
      rw [hdesc] at u
      simp only [rets, Pg.run, Option.some.injEq, Prod.mk.injEq] at hrun
      obtain ⟨rfl, _⟩ := hrun
      have e0 : a.eval x = .slice none 0 0 := relv_nl hrx
      refine .pure h hd (v := .int .i64 0) ?_ (.pure _ _ (.i _ _))
      rw [hr]
      simp [builtin, Builtin.cap_, u, e0, goInt]
    · simp [Pg.run] at hrun
  · simp [Pg.run] at hrun
theorem mapM_toV (h : RelX E σ pl a w) {args : Array Operand} {vs : List Value} (hv : (args.toList.mapM σ.ev).bind (·.mapM toV) = some vs) : args.map a.eval = vs.toArray := by
  cases h1 : args.toList.mapM σ.ev with
  | none => rw [h1] at hv; cases hv
  | some l =>
    rw [h1] at hv
    simp only [Option.bind_some] at hv
    obtain ⟨n1, g1⟩ := mapM_get h1
    obtain ⟨n2, g2⟩ := mapM_get hv
    have : (args.map a.eval).toList = vs := by
      apply List.ext_getElem?
      intro j
      simp only [Array.toList_map, List.getElem?_map]
      cases hj : args.toList[j]? with
      | none =>
        rw [List.getElem?_eq_none_iff] at hj
        rw [Option.map_none, List.getElem?_eq_none (by omega)]
      | some x =>
        have hlt := lt_of_getElem? hj
        have hl : l[j]? = some l[j] := List.getElem?_eq_getElem (by omega)
        have hq : vs[j]? = some vs[j] := List.getElem?_eq_getElem (by omega)
        rw [hq, Option.map_some, relv_toV (h.ev (g1 j x _ hj hl)) (g2 j _ _ hl hq)]
    exact toArray_of this

theorem ok_min (h : RelX E σ pl a w) (hd : ∀ q, o.dst = some q → q < E.nt) (args : Array Operand) (ts : Array TypeId) (ho : o.op = .call { callee := .builtin .min, args := args, argTypes := ts })
    (hrun : (exec1 P T ov o σ.ev).run (look σ.hp) [] = some (eff, log)) : Ok P E o a w (σ.app o.dst eff) := by
  simp only [exec1, ho] at hrun
  split at hrun
  · rename_i vs hvs
    split at hrun
    · rename_i v hv
      obtain ⟨av, hav, rfl⟩ := reto_run hrun
      refine .pure h hd (v := v) ?_ (.pure _ _ (ofV_rel hav))
      obtain ⟨cs, hr⟩ := run_builtin (P := P) (a := a) (w := w) ho
      rw [hr, mapM_toV h hvs]
      simp [builtin, pureVal_run hv]
    · simp [Pg.run] at hrun
  · simp [Pg.run] at hrun
theorem ok_max (h : RelX E σ pl a w) (hd : ∀ q, o.dst = some q → q < E.nt) (args : Array Operand) (ts : Array TypeId) (ho : o.op = .call { callee := .builtin .max, args := args, argTypes := ts })
    (hrun : (exec1 P T ov o σ.ev).run (look σ.hp) [] = some (eff, log)) : Ok P E o a w (σ.app o.dst eff) := by
  simp only [exec1, ho] at hrun
  split at hrun
  · rename_i vs hvs
    split at hrun
    · rename_i v hv
      obtain ⟨av, hav, rfl⟩ := reto_run hrun
      refine .pure h hd (v := v) ?_ (.pure _ _ (ofV_rel hav))
      obtain ⟨cs, hr⟩ := run_builtin (P := P) (a := a) (w := w) ho
      rw [hr, mapM_toV h hvs]
      simp [builtin, pureVal_run hv]
    · simp [Pg.run] at hrun
  · simp [Pg.run] at hrun

/-- An append to a row of one's own: where the new row lies. -/
theorem append_at {t e : TypeId} {i : TypeInfo} {z : Value} {size bytes base : Nat} (ht : P.underlying t = some (.slice e)) (hi : P.info? e = some i) (hz : i.zero = some z)
    (hsize : i.size = size) (hby : i.bytes = bytes) (hzs : z.cells.size = size) (hsz : 0 < size) (ty : TypeId) {v : Value} {n : Nat} {xs : List Value} (hown : w.ownsRow base e size v n xs)
    {ad : Addr} {m c : Nat} {news : List Value} (hl : news.length = m * size) (hnews : ∀ j u, news[j]? = some u → w.cell? (ad.add j) = some u) (h1 : ∀ u ∈ news, u.oneCell' = true)
    (h63 : n + m ≤ maxLen) (hbytes : (n + m) * bytes ≤ 140737488355328) (hbase : base ≤ w.heap.size) :
    ∃ v' w', (Builtin.append_ #[t, t] ty #[v, .slice (some ad) m c]).run P w = .ok v' w' ∧ w'.ownsRow base e size v' (n + m) (xs ++ news) ∧ w.grownBy w' (blkOf v) ∧
      (blkOf v' = blkOf v ∨ (blkOf v' = some w.heap.size ∧ w.heap.size < w'.heap.size)) := by
  obtain ⟨v', w', hr, ho, hg, _⟩ := run_append_own (P := P) w base t ty e i z size bytes ht hi hz hsize hby hzs hsz v n xs hown ad m c news hl hnews h1 h63 hbytes hbase
  have hob : v.ownBlock = blkOf v := by
    rcases hown.2 with ⟨e0, _⟩ | ⟨g, cap, cur, e0, _⟩ <;> rw [e0] <;> rfl
  rw [hob] at hg
  refine ⟨v', w', hr, ho, hg, ?_⟩
  subst hsize
  subst hby
  have hsmall : n + m ≤ 9223372036854775807 := by unfold maxLen at h63; omega
  rcases hown.2 with ⟨rfl, rfl⟩ | ⟨g, cap, cur, rfl, hbg, hgc, hnc, hcm, hcs, htake⟩
  · by_cases hm : m = 0
    · subst hm
      have hn : news = [] := List.eq_nil_of_length_eq_zero (by simpa using hl)
      subst hn
      have hr2 : (Builtin.append_ #[t, t] ty #[.slice none 0 0, .slice (some ad) 0 c]).run P w = .ok (.slice none 0 0) w := by
        simp [Builtin.append_, run_underlying ht, sizeOf, typeInfo, hi, Builtin.lenOf, Builtin.firstCells, loadCells, loadCellsFrom]
      rw [hr] at hr2
      injection hr2 with e1 e2
      rw [e1]
      exact .inl rfl
    · have hr2 := run_append_nil (P := P) w t ty e i z ht hi hz ad m c news hl hnews (by omega) (by omega) (by have hb := hbytes; simp only [Nat.zero_add] at hb; omega)
      rw [hr] at hr2
      injection hr2 with e1 e2
      rw [e1, e2]
      exact .inr ⟨rfl, by simp⟩
  · by_cases hroom : n + m ≤ cap
    · have hfit : n * i.size + news.length ≤ cur.size := by rw [hl, hcs, ← Nat.add_mul]; exact Nat.mul_le_mul_right _ hroom
      have hr2 := run_append_room (P := P) w t ty e i ht hi g n cap cur hgc ad m c news hl hnews h1 hroom hfit
      rw [hr] at hr2
      injection hr2 with e1 e2
      rw [e1]
      exact .inl rfl
    · have holds : ∀ j u, xs[j]? = some u → w.cell? ((⟨g, 0, none⟩ : Addr).add j) = some u := hown.cells (g := g) rfl
      have hr2 := run_append_grow (P := P) w t ty e i z ht hi hz ⟨g, 0, none⟩ n cap xs hown.1 holds ad m c news hl hnews (by omega) (by omega) (growslice_fits (by omega) hbytes)
      rw [hr] at hr2
      injection hr2 with e1 e2
      rw [e1, e2]
      exact .inr ⟨rfl, by simp⟩

theorem flatten_append' {rows rows2 : List (List AV)} : (rows ++ rows2).flatten = rows.flatten ++ rows2.flatten := List.flatten_append

/-- What a row of one's own is, behind an append. -/
theorem Ok.append {id e sz : Nat} {rows rows2 rs : List (List AV)} {bytes : Nat} {t : TypeId} {i : TypeInfo} {z : Value} {v x : Value} {obl : List Prop} {ver' : Nat}
    (h : RelX E σ pl a w) (hd : ∀ q, o.dst = some q → q < E.nt) (ht : P.underlying t = some (.slice e)) (hi : P.info? e = some i) (hz : i.zero = some z) (hsize : i.size = sz) (hby : i.bytes = bytes) (hzs : z.cells.size = sz) (hsz : 0 < sz)
    (hro : (execOp a.eval o).run P w = ((Builtin.append_ #[t, t] o.type #[v, x]).run P w).andThen fun u w' => .ok (.value u) w')
    (hrows : ∀ r ∈ rows, r.length = sz) {xs : List Value} (hown : w.ownsRow E.w0.heap.size e sz v rows.length xs) (hx1 : ∀ u ∈ xs, u.oneCell' = true)
    (hxr : ∀ (j : Nat) (b : AV) (u : Value), rows.flatten[j]? = some b → xs[j]? = some u → RelV0 (SS E (look σ.hp) pl w) w b u)
    (hver : ∀ C, look σ.hp id = some C → C.ver < ver') (hpl : ∀ k, blkOf v = some k → ∃ C, look σ.hp id = some C ∧ C.live = true ∧ blkOf (pl id) = some k)
    (hrows2 : ∀ r ∈ rows2, r.length = sz) (hs : Shows (SS E (look σ.hp) pl w) w rows2 x) (h63 : rows.length + rows2.length ≤ maxLen) (hbytes : (rows.length + rows2.length) * bytes ≤ 140737488355328) (hrs : rs = rows ++ rows2) :
    Ok P E o a w (σ.app o.dst { val := .own id ver', ups := [(id, ⟨ver', e, .row sz rs⟩)], obl := obl }) := by
  subst hrs
  have main : ∀ (v' : Value) (w' : World) (ys : List Value), (Builtin.append_ #[t, t] o.type #[v, x]).run P w = .ok v' w' → w'.ownsRow E.w0.heap.size e sz v' (rows.length + rows2.length) (xs ++ ys) → w.grownBy w' (blkOf v) →
      (blkOf v' = blkOf v ∨ (blkOf v' = some w.heap.size ∧ w.heap.size < w'.heap.size)) → (∀ u ∈ ys, u.oneCell' = true) →
      (∀ (j : Nat) (b : AV) (u : Value), rows2.flatten[j]? = some b → ys[j]? = some u → RelV0 (SS E (look σ.hp) pl w) w b u) →
      Ok P E o a w (σ.app o.dst { val := .own id ver', ups := [(id, ⟨ver', e, .row sz (rows ++ rows2)⟩)], obl := obl }) := by
    intro v' w' ys hr ho hg hat hy1 hyr
    have hheap : ∀ k, k < w.heap.size → (∀ C, look σ.hp id = some C → C.live = true → blkOf (pl id) ≠ some k) → w'.heap[k]? = w.heap[k]? := by
      intro k hk hne
      refine hg.block k hk fun e => ?_
      obtain ⟨C, hC, hl, hk'⟩ := hpl k e.symm
      exact hne C hC hl hk'
    have hw : ∀ k, SS E (look σ.hp) pl w k → w'.heap[k]? = w.heap[k]? := by
      intro k hk
      refine hheap k (hk.lt h.below) fun C hC hl => ?_
      rcases hk with hk | ⟨_, _, h3⟩
      · intro e
        have := (h.blk_lt hC hl e).1
        have := E.hS0 k hk
        omega
      · exact h3 id C hC hl
    have hrel : BlkRel E.w0.heap.size (look σ.hp) pl (SS E (look σ.hp) pl w) w' v' ⟨ver', e, .row sz (rows ++ rows2)⟩ := by
      refine ⟨fun r hr => ?_, xs ++ ys, by rw [List.length_append]; exact ho, fun u hu => ?_, fun j b u hb hu => ?_⟩
      · rcases List.mem_append.1 hr with hr | hr
        · exact hrows r hr
        · exact hrows2 r hr
      · rcases List.mem_append.1 hu with hu | hu
        · exact hx1 u hu
        · exact hy1 u hu
      · rw [List.flatten_append] at hb
        have hl1 := flatten_len hrows
        have hl2 : xs.length = rows.length * sz := hown.1
        by_cases hj : j < rows.length * sz
        · rw [List.getElem?_append_left (by omega)] at hb hu
          exact (hxr j b u hb hu).mono (fun _ hk => hk) hw
        · rw [List.getElem?_append_right (by omega)] at hb hu
          rw [hl1] at hb
          rw [hl2] at hu
          exact (hyr _ b u hb hu).mono (fun _ hk => hk) hw
    have hc := (h.chg id ⟨ver', e, .row sz (rows ++ rows2)⟩ v' (.inl hver) hheap hg.os hg.tape hg.output hg.size (fun k hk => by
      rcases hat with hat | ⟨hat, hlt⟩
      · rw [hat] at hk
        exact .inr (hpl k hk)
      · rw [hat] at hk
        simp only [Option.some.injEq] at hk
        subst hk
        exact .inl ⟨Nat.le_refl _, hlt⟩) hrel).1
    have h1 : v'.oneCell' = true := by
      rcases ho.2 with ⟨e0, _⟩ | ⟨g, cap, cur, e0, _⟩ <;> rw [e0] <;> rfl
    refine .value (v := v') (w' := w') (by rw [hro, hr]; rfl) ⟨setPl pl id v', hc.put o.dst hd (.own id ver' _ ⟨ver', e, .row sz (rows ++ rows2)⟩ (by simp [look_put]) (Nat.le_refl _) h1 (fun _ _ => by simp [setPl]))⟩
  rcases hs.flat hrows2 with ⟨rfl, rfl⟩ | ⟨ad, cap, ys, rfl, hl, hcell, hy1, hyr⟩
  · have hr := run_append_owned_none (P := P) (w := w) E.w0.heap.size t o.type e i sz ht hi v rows.length xs hown
    exact main v w [] hr (by simpa using hown) ⟨rfl, rfl, rfl, Nat.le_refl _, fun _ _ _ => rfl⟩ (.inl rfl) (fun u hu => absurd hu (by simp)) (fun j b u hb => by simp at hb)
  · obtain ⟨v', w', hr, ho, hg, hat⟩ := append_at (P := P) ht hi hz hsize hby hzs hsz o.type hown hl hcell hy1 h63 hbytes h.below.size (c := cap)
    exact main v' w' ys hr ho hg hat hy1 hyr

theorem ok_append (hT : TabOk P T) (h : RelX E σ pl a w) (hd : ∀ q, o.dst = some q → q < E.nt) (args : Array Operand) (ts : Array TypeId) (ho : o.op = .call { callee := .builtin .append, args := args, argTypes := ts })
    (hrun : (exec1 P T ov o σ.ev).run (look σ.hp) [] = some (eff, log)) (hobl : All eff.obl) : Ok P E o a w (σ.app o.dst eff) := by
  simp only [exec1, ho] at hrun
  split at hrun
  · rename_i av bv t t' h1 h2
    obtain ⟨x, y, e1, hx, hy⟩ := mapM_two h1
    have e1 := toArray_of e1
    have e2 := toArray_of h2
    subst e1
    subst e2
    replace hrun := chk_run hrun
    obtain ⟨htt, hrun⟩ := hrun
    have htt : t = t' := by simpa using htt
    subst htt
    split at hrun
    · rename_i ti ht
      split at hrun
      · rename_i e hdesc
        split at hrun
        · rename_i te hte
          replace hrun := chk_run hrun
          obtain ⟨hs1, hrun⟩ := hrun
          have hs1 := Nat.le_of_ble_eq_true hs1
          have hu := (hT t ti ht).1
          rw [hdesc] at hu
          obtain ⟨i, z, i1, i2, i3, i4, i5⟩ := inf hT hte
          have hz := zero_rel i5 (SS E (look σ.hp) pl w) w
          obtain ⟨rows2, l', hk, hsh⟩ := rowsOf_ok h (h.ev hy) hrun
          have hro : (execOp a.eval o).run P w = ((Builtin.append_ #[t, t] o.type #[a.eval x, a.eval y]).run P w).andThen fun u w' => .ok (.value u) w' := by
            obtain ⟨cs, hr⟩ := run_builtin (P := P) (a := a) (w := w) ho
            rw [hr]
            simp [builtin]
          split at hk
          · rename_i id ver
            replace hk := getB_run hk
            obtain ⟨B, hB, hver, hl, hk⟩ := hk
            split at hk
            · rename_i sz rows hbk
              simp only [Pg.run, Option.some.injEq, Prod.mk.injEq] at hk
              obtain ⟨rfl, _⟩ := hk
              have o1 : B.ty = e := All.mem hobl _ (by simp)
              have o2 : te.size = sz := All.mem hobl _ (by simp)
              have o3 : ∀ r ∈ rows2, r.length = sz := All.mem hobl _ (by simp)
              have o4 : rows.length + rows2.length ≤ maxLen := All.mem hobl _ (by simp)
              have o5 : (rows.length + rows2.length) * te.bytes ≤ 140737488355328 := All.mem hobl _ (by simp)
              have o6 := rowsNew_eq (ov := ov) (d := rows ++ rows2) (fun p hp => All.mem hobl p (List.mem_append_right _ hp))
              obtain ⟨hrl, xs, hown, hx1, hxr⟩ := h.rowCell hB hbk
              have he := relv_own (h.ev hx) hB hver hl
              rw [← he, o1] at hown
              have hzsz : z.cells.size = sz := by
                have hok : te.zero.length = te.size := All.mem hobl _ (by simp)
                rw [hz.1, hok, o2]
              rw [o1]
              exact Ok.append (P := P) h hd hu i1 i4 (by omega) i3 hzsz (by omega) hro hrl hown hx1 hxr (fun C hC => by rw [hB] at hC; simp only [Option.some.injEq] at hC; subst hC; omega)
                (fun k hk => ⟨B, hB, hl, by rw [← he]; exact hk⟩) o3 hsh o4 o5 o6
            · simp [Pg.run] at hk
          · split at hk
            · rename_i d hdst
              obtain ⟨ver, hver, hef⟩ := mkB_run hk
              simp only at hef
              subst hef
              have o3 : ∀ r ∈ rows2, r.length = te.size := All.mem hobl _ (by simp)
              have o4 : rows2.length ≤ maxLen := All.mem hobl _ (by simp)
              have o5 : rows2.length * te.bytes ≤ 140737488355328 := All.mem hobl _ (by simp)
              have hzsz : z.cells.size = te.size := by
                have hok : te.zero.length = te.size := All.mem hobl _ (by simp)
                rw [hz.1, hok]
              have o6 := rowsNew_eq (ov := ov) (d := rows2) (fun p hp => All.mem hobl p (List.mem_append_right _ hp))
              have hnl : a.eval x = .slice none 0 0 := by
                have := relv_pure (h.ev hx) rfl
                generalize a.eval x = v at this ⊢
                cases this
                rfl
              exact Ok.append (P := P) (rows := []) h hd hu i1 i4 i2 i3 hzsz (by omega) hro (fun r hr => absurd hr (by simp)) (by rw [hnl]; exact World.ownsRow_nil _ _ _ _) (fun u hu => absurd hu (by simp)) (fun j b u hb => by simp at hb) hver
                (fun k hk => by rw [hnl] at hk; simp [blkOf] at hk) o3 hsh (by simpa using o4) (by simpa using o5) (by simpa using o6)
            · simp [Pg.run] at hk
          · simp [Pg.run] at hk
        · simp [Pg.run] at hrun
      · simp [Pg.run] at hrun
    · simp [Pg.run] at hrun
  · simp [Pg.run] at hrun
end
end Go.E
