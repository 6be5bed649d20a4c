/- E2: what one operation does in the abstract machine (exec1), as a function. Conditions: none: definitions. -/
import Derived.Test.YtjngmlkaijpbgaaE1
set_option linter.unusedVariables false
set_option linter.unusedSimpArgs false
namespace Go.E
open Go.RowKit

/-- What the walk asks of a type. -/
structure TI where
  desc : TypeDesc
  size : Nat
  bytes : Nat
  zero : List AV
def TI.isAgg (t : TI) : Bool := match t.desc with | .struct _ | .array _ _ => true | _ => false
/-- A constant's reading. -/
def avC : Value → Option AV
  | .bool x => some (.b x)
  | .int k n => some (.i k n)
  | .string x => some (.s x)
  | .pointer none => some .np
  | .slice none 0 0 => some .nl
  | .nilFunc => some .nilf
  | .nilIface => some .nili
  | _ => none
def avConst : Value → Option AV
  | .agg cs => (cs.toList.mapM avC).map .agg
  | .tuple cs => if cs.isEmpty then some (.tup []) else none
  | v => avC v
def TIok (P : Program) (t : Nat) (ti : TI) : Prop :=
  P.underlying t = some ti.desc ∧ ((P.info? t).map fun i => (i.size, i.bytes, i.zero.map fun z => z.cells.toList.map avC)) = some (ti.size, ti.bytes, some (ti.zero.map some))
abbrev Tab := List (Nat × TI)
def TabOk (P : Program) (T : Tab) : Prop := ∀ t ti, look T t = some ti → TIok P t ti

def toV : AV → Option Value
  | .b x => some (.bool x)
  | .i k n => some (.int k n)
  | .s x => some (.string x)
  | _ => none
def ofV : Value → Option AV
  | .bool x => some (.b x)
  | .int k n => some (.i k n)
  | .string x => some (.s x)
  | _ => none
def pureVal : Sem Value → Option Value
  | .pure v => some v
  | _ => none
def pureB : AV → Bool
  | .own .. | .vw .. | .ptr .. | .fn .. | .tup _ | .dead | .ifc .. => false
  | _ => true
/-- One cell's worth. -/
def oneB : AV → Bool
  | .agg _ | .tup _ | .dead => false
  | _ => true
def boxB : AV → Bool
  | .agg _ => true
  | a => oneB a
def cellsA : AV → List AV
  | .agg cs => cs
  | a => [a]
def undefA : AV := .tup []

def rets (v : AV) : Pg Eff := .ret { val := v }
def reto : Option AV → Pg Eff
  | some v => rets v
  | none => .fail
def told (ov : Ov) (e : Eff) : Eff := match ov.tell with
  | some a => { e with val := a, obl := (e.val = a) :: e.obl }
  | none => e
def chk {α : Type} (c : Bool) (p : Pg α) : Pg α := if c then p else .fail
/-- A live block at the version that was said. -/
def getB {α : Type} (id ver : Nat) (k : Blk → Pg α) : Pg α := .get id fun
  | some B => if B.ver == ver && B.live then k B else .fail
  | none => .fail
/-- A new block at site d. -/
def mkB (d ty : Nat) (k : BK) (v : Nat → AV) (obl : List Prop := []) : Pg Eff := .get d fun
  | some B => .ret { val := v (B.ver + 1), ups := [(d, ⟨B.ver + 1, ty, k⟩)], obl }
  | none => .ret { val := v 0, ups := [(d, ⟨0, ty, k⟩)], obl }
def mapPg {α β : Type} (f : α → Pg β) : List α → Pg (List β)
  | [] => .ret []
  | a :: l => (f a).bind fun b => (mapPg f l).bind fun bs => .ret (b :: bs)

/-- A value as a callee reads it (rows by what they hold), and the blocks that it leads to. -/
def arg0 (a : AV) : Pg (AV × List Nat) :=
  match a with
  | .own id ver => getB id ver fun B => match B.k with
    | .row _ rows => .ret (.sl rows, [id])
    | _ => .fail
  | .vw id ver lo n => getB id ver fun B => match B.k with
    | .row _ rows => .ret (.sl ((rows.drop lo).take n), [id])
    | .arr cells => .ret (.sl (((cells.drop lo).take n).map fun c => [c]), [id])
    | _ => .fail
  | a => chk (pureB a) (.ret (a, []))
def arg1 (a : AV) : Pg (AV × List Nat) :=
  match a with
  | .ptr id ver r c => getB id ver fun B => match B.k with
    | .var cells => chk (r == 0) ((mapPg arg0 (cells.drop c)).bind fun l => .ret (.eptr (l.map (·.1)), id :: l.flatMap (·.2)))
    | .arr cells => .ret (.eptr (cells.drop (r + c)), [id])
    | _ => .fail
  | a => arg0 a
def arg2 (a : AV) : Pg (AV × List Nat) :=
  match a with
  | .fn f first cap => (mapPg arg1 first).bind fun l1 => (mapPg arg1 cap).bind fun l2 => .ret (.fn f (l1.map (·.1)) (l2.map (·.1)), l1.flatMap (·.2) ++ l2.flatMap (·.2))
  | .ifc t x => (arg0 x).bind fun p => .ret (.ifc t p.1, p.2)
  | a => arg1 a
def giveUp (ids : List Nat) : Pg (List (Nat × Blk)) :=
  mapPg (fun id => Pg.get id fun
    | some B => .ret (id, { B with k := .gone })
    | none => .fail) ids

def callE (P : Program) (ov : Ov) (f : FuncId) (vs : List AV) : Pg Eff :=
  (mapPg arg2 vs).bind fun l =>
    match ov.val with
    | none => .fail
    | some res =>
      if ov.flat then .ret { val := res, obl := [Flat res, Con P f (l.map (·.1)) res] }
      else (giveUp (l.flatMap (·.2))).bind fun ups => .ret { val := res, ups, obl := [Con P f (l.map (·.1)) res] }

/-- A part of what is built: its cells; a row of one's own is given up. -/
def part0 (a : AV) : Pg (List AV × List (Nat × Blk)) :=
  match a with
  | .own id ver => getB id ver fun B => match B.k with
    | .row _ rows => .ret ([.sl rows], [(id, { B with k := .gone })])
    | _ => .fail
  | a => chk (pureB a) (.ret (cellsA a, []))
def fillA (place : Nat → Option (Nat × Nat)) : List AV → List (Nat × List AV) → Option (List AV)
  | cells, [] => some cells
  | cells, (i, cs) :: rest =>
    match place i with
    | none => none
    | some (off, size) => if cs.length == size && Nat.ble (off + size) cells.length then fillA place (cells.take off ++ cs ++ cells.drop (off + size)) rest else none
def chunks (size : Nat) : Nat → List AV → List (List AV)
  | 0, _ => []
  | n + 1, l => l.take size :: chunks size n (l.drop size)
def fieldsPl (T : Tab) : List Field → Option (List (Nat × Nat))
  | [] => some []
  | f :: fs => match look T f.type, fieldsPl T fs with
    | some ti, some l => some ((f.offset, ti.size) :: l)
    | _, _ => none

def partP (ρ : Operand → Option AV) (p : Nat × Operand) : Pg (Nat × (List AV × List (Nat × Blk))) :=
  match ρ p.2 with
  | some a => (part0 a).bind fun q => .ret (p.1, q)
  | none => .fail

def rowsOf (a : AV) (k : List (List AV) → Pg Eff) : Pg Eff :=
  match a with
  | .sl rows => k rows
  | .nl => k []
  | .own id ver => getB id ver fun B => match B.k with | .row _ rows => k rows | _ => .fail
  | .vw id ver lo n => getB id ver fun B => match B.k with
    | .row _ rows => k ((rows.drop lo).take n)
    | .arr cells => k (((cells.drop lo).take n).map fun c => [c])
    | _ => .fail
  | _ => .fail

/-- New content, as it is told, or as it comes. -/
def arrNew (ov : Ov) (d : List AV) : List AV := match ov.rows with | some [cs] => cs | _ => d
def arrObl (ov : Ov) (d : List AV) : List Prop := match ov.rows with | some [cs] => [d = cs] | _ => []
theorem arrNew_eq {ov : Ov} {d : List AV} (h : ∀ p ∈ arrObl ov d, p) : arrNew ov d = d := by
  unfold arrNew arrObl at *
  split
  · rename_i cs hcs
    rw [hcs] at h
    exact (h (d = cs) (by simp)).symm
  · rfl
def rowsNew (ov : Ov) (d : List (List AV)) : List (List AV) := match ov.rows with | some rs => rs | none => d
def rowsObl (ov : Ov) (d : List (List AV)) : List Prop := match ov.rows with | some rs => [d = rs] | none => []
theorem rowsNew_eq {ov : Ov} {d : List (List AV)} (h : ∀ p ∈ rowsObl ov d, p) : rowsNew ov d = d := by
  unfold rowsNew rowsObl at *
  split
  · rename_i rs hrs
    rw [hrs] at h
    exact (h (d = rs) (by simp)).symm
  · rfl

/-- What is said of a value by x is said by y. -/
def AVle (x y : AV) : Prop := ∀ (S : Nat → Prop) (w : World) (v : Value), RelV0 S w x v → RelV0 S w y v
def ZLe (a b : List AV) : Prop := a.length = b.length ∧ ∀ (j : Nat) (x y : AV), a[j]? = some x → b[j]? = some y → AVle x y
/-- A row of zeros, as it is told, or as it comes. -/
def zrow (ov : Ov) (z : List AV) : List AV := match ov.row with | [] => z | r => r
theorem AVle.refl (x : AV) : AVle x x := fun _ _ _ h => h
theorem AVle.nl : AVle .nl (.sl []) := fun S w v h => by
  cases h
  exact .sl [] none 0 0 (fun _ _ => .bool false) (by simp) (by simp) (fun _ => rfl) (fun r hr => by simp at hr) (fun h => by simp at h) (fun _ _ => rfl) (fun j q r a hr => by simp at hr)
theorem AVle.dead {x : AV} : AVle x .dead := fun _ _ v _ => .dead v
theorem AVle.eq {x y : AV} (h : x = y) : AVle x y := by rw [h]; exact AVle.refl y
theorem AVle.nl' {rows : List (List AV)} (h : rows = []) : AVle .nl (.sl rows) := by rw [h]; exact AVle.nl
theorem ZLe.nil : ZLe [] [] := ⟨rfl, fun j x y hx => by simp at hx⟩
theorem ZLe.cons {x y : AV} {a b : List AV} (h : AVle x y) (hl : ZLe a b) : ZLe (x :: a) (y :: b) :=
  ⟨by simp [hl.1], fun j u v hu hv => by
    cases j with
    | zero => simp at hu hv; subst hu hv; exact h
    | succ j => exact hl.2 j u v (by simpa using hu) (by simpa using hv)⟩
theorem AVle.agg {a b : List AV} (h : ZLe a b) : AVle (.agg a) (.agg b) := fun S w v hv => by
  cases hv with
  | agg _ vs hl h1 hr =>
    refine .agg b vs (hl.trans h.1) h1 fun j y u hy hu => ?_
    have hj : j < a.length := by
      have := h.1
      by_cases e : j < a.length
      · exact e
      · rw [List.getElem?_eq_none (by omega)] at hy; cases hy
    exact h.2 j _ y (List.getElem?_eq_getElem hj) hy S w u (hr j _ u (List.getElem?_eq_getElem hj) hu)
theorem AVle.tup {a b : List AV} (h : ZLe a b) : AVle (.tup a) (.tup b) := fun S w v hv => by
  cases hv with
  | tup _ vs hl hr =>
    refine .tup b vs (hl.trans h.1) fun j y u hy hu => ?_
    have hj : j < a.length := by
      have := h.1
      by_cases e : j < a.length
      · exact e
      · rw [List.getElem?_eq_none (by omega)] at hy; cases hy
    exact h.2 j _ y (List.getElem?_eq_getElem hj) hy S w u (hr j _ u (List.getElem?_eq_getElem hj) hu)
/-- A contract may be asked with what says more. -/
theorem Con.le {P : Program} {f : FuncId} {args args' : List AV} {res : AV} (h : Con P f args' res) (hl : ZLe args args') : Con P f args res := by
  refine ⟨h.1, fun w S0 vs hS hv hr => h.2 w S0 vs hS (hv.trans hl.1) fun j y u hy hu => ?_⟩
  have hj : j < args.length := by
    have := hl.1
    by_cases e : j < args.length
    · exact e
    · rw [List.getElem?_eq_none (by omega)] at hy; cases hy
  exact hl.2 j _ y (List.getElem?_eq_getElem hj) hy S0 w u (hr j _ u (List.getElem?_eq_getElem hj) hu)
theorem ZLe.refl (a : List AV) : ZLe a a := ⟨rfl, fun j x y hx hy => by rw [hx] at hy; cases hy; exact AVle.refl x⟩

def lenE (a : AV) : Pg Eff :=
  match a with
  | .s x => rets (.i .i64 x.size)
  | a => rowsOf a fun rows => rets (.i .i64 rows.length)

def rowAt (B : Blk) (r : Nat) (x : List AV) : Prop := match B.k with | .row _ rows => rows[r]? = some x | _ => False
/-- '==' of two structs or arrays comes to this. -/
def AggEq (P : Program) (t : Nat) (cs ds : List AV) (z : Bool) : Prop :=
  ∀ (S : Nat → Prop) (w : World) (v u : Value), RelV0 S w (.agg cs) v → RelV0 S w (.agg ds) u → (do eqGuard .eql t (.tmp 0) (.tmp 0) v u; binOp .eql t v u).run P w = .ok (.bool z) w

def valA : AV → Value
  | .b x => .bool x
  | .i k n => .int k n
  | .s x => .string x
  | _ => .bool false
def plainA : AV → Bool
  | .b _ => true
  | .i _ _ => true
  | .s _ => true
  | _ => false
/-- **A contract of a call that puts a row into another order** (or writes it in place): called with the row (as an interface) and a function value (bound to nothing, or to a variable that holds the row), it writes the row, and nothing else that was there turns. -/
def IOCon (P : Program) (f g : FuncId) (t : Nat) (cap : Bool) (ty sz : Nat) (rows rs : List (List AV)) : Prop :=
  Callable P f ∧ rs.length = rows.length ∧ (∀ r ∈ rs, r.length = sz) ∧ (∀ x ∈ rows.flatten, plainA x = true) ∧ (∀ x ∈ rs.flatten, plainA x = true) ∧
  ∀ (w : World) (base : Nat) (v cv : Value), w.ownsRow base ty sz v rows.length (rows.flatten.map valA) → (cap = true → ∃ gv, cv = .pointer (some ⟨gv, 0, none⟩) ∧ gv < w.heap.size ∧ w.cell? ⟨gv, 0, none⟩ = some v ∧ blkOf v ≠ some gv) →
    Calls P f #[.iface t v, .func (.func g) #[] (if cap then #[cv] else #[])] w fun e w' => e = .returned (.tuple #[]) ∧ w'.ownsRow base ty sz v rows.length (rs.flatten.map valA) ∧ (∀ k, k < w.heap.size → blkOf v ≠ some k → w'.heap[k]? = w.heap[k]?) ∧
      w'.os = w.os ∧ w'.tape = w.tape ∧ w'.output = w.output ∧ w.heap.size ≤ w'.heap.size
def ioVal (t : Option Nat) (v : Value) : Value := match t with | some t => .iface t v | none => v
/-- The same of rows whose cells lead on; the row is handed over as it is (none), or as an interface (its type). -/
def IOConG (P : Program) (f g : FuncId) (t : Option Nat) (cap : Bool) (ty sz : Nat) (rows rs : List (List AV)) : Prop :=
  Callable P f ∧ rs.length = rows.length ∧ (∀ r ∈ rs, r.length = sz) ∧
  ∀ (w : World) (base : Nat) (v cv : Value) (S : Nat → Prop) (xs : List Value), (∀ k, S k → k < w.heap.size) → (∀ k, blkOf v = some k → ¬ S k) → w.ownsRow base ty sz v rows.length xs → (∀ u ∈ xs, u.oneCell' = true) →
    (∀ (j : Nat) (a : AV) (u : Value), rows.flatten[j]? = some a → xs[j]? = some u → RelV0 S w a u) →
    (cap = true → ∃ gv, cv = .pointer (some ⟨gv, 0, none⟩) ∧ gv < w.heap.size ∧ w.cell? ⟨gv, 0, none⟩ = some v ∧ blkOf v ≠ some gv) →
    Calls P f #[ioVal t v, .func (.func g) #[] (if cap then #[cv] else #[])] w fun e w' => e = .returned (.tuple #[]) ∧
      ∃ xs', w'.ownsRow base ty sz v rows.length xs' ∧ (∀ u ∈ xs', u.oneCell' = true) ∧ (∀ (j : Nat) (a : AV) (u : Value), rs.flatten[j]? = some a → xs'[j]? = some u → RelV0 S w' a u) ∧
      (∀ k, k < w.heap.size → blkOf v ≠ some k → w'.heap[k]? = w.heap[k]?) ∧ w'.os = w.os ∧ w'.tape = w.tape ∧ w'.output = w.output ∧ w.heap.size ≤ w'.heap.size
def ioArg : AV → Option (Option Nat × Nat × Nat)
  | .ifc t (.own id ver) => some (some t, id, ver)
  | .own id ver => some (none, id, ver)
  | _ => none
def ioE (P : Program) (f : FuncId) (avs : List AV) (rs : List (List AV)) : Pg Eff :=
  match avs with
  | [x0, .fn (.func g) [] cap] => (match ioArg x0 with
    | some (t, id, ver) => getB id ver fun B => (match B.k with
      | .row sz rows => (match cap with
        | [] => .ret { val := .tup [], ups := [(id, { B with k := .row sz rs })], obl := [IOConG P f g t false B.ty sz rows rs] }
        | [.ptr idv verv 0 0] => getB idv verv fun C => (match C.k with
          | .var (x :: _) => .ret { val := .tup [], ups := [(id, { B with k := .row sz rs })], obl := [x = .own id ver, IOConG P f g t true B.ty sz rows rs] }
          | _ => .fail)
        | _ => .fail)
      | _ => .fail)
    | none => .fail)
  | _ => .fail
/-- **A contract of a call that hands back memory of its own**: a row, or a pointer to an array: the caller may write it. -/
def ConB (P : Program) (f : FuncId) (args : List AV) (ty : Nat) (k : BK) : Prop :=
  Callable P f ∧ ∀ (w : World) (S0 : Nat → Prop) (vs : List Value), (∀ k, S0 k → k < w.heap.size) → vs.length = args.length →
    (∀ (j : Nat) (a : AV) (u : Value), args[j]? = some a → vs[j]? = some u → RelV0 S0 w a u) →
    Calls P f vs.toArray w fun e w' => ∃ v, e = .returned v ∧ BlkRel w.heap.size (fun _ => none) (fun _ => .bool false) (fun b => (S0 b ∨ (w.heap.size ≤ b ∧ b < w'.heap.size)) ∧ blkOf v ≠ some b) w' v ⟨0, ty, k⟩ ∧ Below w.heap.size w w'
def callB (P : Program) (d ty : Nat) (k : BK) (mk : Nat → AV) (f : FuncId) (vs : List AV) : Pg Eff :=
  (mapPg arg2 vs).bind fun l => (giveUp (l.flatMap (·.2))).bind fun ups =>
    (mkB d ty k mk [ConB P f (l.map (·.1)) ty k]).bind fun ef => .ret { ef with ups := ups ++ ef.ups }
def callF (P : Program) (ov : Ov) (d : Option Nat) (f : FuncId) (avs : List AV) : Pg Eff :=
  match ov.val, d with
  | some (.own ty sz), some d => callB P d ty (.row sz (ov.rows.getD [])) (fun v => .own d v) f avs
  | some (.ptr ty _ _ _), some d => callB P d ty (.arr ov.row) (fun v => .ptr d v 0 0) f avs
  | _, _ => match ov.rows with
    | some rs => ioE P f avs rs
    | none => callE P ov f avs
def exec1 (P : Program) (T : Tab) (ov : Ov) (o : Oper) (ρ : Operand → Option AV) : Pg Eff :=
  match o.op with
  | .move x | .assign x => reto (ρ x)
  | .pick c a b => match ρ c with
    | some (.b true) => reto (ρ a)
    | some (.b false) => reto (ρ b)
    | _ => .fail
  | .alloc t => match o.dst, look T t with
    | some d, some ti => (match ti.desc with
      | .array _ _ => mkB d t (.arr ti.zero) (fun v => .ptr d v 0 0)
      | _ => mkB d t (.var ti.zero) (fun v => .ptr d v 0 0))
    | _, _ => .fail
  | .box t x => match o.dst, look T t, ρ x with
    | some d, some ti, some a => (match ti.desc with
      | .array _ _ => (match a with | .agg cs => mkB d t (.arr cs) (fun v => .ptr d v 0 0) | _ => .fail)
      | _ => chk (boxB a) (mkB d t (.var (cellsA a)) (fun v => .ptr d v 0 0)))
    | _, _, _ => .fail
  | .build t parts => match look T t with
    | some ti => (mapPg (partP ρ) parts.toList).bind fun l =>
      (match ti.desc with
      | .struct fs => (match fieldsPl T fs.toList with
        | some pl => (match fillA (fun i => pl[i]?) ti.zero (l.map fun p => (p.1, p.2.1)) with
          | some cells => .ret { val := .agg cells, ups := l.flatMap fun p => p.2.2 }
          | none => .fail)
        | none => .fail)
      | .array _ e => (match look T e with
        | some te => (match fillA (fun i => some (i * te.size, te.size)) ti.zero (l.map fun p => (p.1, p.2.1)) with
          | some cells => .ret { val := .agg cells, ups := l.flatMap fun p => p.2.2 }
          | none => .fail)
        | none => .fail)
      | _ => .fail)
    | none => .fail
  | .buildSlice t len parts => match o.dst, look T t with
    | some d, some ti => (match ti.desc with
      | .slice e => (match look T e with
        | some te => (mapPg (partP ρ) parts.toList).bind fun l =>
          (match fillA (fun i => some (i * te.size, te.size)) (List.replicate len te.zero).flatten (l.map fun p => (p.1, p.2.1)) with
          | some cells => chk (Nat.ble (len * te.size) 16777216 && Nat.ble 1 te.size && cells.length == len * te.size)
              ((mkB d e (.row te.size (rowsNew ov (chunks te.size len cells))) (fun v => .own d v) (rowsObl ov (chunks te.size len cells))).bind fun ef => .ret { ef with ups := (l.flatMap fun p => p.2.2) ++ ef.ups })
          | none => .fail)
        | none => .fail)
      | _ => .fail)
    | _, _ => .fail
  | .load t x => match ρ x, look T t with
    | some (.ptr id ver r c), some ti => getB id ver fun B => (match B.k with
      | .var cells => if ti.isAgg then chk (r == 0 && ((cells.drop c).take ti.size).length == ti.size && ((cells.drop c).take ti.size).all fun a => pureB a && oneB a) (rets (.agg ((cells.drop c).take ti.size)))
          else (match cells[c]? with | some a => chk (r == 0) (rets a) | none => .fail)
      | .arr cells => if ti.isAgg then chk (r == 0 && c == 0) (.ret { val := .agg cells, obl := [cells.length = ti.size] })
          else (match ov.row with | [a] => .ret { val := a, obl := [cells[r + c]? = some a] } | _ => .fail)
      | .row sz _ => if ti.isAgg then .ret { val := .agg ((ov.row.drop c).take ti.size), obl := [rowAt B r ov.row, c + ti.size ≤ ov.row.length] }
          else (match ov.row[c]? with | some a => .ret { val := a, obl := [rowAt B r ov.row] } | none => .fail)
      | .gone => .fail)
    | some (.eptr cs), some ti => if ti.isAgg then .ret { val := .agg (cs.take ti.size), obl := [ti.size ≤ cs.length] } else (match cs[0]? with | some a => rets a | none => .fail)
    | _, _ => .fail
  | .store t x y => match ρ x, look T t, ρ y with
    | some (.ptr id ver r c), some ti, some a => getB id ver fun B => (match B.k with
      | .var cells => chk (r == 0 && boxB a && (cellsA a).length == ti.size && Nat.ble (c + ti.size) cells.length)
          (.ret { val := undefA, ups := [(id, { B with k := .var (cells.take c ++ cellsA a ++ cells.drop (c + ti.size)) })] })
      | .arr cells => (match a with
        | .agg cs => chk (r == 0 && c == 0) (.ret { val := undefA, ups := [(id, { B with k := .arr cs })], obl := [cs.length = cells.length, cs.length = ti.size] })
        | a => chk (ti.size == 1) ((part0 a).bind fun q => chk (q.2.all fun p => !(p.1 == id)) (.ret { val := undefA, ups := q.2 ++ [(id, { B with k := .arr (arrNew ov (cells.set (r + c) (q.1.headD .dead))) })], obl := [r + c < cells.length, q.1 = [q.1.headD .dead]] ++ arrObl ov (cells.set (r + c) (q.1.headD .dead)) })))
      | .row sz rows => (part0 a).bind fun q => chk (q.2.all fun p => !(p.1 == id)) (.ret { val := undefA, ups := q.2 ++ [(id, { B with k := .row sz (rowsNew ov (rows.set r (ov.row.take c ++ q.1 ++ ov.row.drop (c + ti.size)))) })], obl := [rows[r]? = some ov.row, q.1.length = ti.size, c + ti.size ≤ sz] ++ rowsObl ov (rows.set r (ov.row.take c ++ q.1 ++ ov.row.drop (c + ti.size))) })
      | .gone => .fail)
    | _, _, _ => .fail
  | .nilCheck x => match ρ x with
    | some (.ptr id ver r c) => getB id ver fun B => rets (.ptr id ver r c)
    | some (.eptr cs) => rets (.eptr cs)
    | some (.fn (.func f) first cap) => rets (.fn (.func f) first cap)
    | _ => .fail
  | .binOp op t x y _ => match ρ x, ρ y with
    | some a, some b => (match toV a, toV b with
      | some va, some vb => (match pureVal (binOp op t va vb) with
        | some v => reto (ofV v)
        | none => (match op, a, b, (look T t).map TI.desc with
          | .eql, .b x, .b y, some .bool => rets (.b (x == y))
          | .neq, .b x, .b y, some .bool => rets (.b (!(x == y)))
          | _, _, _, _ => .fail))
      | _, _ => (match op, a, b, ov.val with
        | .eql, .agg cs, .agg ds, some (.b z) => .ret { val := .b z, obl := [AggEq P t cs ds z] }
        | .neq, .agg cs, .agg ds, some (.b z) => .ret { val := .b z, obl := [AggEq P t cs ds (!z)] }
        | _, _, _, _ => .fail))
    | _, _ => .fail
  | .unOp op _ x => match ρ x with
    | some a => (match toV a with
      | some va => (match pureVal (Op.unary op va) with | some v => reto (ofV v) | none => .fail)
      | none => .fail)
    | none => .fail
  | .convert src dst x => match look T src, look T dst, ρ x with
    | some ts, some td, some a => (match ts.desc, td.desc, a with
      | .int _, .int k, .i _ n => rets (.i k (k.wrap n))
      | .string, .string, .s x => rets (.s x)
      | .slice e, .string, a => (match look T e, ov.val with
        | some te, some (.s z) => (match te.desc with
          | .int .u8 => rowsOf a fun rows => .ret { val := .s z, obl := [rows = z.data.toList.map fun b => [.i .u8 b.toNat]] }
          | _ => .fail)
        | _, _ => .fail)
      | _, _, _ => .fail)
    | _, _, _ => .fail
  | .makeInterface t x => match look T t, ρ x with
    | some ti, some a => (match ti.desc with | .interface _ => .fail | _ => rets (.ifc t a))
    | _, _ => .fail
  | .makeFunc f first cap => match first.toList.mapM ρ, cap.toList.mapM ρ with
    | some l1, some l2 => rets (.fn f l1 l2)
    | _, _ => .fail
  | .makeSlice t x y => match o.dst, look T t, ρ x, ρ y with
    | some d, some ti, some (.i _ n), some (.i _ m) => (match ti.desc with
      | .slice e => (match look T e with
        | some te => if ov.flat then mkB d e (.row te.size []) (fun v => .own d v) [n = 0, m = (ov.n : Int), te.bytes * ov.n ≤ 281474976710656, ov.n ≤ maxLen]
            else mkB d e (.row te.size (rowsNew ov (List.replicate ov.n (zrow ov te.zero)))) (fun v => .own d v) ([n = (ov.n : Int), m = (ov.n : Int), te.bytes * ov.n ≤ 281474976710656, ov.n ≤ maxLen, (zrow ov te.zero).length = te.size, ZLe te.zero (zrow ov te.zero)] ++ rowsObl ov (List.replicate ov.n (zrow ov te.zero)))
        | none => .fail)
      | _ => .fail)
    | _, _, _, _ => .fail
  | .slice t x lo hi mx => match look T t, ρ x, mx with
    | some ti, some a, none =>
      let l : Option Int := match lo with | none => some 0 | some q => (match ρ q with | some (.i _ n) => some n | _ => none)
      let h : Option (Option Int) := match hi with | none => some none | some q => (match ρ q with | some (.i _ n) => some (some n) | _ => none)
      (match l, h, ti.desc, a with
      | some l, some h, .string, .s z => .ret { val := .s (z.extract l.toNat (h.getD z.size).toNat), obl := [0 ≤ l, l ≤ h.getD z.size, h.getD z.size ≤ z.size] }
      | some l, some h, .slice e, .sl rows => (match look T e with
        | some te => .ret { val := .sl ((rows.take (h.getD rows.length).toNat).drop l.toNat), obl := [0 ≤ l, l ≤ h.getD rows.length, h.getD rows.length ≤ rows.length, ∀ r ∈ rows, r.length = te.size] }
        | none => .fail)
      | some l, some h, .slice e, .nl => .ret { val := .nl, obl := [l = 0, h.getD 0 = 0, (look T e).isSome = true] }
      | some l, some h, .slice e, .own id ver => if ov.flat then getB id ver fun B => (match B.k with
        | .row sz rows => .ret { val := .own id (ver + 1), ups := [(id, ⟨ver + 1, B.ty, .row sz (rowsNew ov (rows.take (h.getD rows.length).toNat))⟩)], obl := [l = 0, 0 ≤ h.getD rows.length, h.getD rows.length ≤ rows.length, ((look T e).map TI.size) = some sz] ++ rowsObl ov (rows.take (h.getD rows.length).toNat) }
        | _ => .fail)
        else getB id ver fun B => (match B.k with
        | .row sz rows => .ret { val := .vw id ver l.toNat (h.getD rows.length - l).toNat, obl := [0 ≤ l, l ≤ h.getD rows.length, h.getD rows.length ≤ rows.length, l < rows.length, ((look T e).map TI.size) = some sz] }
        | _ => .fail)
      | some l, some h, .array n e, .ptr id ver r c => getB id ver fun B => (match B.k with
        | .arr cells => chk (r == 0 && c == 0) (.ret { val := .vw id ver l.toNat (h.getD n - l).toNat, obl := [0 ≤ l, l ≤ h.getD n, h.getD n ≤ n, l < n, cells.length = n, ((look T e).map TI.size) = some 1, n ≤ maxLen] })
        | _ => .fail)
      | _, _, _, _ => .fail)
    | _, _, _ => .fail
  | .fieldAddr t x f => match look T t, ρ x with
    | some ti, some a => (match ti.desc with
      | .struct fs => (match fs[f]? with
        | some fd => (match look T fd.type with
          | some tf => chk (Nat.ble 1 tf.size) (match a with
            | .ptr id ver r c => getB id ver fun B => rets (.ptr id ver r (c + fd.offset))
            | .eptr cs => rets (.eptr (cs.drop fd.offset))
            | _ => .fail)
          | none => .fail)
        | none => .fail)
      | _ => .fail)
    | _, _ => .fail
  | .field t x f => match look T t, ρ x with
    | some ti, some (.agg cs) => (match ti.desc with
      | .struct fs => (match fs[f]? with
        | some fd => (match look T fd.type with
          | some tf => if tf.isAgg then chk (((cs.drop fd.offset).take tf.size).length == tf.size) (rets (.agg ((cs.drop fd.offset).take tf.size))) else reto cs[fd.offset]?
          | none => .fail)
        | none => .fail)
      | _ => .fail)
    | _, _ => .fail
  | .indexAddr t x ix => match look T t, ρ x, ρ ix with
    | some ti, some a, some (.i _ n) => (match ti.desc, a with
      | .slice e, .sl rows => (match look T e with
        | some te => .ret { val := .eptr ov.row, obl := [0 ≤ n, rows[n.toNat]? = some ov.row, ov.row.length = te.size] }
        | none => .fail)
      | .slice e, .own id ver => getB id ver fun B => (match B.k, look T e with
        | .row sz rows, some te => .ret { val := .ptr id ver n.toNat 0, obl := [0 ≤ n, n.toNat < rows.length, te.size = sz] }
        | _, _ => .fail)
      | .slice e, .vw id ver lo m => getB id ver fun B => (match B.k, look T e with
        | .row sz rows, some te => .ret { val := .ptr id ver (lo + n.toNat) 0, obl := [0 ≤ n, n.toNat < m, te.size = sz] }
        | _, _ => .fail)
      | .array len e, .ptr id ver r c => getB id ver fun B => (match B.k, look T e with
        | .arr cells, some te => chk (r == 0 && c == 0) (.ret { val := .ptr id ver (n.toNat * te.size) 0, obl := [0 ≤ n, n < len] })
        | .var cells, some te => chk (r == 0 && c == 0) (.ret { val := .ptr id ver 0 (n.toNat * te.size), obl := [0 ≤ n, n < len] })
        | _, _ => .fail)
      | .array len e, .eptr cs => (match look T e with
        | some te => .ret { val := .eptr (cs.drop (n.toNat * te.size)), obl := [0 ≤ n, n < len] }
        | none => .fail)
      | _, _ => .fail)
    | _, _, _ => .fail
  | .index t x ix => match look T t, ρ x, ρ ix with
    | some ti, some a, some (.i _ n) => (match ti.desc, a with
      | .string, .s z => (match ov.val with
        | some (.i .u8 m) => .ret { val := .i .u8 m, obl := [0 ≤ n, (z[n.toNat]?.map fun b => (b.toNat : Int)) = some m] }
        | _ => .fail)
      | .array len e, .agg cs => (match look T e, ov.row with
        | some te, [q] => chk (!te.isAgg) (.ret { val := q, obl := [0 ≤ n, n < len, cs[n.toNat * te.size]? = some q] })
        | _, _ => .fail)
      | _, _ => .fail)
    | _, _, _ => .fail
  | .extract x ix => match ρ x with
    | some (.tup vs) => reto vs[ix]?
    | _ => .fail
  | .call c => match c.callee with
    | .builtin .len => (match c.args.toList.mapM ρ, c.argTypes.toList.mapM (look T) with
      | some [a], some [ti] => (match ti.desc with
        | .string => (match a with | .s _ => lenE a | _ => .fail)
        | .slice _ => (match a with | .s _ => .fail | _ => lenE a)
        | .array n _ => rets (.i .i64 n)
        | _ => .fail)
      | _, _ => .fail)
    | .builtin .cap => (match c.args.toList.mapM ρ, c.argTypes.toList.mapM (look T) with
      | some [.nl], some [ti] => (match ti.desc with | .slice _ => rets (.i .i64 0) | _ => .fail)
      | _, _ => .fail)
    | .builtin .min => (match (c.args.toList.mapM ρ).bind (·.mapM toV) with
      | some vs => (match pureVal (Builtin.min_ c.argTypes o.type vs.toArray) with | some v => reto (ofV v) | none => .fail)
      | none => .fail)
    | .builtin .max => (match (c.args.toList.mapM ρ).bind (·.mapM toV) with
      | some vs => (match pureVal (Builtin.max_ c.argTypes o.type vs.toArray) with | some v => reto (ofV v) | none => .fail)
      | none => .fail)
    | .builtin .append => (match c.args.toList.mapM ρ, c.argTypes.toList with
      | some [a, b], [t, t'] => chk (t == t') (match look T t with
        | some ti => (match ti.desc with
          | .slice e => (match look T e with
            | some te => chk (Nat.ble 1 te.size) (rowsOf b fun rows2 => (match a with
              | .own id ver => getB id ver fun B => (match B.k with
                | .row sz rows => .ret { val := .own id (ver + 1), ups := [(id, ⟨ver + 1, B.ty, .row sz (rowsNew ov (rows ++ rows2))⟩)], obl := [B.ty = e, te.size = sz, te.zero.length = te.size, ∀ r ∈ rows2, r.length = sz, rows.length + rows2.length ≤ maxLen, (rows.length + rows2.length) * te.bytes ≤ 140737488355328] ++ rowsObl ov (rows ++ rows2) }
                | _ => .fail)
              | .nl => (match o.dst with
                | some d => mkB d e (.row te.size (rowsNew ov (rows2))) (fun v => .own d v)
                    ([te.zero.length = te.size, ∀ r ∈ rows2, r.length = te.size, rows2.length ≤ maxLen, rows2.length * te.bytes ≤ 140737488355328] ++ rowsObl ov (rows2))
                | none => .fail)
              | _ => .fail))
            | none => .fail)
          | _ => .fail)
        | none => .fail)
      | _, _ => .fail)
    | .builtin .copy => (match c.args.toList.mapM ρ, c.argTypes.toList with
      | some [a, b], t :: _ => (match look T t with
        | some ti => (match ti.desc with
          | .slice e => (match look T e with
            | some te => chk (te.size == 1) (rowsOf b fun rows2 => (match a with
              | .own id ver => getB id ver fun B => (match B.k with
                | .row sz rows => .ret { val := .i .i64 (min rows2.length rows.length : Nat), ups := [(id, ⟨ver, B.ty, .row sz (rowsNew ov (rows2.take rows.length ++ rows.drop rows2.length))⟩)], obl := [te.size = sz, ∀ r ∈ rows2, r.length = sz] ++ rowsObl ov (rows2.take rows.length ++ rows.drop rows2.length) }
                | _ => .fail)
              | _ => .fail))
            | none => .fail)
          | _ => .fail)
        | none => .fail)
      | _, _ => .fail)
    | .value (.func f) => (match c.args.toList.mapM ρ with
      | some vs => callF P ov o.dst f vs
      | none => .fail)
    | .value (.tmp t) => (match ρ (.tmp t), c.args.toList.mapM ρ with
      | some (.fn (.func f) first cap), some vs => callE P ov f (first ++ vs ++ cap)
      | _, _ => .fail)
    | _ => .fail
  | _ => .fail
end Go.E
