/- E1: an abstract machine for walks: values that say what memory holds (AV), blocks of the call's own (Blk), and what one operation does to them (exec1). Conditions: none: definitions, and how they stand to the model's values and worlds. E2: what one operation does in the abstract machine (exec1), as a function. Conditions: none: definitions. E3: how the abstract machine's states stand to the model's: what is kept by values, by new blocks, by stores, by what is given up. Conditions: none. E4: each operation of the model does what exec1 says (first part: values, arithmetic, building, reading). Conditions: none. E5: each operation of the model does what exec1 says (second part: addresses, loads, stores, new variables). Conditions: none. E6: each operation of the model does what exec1 says (third part: what is given up, stores, new variables, elements). Conditions: none. E7: each operation of the model does what exec1 says (fourth part: new blocks, elements, building). Conditions: none. E8: each operation of the model does what exec1 says (fifth part: structs, slices that are written out or made, pieces, lengths, min and max). Conditions: none. E9: each operation of the model does what exec1 says (sixth part: slices: written out, made, cut, measured, appended to, copied). Conditions: none. EA: each operation of the model does what exec1 says (seventh part: made slices, lengths, pieces, appends, copies, bytes as a text). Conditions: none. EB: each operation of the model does what exec1 says (eighth part: lengths, pieces, appends, copies, bytes as a text). Conditions: none. EC: each operation of the model does what exec1 says (ninth part: pieces, copies, bytes as a text). Conditions: none. ED: each operation of the model does what exec1 says (tenth part: bytes as a text; calls by their contracts). Conditions: none. -/
import Derived.Below
import Derived.OwnWalk
import Derived.WalkKit
import Derived.KernelRfl
import Derived.Laws.MakeOwn
import Derived.Laws.OwnMore
import Derived.Laws.Slices
import Derived.Laws.CopyOwn
import Derived.Laws.AppendOwnNone
import Derived.Laws.Rows
import Derived.Orders
set_option linter.unusedVariables false
set_option linter.unusedSimpArgs false
namespace Go.E
open Go.RowKit
inductive AV where
 | b (x:Bool)
 | i (k:IntKind) (n:Int)
 | s (x:ByteArray)
 | agg (cs:List AV)
 | sl (rows:List (List AV))
 | nl
 | own (id ver:Nat)
 | vw (id ver lo n:Nat)
 | ptr (id ver r c:Nat)
 | eptr (cs:List AV)
 | np
 | fn (f:Fn) (first cap:List AV)
 | nilf
 | ifc (t:Nat) (v:AV)
 | nili
 | tup (vs:List AV)
 | dead
inductive BK where
 | var (cells:List AV)
 | arr (cells:List AV)
 | row (sz:Nat) (rows:List (List AV))
 | map (rows:List (List AV))
 | iter (m:AV) (n:Nat) (seen:List Nat)
 | gone
structure Blk where
 ver:Nat
 ty:Nat
 k:BK
def look{β:Type}:List (Nat×β)→Nat→Option β
 | [],_=>none
 | (k,v) :: l,q=>if k == q then some v else look l q
def put{β:Type}:List (Nat×β)→Nat→β→List (Nat×β)
 | [],q,u=>[(q,u)]
 | (k,v) :: l,q,u=>if k == q then(k,u) :: l else(k,v) :: put l q u
theorem C8{β:Type}(l:List (Nat×β))(q:Nat)(u:β)(p:Nat):look (put l q u) p=if q=p then some u else look l p:=by
 induction l with
 | nil=>simp [put,look]
 | cons x l ih =>
  obtain⟨k,v⟩:=x
  by_cases h:k=q
  ·subst h
   simp only [put,look,beq_self_eq_true,if_true]
   by_cases hp:k=p <;> simp [hp]
  ·have h':(k == q)=false:=by simpa using h
   simp only [put,h',Bool.false_eq_true,if_false,look,ih]
   by_cases hp:k=p
   ·have:¬ q=p:=fun e=>h (by omega)
    simp [hp,this]
   ·simp [hp]
def Bs6{β:Type}(l:List (Nat×β))(d:Option Nat)(u:β):List (Nat×β):=match d with | some d=>put l d u | none=>l
inductive Pg (α:Type) where
 | ret (a:α)
 | fail
 | get (id:Nat) (k:Option Blk→Pg α)
def Pg.run{α:Type}(hp:Nat→Option Blk):Pg α→List Nat→Option (α×List Nat)
 | .ret a,l=>some (a,l)
 | .fail,_=>none
 | .get id k,l=>(k (hp id)).run hp (id :: l)
def Pg.bind{α β:Type}:Pg α→(α→Pg β)→Pg β
 | .ret a,f=>f a
 | .fail,_=>.fail
 | .get id k,f=>.get id fun b=>(k b).bind f
theorem Pg.run_sub{α:Type}{hp:Nat→Option Blk}(p:Pg α):∀ {l:List Nat} {r:α×List Nat},p.run hp l=some r→∀ x∈l,x∈r.2:=by
 induction p with
 | ret a=>intro l r h x hx;simp only [Pg.run,Option.some.injEq]at h;subst h;exact hx
 | fail=>intro l r h;simp [Pg.run]at h
 | get id k ih=>intro l r h x hx;exact ih _ h x (List.mem_cons_of_mem _ hx)
theorem Pg.run_local{α:Type}{hp hp':Nat→Option Blk}(p:Pg α):∀ {l:List Nat} {r:α×List Nat},p.run hp l=some r→(∀ x∈r.2,hp' x=hp x)→p.run hp' l=some r:=by
 induction p with
 | ret a=>intro l r h _;simpa [Pg.run]using h
 | fail=>intro l r h;simp [Pg.run]at h
 | get id k ih =>
  intro l r h he
  simp only [Pg.run]at h ⊢
  have:id∈r.2:=Pg.run_sub _ h id (by simp)
  rw[he id this]
  exact ih _ h he
theorem Pg.run_bind{α β:Type}{hp:Nat→Option Blk}(p:Pg α)(f:α→Pg β):∀(l:List Nat),(p.bind f).run hp l=(p.run hp l).bind fun r=>(f r.1).run hp r.2:=by
 induction p with
 | ret a=>intro l;rfl
 | fail=>intro l;rfl
 | get id k ih=>intro l;exact ih _ _
structure Eff where
 val:AV
 ups:List (Nat×Blk):=[]
 obl:List Prop:=[]
def All:List Prop→Prop
 | []=>True
 | [p]=>p
 | p :: q :: l=>p∧All (q :: l)
theorem All.mem:∀ {l:List Prop},All l→∀ p∈l,p
 | [],_,p,hp=>by cases hp
 | [q],h,p,hp=>by rw[List.mem_singleton.1 hp];exact h
 | q :: r :: l,h,p,hp=>by
  rcases List.mem_cons.1 hp with rfl | hp
  ·exact h.1
  ·exact All.mem h.2 p hp
theorem All.of:∀ {l:List Prop},(∀ p∈l,p)→All l
 | [],_=>trivial
 | [q],h=>h q (by simp)
 | q :: r :: l,h=>⟨h q (by simp),All.of fun p hp=>h p (List.mem_cons_of_mem _ hp)⟩
structure Ov where
 val:Option AV:=none
 row:List AV:=[]
 rows:Option (List (List AV)):=none
 n:Nat:=0
 flat:Bool:=false
 tell:Option AV:=none
/-! ### How values stand to the model's -/
inductive RelV0 (S:Nat→Prop) (w:World):AV→Value→Prop
 | b (x:Bool):RelV0 S w (.b x) (.bool x)
 | i (k:IntKind) (n:Int):RelV0 S w (.i k n) (.int k n)
 | s (x:ByteArray):RelV0 S w (.s x) (.string x)
 | agg (cs:List AV) (vs:List Value) (hl:vs.length=cs.length) (h1:∀ u∈vs,u.oneCell'=true)
   (h:∀(j:Nat) (a:AV) (u:Value),cs[j]?=some a→vs[j]?=some u→RelV0 S w a u):RelV0 S w (.agg cs) (.agg vs.toArray)
 | sl (rows:List (List AV)) (A:Option Addr) (cap sz:Nat) (u:Nat→Nat→Value) (hc:rows.length≤cap) (hm:rows.length≤maxLen) (hn:A=none→cap=0) (hsz:∀ r∈rows,r.length=sz)
   (hA:0 < rows.length→∃ ad,A=some ad∧S ad.block∧∀(j q:Nat),j < rows.length→q < sz→w.cell? (ad.add (j*sz+q))=some (u j q))
   (h1:∀ j q,(u j q).oneCell'=true)
   (h:∀(j q:Nat) (r:List AV) (a:AV),rows[j]?=some r→r[q]?=some a→RelV0 S w a (u j q)):RelV0 S w (.sl rows) (.slice A rows.length cap)
 | nl:RelV0 S w .nl (.slice none 0 0)
 | eptr (cs:List AV) (ad:Addr) (u:Nat→Value) (hS:S ad.block) (hA:∀ q,q < cs.length→w.cell? (ad.add q)=some (u q)) (h1:∀ q,(u q).oneCell'=true)
   (h:∀(q:Nat) (a:AV),cs[q]?=some a→RelV0 S w a (u q)):RelV0 S w (.eptr cs) (.pointer (some ad))
 | np:RelV0 S w .np (.pointer none)
 | fn (f:Fn) (first cap:List AV) (v1 v2:List Value) (l1:v1.length=first.length) (l2:v2.length=cap.length)
   (h1:∀(j:Nat) (a:AV) (u:Value),first[j]?=some a→v1[j]?=some u→RelV0 S w a u)
   (h2:∀(j:Nat) (a:AV) (u:Value),cap[j]?=some a→v2[j]?=some u→RelV0 S w a u):RelV0 S w (.fn f first cap) (.func f v1.toArray v2.toArray)
 | nilf:RelV0 S w .nilf .nilFunc
 | ifc (t:Nat) (x:AV) (v:Value) (h:RelV0 S w x v):RelV0 S w (.ifc t x) (.iface t v)
 | nili:RelV0 S w .nili .nilIface
 | tup (cs:List AV) (vs:List Value) (hl:vs.length=cs.length)
   (h:∀(j:Nat) (a:AV) (u:Value),cs[j]?=some a→vs[j]?=some u→RelV0 S w a u):RelV0 S w (.tup cs) (.tuple vs.toArray)
 | dead (v:Value):RelV0 S w .dead v
theorem Ac7{w w':World}{a:Addr}(h:w'.heap[a.block]?=w.heap[a.block]?):w'.cell? a=w.cell? a:=World.cell?_of_block (w:=w) h
theorem Q0(a:Addr)(n:Nat):(a.add n).block=a.block:=by unfold Addr.add;split <;> rfl
theorem RelV0.mono{S S':Nat→Prop}{w w':World}{a:AV}{v:Value}(h:RelV0 S w a v)(hS:∀ k,S k→S' k)(hw:∀ k,S k→w'.heap[k]?=w.heap[k]?):RelV0 S' w' a v:=by
 induction h with
 | b x=>exact .b x
 | i k n=>exact .i k n
 | s x=>exact .s x
 | agg cs vs hl h1 h ih=>exact .agg cs vs hl h1 ih
 | sl rows A cap sz u hc hm hn hsz hA h1 h ih =>
  refine .sl rows A cap sz u hc hm hn hsz (fun h0=>?_) h1 ih
  obtain⟨ad,e,hs,hcell⟩:=hA h0
  exact⟨ad,e,hS _ hs,fun j q hj hq=>(Ac7 (by rw[Q0];exact hw _ hs)).trans (hcell j q hj hq)⟩
 | nl=>exact .nl
 | eptr cs ad u hs hA h1 h ih=>exact .eptr cs ad u (hS _ hs) (fun q hq=>(Ac7 (by rw[Q0];exact hw _ hs)).trans (hA q hq)) h1 ih
 | np=>exact .np
 | fn f first cap v1 v2 l1 l2 h1 h2 ih1 ih2=>exact .fn f first cap v1 v2 l1 l2 ih1 ih2
 | nilf=>exact .nilf
 | ifc t x v h ih=>exact .ifc t x v ih
 | nili=>exact .nili
 | tup cs vs hl h ih=>exact .tup cs vs hl ih
 | dead v=>exact .dead v
inductive Flat:AV→Prop
 | b (x:Bool):Flat (.b x)
 | i (k:IntKind) (n:Int):Flat (.i k n)
 | s (x:ByteArray):Flat (.s x)
 | agg (cs:List AV) (h:∀ a∈cs,Flat a):Flat (.agg cs)
 | nl:Flat .nl
 | np:Flat .np
 | nilf:Flat .nilf
 | nili:Flat .nili
 | ifc (t:Nat) (x:AV) (h:Flat x):Flat (.ifc t x)
 | tup (cs:List AV) (h:∀ a∈cs,Flat a):Flat (.tup cs)
theorem RelV0.flat{S S':Nat→Prop}{w w':World}{a:AV}{v:Value}(h:RelV0 S w a v)(hf:Flat a):RelV0 S' w' a v:=by
 induction h with
 | b x=>exact .b x
 | i k n=>exact .i k n
 | s x=>exact .s x
 | agg cs vs hl h1 h ih =>
  cases hf with
  | agg _ hf=>exact .agg cs vs hl h1 fun j a u ha hu=>ih j a u ha hu (hf a (List.mem_of_getElem? ha))
 | sl=>cases hf
 | nl=>exact .nl
 | eptr=>cases hf
 | np=>exact .np
 | fn=>cases hf
 | nilf=>exact .nilf
 | ifc t x v h ih=>cases hf with | ifc _ _ hf=>exact .ifc t x v (ih hf)
 | nili=>exact .nili
 | tup cs vs hl h ih =>
  cases hf with
  | tup _ hf=>exact .tup cs vs hl fun j a u ha hu=>ih j a u ha hu (hf a (List.mem_of_getElem? ha))
 | dead v=>cases hf
def Blk.off(B:Blk)(r c:Nat):Nat:=match B.k with | .row sz _=>r*sz+c | _=>r+c
def Blk.len(B:Blk):Nat:=match B.k with | .row _ rows=>rows.length | .arr cells=>cells.length | .var cells=>cells.length | .map rows=>rows.length | .iter _ _ _=>0 | .gone=>0
def Blk.live(B:Blk):Bool:=match B.k with | .gone=>false | _=>true
def blkOf:Value→Option Nat
 | .slice (some a) _ _=>some a.block
 | .pointer (some a)=>some a.block
 | .map (some g)=>some g
 | _=>none
inductive RelV (hp:Nat→Option Blk) (pl:Nat→Value) (S:Nat→Prop) (w:World):AV→Value→Prop
 | pure (a:AV) (v:Value) (h:RelV0 S w a v):RelV hp pl S w a v
 | own (id ver:Nat) (v:Value) (B:Blk) (hB:hp id=some B) (hv:ver≤B.ver) (h1:v.oneCell'=true) (h:ver=B.ver→B.live=true→v=pl id):RelV hp pl S w (.own id ver) v
 | vw (id ver lo n:Nat) (v:Value) (B:Blk) (hB:hp id=some B) (hv:ver≤B.ver) (h1:v.oneCell'=true)
   (h:ver=B.ver→B.live=true→∃ g cap,blkOf (pl id)=some g∧n≤cap∧n≤maxLen∧lo+n≤B.len∧v=.slice (some ⟨g,B.off lo 0,none⟩) n cap):RelV hp pl S w (.vw id ver lo n) v
 | ptr (id ver r c:Nat) (v:Value) (B:Blk) (hB:hp id=some B) (hv:ver≤B.ver) (h1:v.oneCell'=true)
   (h:ver=B.ver→B.live=true→∃ g,blkOf (pl id)=some g∧v=.pointer (some ⟨g,B.off r c,none⟩)):RelV hp pl S w (.ptr id ver r c) v
 | fn (f:Fn) (first cap:List AV) (v1 v2:List Value) (l1:v1.length=first.length) (l2:v2.length=cap.length)
   (h1:∀(j:Nat) (a:AV) (u:Value),first[j]?=some a→v1[j]?=some u→RelV hp pl S w a u)
   (h2:∀(j:Nat) (a:AV) (u:Value),cap[j]?=some a→v2[j]?=some u→RelV hp pl S w a u):RelV hp pl S w (.fn f first cap) (.func f v1.toArray v2.toArray)
 | ifc (t:Nat) (x:AV) (v:Value) (h:RelV hp pl S w x v):RelV hp pl S w (.ifc t x) (.iface t v)
def Al5(hp:Nat→Option Blk)(pl:Nat→Value)(hp':Nat→Option Blk)(pl':Nat→Value):Prop :=
 ∀ id B,hp id=some B→∃ B',hp' id=some B'∧(B.ver < B'.ver∨(B.ver=B'.ver∧(B'.live=true→B.live=true∧pl' id=pl id∧B'.off=B.off∧B.len≤B'.len)))
theorem Al5.refl(hp:Nat→Option Blk)(pl:Nat→Value):Al5 hp pl hp pl:=fun id B h=>⟨B,h,.inr ⟨rfl,fun h=>⟨h,rfl,rfl,Nat.le_refl _⟩⟩⟩
theorem RelV.mono{hp hp':Nat→Option Blk}{pl pl':Nat→Value}{S S':Nat→Prop}{w w':World}{a:AV}{v:Value}(h:RelV hp pl S w a v)(hE:Al5 hp pl hp' pl')
  (hS:∀ k,S k→S' k) (hw:∀ k,S k→w'.heap[k]?=w.heap[k]?):RelV hp' pl' S' w' a v:=by
 induction h with
 | pure a v h=>exact .pure a v (h.mono hS hw)
 | own id ver v B hB hv h1 h =>
  obtain⟨B',hB',hc⟩:=hE id B hB
  refine .own id ver v B' hB' (by rcases hc with hc | hc <;> omega) h1 fun e hl=>?_
  rcases hc with hc | ⟨hc,hk⟩
  ·omega
  ·obtain⟨h4,h2,_⟩:=hk hl
   rw[h2];exact h (by omega) h4
 | vw id ver lo n v B hB hv h1 h =>
  obtain⟨B',hB',hc⟩:=hE id B hB
  refine .vw id ver lo n v B' hB' (by rcases hc with hc | hc <;> omega) h1 fun e hl=>?_
  rcases hc with hc | ⟨hc,hk⟩
  ·omega
  ·obtain⟨h4,h2,h3,h5⟩:=hk hl
   rw[h2,h3]
   obtain⟨g,cap,e1,e2,e3,e4,e5⟩:=h (by omega) h4
   exact⟨g,cap,e1,e2,e3,by omega,e5⟩
 | ptr id ver r c v B hB hv h1 h =>
  obtain⟨B',hB',hc⟩:=hE id B hB
  refine .ptr id ver r c v B' hB' (by rcases hc with hc | hc <;> omega) h1 fun e hl=>?_
  rcases hc with hc | ⟨hc,hk⟩
  ·omega
  ·obtain⟨h4,h2,h3,_⟩:=hk hl
   rw[h2,h3];exact h (by omega) h4
 | fn f first cap v1 v2 l1 l2 h1 h2 ih1 ih2=>exact .fn f first cap v1 v2 l1 l2 ih1 ih2
 | ifc t x v h ih=>exact .ifc t x v ih
def BlkRel(base:Nat)(hp:Nat→Option Blk)(pl:Nat→Value)(S:Nat→Prop)(w:World)(v:Value)(B:Blk):Prop :=
 match B.k with
 | .var cells=>∃ g vs,v=.pointer (some ⟨g,0,none⟩)∧base≤g∧w.heap[g]?=some (.cells vs B.ty (0,0))∧vs.size=cells.length∧(∀ u∈vs.toList,u.oneCell'=true) ∧
   ∀(j:Nat) (a:AV) (u:Value),cells[j]?=some a→vs[j]?=some u→RelV hp pl S w a u
 | .arr cells=>∃ g vs,v=.pointer (some ⟨g,0,none⟩)∧base≤g∧w.heap[g]?=some (.cells vs B.ty (0,0))∧vs.size=cells.length∧(∀ u∈vs.toList,u.oneCell'=true) ∧
   ∀(j:Nat) (a:AV) (u:Value),cells[j]?=some a→vs[j]?=some u→RelV0 S w a u
 | .row sz rows=>(∀ r∈rows,r.length=sz)∧∃ xs,w.ownsRow base B.ty sz v rows.length xs∧(∀ u∈xs,u.oneCell'=true) ∧
   ∀(j:Nat) (a:AV) (u:Value),rows.flatten[j]?=some a→xs[j]?=some u→RelV0 S w a u
 | .map rows=>∃ g es,v=.map (some g)∧base≤g∧w.heap[g]?=some (.map es rows.length)∧es.size=rows.length ∧
   ∀(j:Nat) (r:List AV),rows[j]?=some r→∃ x b e,r=[.s x,b]∧es[j]?=some e∧e.born=j∧e.key=.string x∧RelV0 S w b e.val
 | .iter m n seen=>∃ g r,v=.pointer (some ⟨g,0,none⟩)∧base≤g∧w.heap[g]?=some (.mapIter (some r) n seen.toArray n)∧RelV hp pl S w m (.map (some r))
 | .gone=>True
structure St where
 slots:List (Nat×AV)
 hp:List (Nat×Blk)
structure Env where
 w0:World
 S0:Nat→Prop
 nt:Nat
 hS0:∀ k,S0 k→k < w0.heap.size
 K:Nat→Prop
 w1:World
 J:Nat→Prop:=fun _=>True
def Env.lo(E:Env)(k:Nat):Prop:=E.w0.heap.size≤k∧(k < E.w1.heap.size→E.J k)
def SS(E:Env)(hp:Nat→Option Blk)(pl:Nat→Value)(w:World)(k:Nat):Prop :=
 E.S0 k∨(E.lo k∧k < w.heap.size∧∀ id B,hp id=some B→B.live=true→blkOf (pl id)≠some k)
structure RelX (E:Env) (σ:St) (pl:Nat→Value) (a:Act) (w:World):Prop where
 nt:a.tmps.size=E.nt
 dfr:a.defers=[]
 below:Below E.w0.heap.size E.w0 w
 slots:∀ t av,look σ.slots t=some av→∃ v,a.tmps[t]?=some v∧RelV (look σ.hp) pl (SS E (look σ.hp) pl w) w av v
 blks:∀ id B,look σ.hp id=some B→BlkRel E.w0.heap.size (look σ.hp) pl (SS E (look σ.hp) pl w) w (pl id) B
 dist:∀ id id' B B',look σ.hp id=some B→look σ.hp id'=some B'→B.live=true→B'.live=true→id≠id'→∀ k,blkOf (pl id)=some k→blkOf (pl id')≠some k
 kept:E.w1.heap.size≤w.heap.size∧(∀ k,E.K k→(SS E (look σ.hp) pl w k∨(k < E.w1.heap.size∧¬ E.J k))∧w.heap[k]?=E.w1.heap[k]?)∧∀ id B,look σ.hp id=some B→B.live=true→∀ k,blkOf (pl id)=some k→k < E.w1.heap.size→E.J k
def Rel(E:Env)(σ:St)(a:Act)(w:World):Prop:=∃ pl,RelX E σ pl a w
def E6(P:Program)(f:FuncId):Prop:=∃ fn,P.funcs[f]?=some fn∧(fn.name == "runtime.NumGoroutine")=false∧fn.body.isNone=false
def Con(P:Program)(f:FuncId)(args:List AV)(res:AV):Prop :=
 E6 P f∧∀(w:World) (S0:Nat→Prop) (vs:List Value),(∀ k,S0 k→k < w.heap.size)→vs.length=args.length →
  (∀(j:Nat) (a:AV) (u:Value),args[j]?=some a→vs[j]?=some u→RelV0 S0 w a u) →
  Calls P f vs.toArray w fun e w'=>∃ v,e=.returned v∧RelV0 (fun k=>S0 k∨(w.heap.size≤k∧k < w'.heap.size)) w' res v∧Below w.heap.size w w'
end Go.E
namespace Go.E
open Go.RowKit
structure TI where
 desc:TypeDesc
 size:Nat
 bytes:Nat
 zero:List AV
def TI.isAgg(t:TI):Bool:=match t.desc with | .struct _ | .array _ _=>true | _=>false
def avC:Value→Option AV
 | .bool x=>some (.b x)
 | .int k n=>some (.i k n)
 | .string x=>some (.s x)
 | .pointer none=>some .np
 | .slice none 0 0=>some .nl
 | .nilFunc=>some .nilf
 | .nilIface=>some .nili
 | .map none=>some .dead
 | _=>none
def A8h:Value→Option AV
 | .agg cs=>(cs.toList.mapM avC).map .agg
 | .tuple cs=>if cs.isEmpty then some (.tup [])else none
 | v=>avC v
def TIok(P:Program)(t:Nat)(ti:TI):Prop :=
 P.underlying t=some ti.desc∧((P.info? t).map fun i=>(i.size,i.bytes,i.zero.map fun z=>z.cells.toList.map avC))=some (ti.size,ti.bytes,some (ti.zero.map some))
abbrev Tab:=List (Nat×TI)
def TabOk(P:Program)(T:Tab):Prop:=∀ t ti,look T t=some ti→TIok P t ti
def toV:AV→Option Value
 | .b x=>some (.bool x)
 | .i k n=>some (.int k n)
 | .s x=>some (.string x)
 | _=>none
def ofV:Value→Option AV
 | .bool x=>some (.b x)
 | .int k n=>some (.i k n)
 | .string x=>some (.s x)
 | _=>none
def A3a:Sem Value→Option Value
 | .pure v=>some v
 | _=>none
def W6:AV→Bool
 | .own .. | .vw .. | .ptr .. | .fn .. | .tup _ | .dead | .ifc ..=>false
 | _=>true
def Bf9:AV→Bool
 | .agg _ | .tup _ | .dead=>false
 | _=>true
def boxB:AV→Bool
 | .agg _=>true
 | a=>Bf9 a
def E0:AV→List AV
 | .agg cs=>cs
 | a=>[a]
def A00:AV:=.tup []
def Q1(v:AV):Pg Eff:=.ret { val:=v }
def B02:Option AV→Pg Eff
 | some v=>Q1 v
 | none=>.fail
def Bs7(ov:Ov)(e:Eff):Eff:=match ov.tell with
 | some a=>{ e with val:=a,obl:=(e.val=a) :: e.obl }
 | none=>e
def chk{α:Type}(c:Bool)(p:Pg α):Pg α:=if c then p else .fail
def A13{α:Type}(id ver:Nat)(k:Blk→Pg α):Pg α:=.get id fun
 | some B=>if B.ver == ver && B.live then k B else .fail
 | none=>.fail
def mkB(d ty:Nat)(k:BK)(v:Nat→AV)(obl:List Prop:=[]):Pg Eff:=.get d fun
 | some B=>.ret { val:=v (B.ver+1),ups:=[(d,⟨B.ver+1,ty,k⟩)],obl }
 | none=>.ret { val:=v 0,ups:=[(d,⟨0,ty,k⟩)],obl }
def I4{α β:Type}(f:α→Pg β):List α→Pg (List β)
 | []=>.ret []
 | a :: l=>(f a).bind fun b=>(I4 f l).bind fun bs=>.ret (b :: bs)
def Ba9(a:AV):Pg (AV×List Nat) :=
 match a with
 | .own id ver=>A13 id ver fun B=>match B.k with
  | .row _ rows=>.ret (.sl rows,[id])
  | _=>.fail
 | .vw id ver lo n=>A13 id ver fun B=>match B.k with
  | .row _ rows=>.ret (.sl ((rows.drop lo).take n),[id])
  | .arr cells=>.ret (.sl (((cells.drop lo).take n).map fun c=>[c]),[id])
  | _=>.fail
 | a=>chk (W6 a) (.ret (a,[]))
def B66(a:AV):Pg (AV×List Nat) :=
 match a with
 | .ptr id ver r c=>A13 id ver fun B=>match B.k with
  | .var cells=>chk (r == 0) ((I4 Ba9 (cells.drop c)).bind fun l=>.ret (.eptr (l.map (·.1)),id :: l.flatMap (·.2)))
  | .arr cells=>.ret (.eptr (cells.drop (r+c)),[id])
  | _=>.fail
 | a=>Ba9 a
def B03(a:AV):Pg (AV×List Nat) :=
 match a with
 | .fn f first cap=>(I4 B66 first).bind fun l1=>(I4 B66 cap).bind fun l2=>.ret (.fn f (l1.map (·.1)) (l2.map (·.1)),l1.flatMap (·.2)++l2.flatMap (·.2))
 | .ifc t x=>(Ba9 x).bind fun p=>.ret (.ifc t p.1,p.2)
 | a=>B66 a
def A01(ids:List Nat):Pg (List (Nat×Blk)) :=
 I4 (fun id=>Pg.get id fun
  | some B=>.ret (id,{ B with k:=.gone })
  | none=>.fail) ids
def B6c(P:Program)(ov:Ov)(f:FuncId)(vs:List AV):Pg Eff :=
 (I4 B03 vs).bind fun l =>
  match ov.val with
  | none=>.fail
  | some res =>
   if ov.flat then .ret { val:=res,obl:=[Flat res,Con P f (l.map (·.1)) res] }
   else(A01 (l.flatMap (·.2))).bind fun ups=>.ret { val:=res,ups,obl:=[Con P f (l.map (·.1)) res] }
def Ac8(a:AV):Pg (List AV×List (Nat×Blk)) :=
 match a with
 | .own id ver=>A13 id ver fun B=>match B.k with
  | .row _ rows=>.ret ([.sl rows],[(id,{ B with k:=.gone })])
  | _=>.fail
 | a=>chk (W6 a) (.ret (E0 a,[]))
def A4n(place:Nat→Option (Nat×Nat)):List AV→List (Nat×List AV)→Option (List AV)
 | cells,[]=>some cells
 | cells,(i,cs) :: rest =>
  match place i with
  | none=>none
  | some (off,size)=>if cs.length == size && Nat.ble (off+size) cells.length then A4n place (cells.take off++cs++cells.drop (off+size)) rest else none
def Q2(size:Nat):Nat→List AV→List (List AV)
 | 0,_=>[]
 | n+1,l=>l.take size :: Q2 size n (l.drop size)
def A1r(T:Tab):List Field→Option (List (Nat×Nat))
 | []=>some []
 | f :: fs=>match look T f.type,A1r T fs with
  | some ti,some l=>some ((f.offset,ti.size) :: l)
  | _,_=>none
def A1s(ρ:Operand→Option AV)(p:Nat×Operand):Pg (Nat×(List AV×List (Nat×Blk))) :=
 match ρ p.2 with
 | some a=>(Ac8 a).bind fun q=>.ret (p.1,q)
 | none=>.fail
def A14(a:AV)(k:List (List AV)→Pg Eff):Pg Eff :=
 match a with
 | .sl rows=>k rows
 | .nl=>k []
 | .own id ver=>A13 id ver fun B=>match B.k with | .row _ rows=>k rows | _=>.fail
 | .vw id ver lo n=>A13 id ver fun B=>match B.k with
  | .row _ rows=>k ((rows.drop lo).take n)
  | .arr cells=>k (((cells.drop lo).take n).map fun c=>[c])
  | _=>.fail
 | _=>.fail
def As0(ov:Ov)(d:List AV):List AV:=match ov.rows with | some [cs]=>cs | _=>d
def B1u(ov:Ov)(d:List AV):List Prop:=match ov.rows with | some [cs]=>[d=cs] | _=>[]
theorem B1v{ov:Ov}{d:List AV}(h:∀ p∈B1u ov d,p):As0 ov d=d:=by
 unfold As0 B1u at *
 split
 ·rename_i cs hcs
  rw[hcs]at h
  exact(h (d=cs) (by simp)).symm
 ·rfl
def K3(ov:Ov)(d:List (List AV)):List (List AV):=match ov.rows with | some rs=>rs | none=>d
def L6(ov:Ov)(d:List (List AV)):List Prop:=match ov.rows with | some rs=>[d=rs] | none=>[]
theorem J4{ov:Ov}{d:List (List AV)}(h:∀ p∈L6 ov d,p):K3 ov d=d:=by
 unfold K3 L6 at *
 split
 ·rename_i rs hrs
  rw[hrs]at h
  exact(h (d=rs) (by simp)).symm
 ·rfl
def B9(x y:AV):Prop:=∀(S:Nat→Prop) (w:World) (v:Value),RelV0 S w x v→RelV0 S w y v
def ZLe(a b:List AV):Prop:=a.length=b.length∧∀(j:Nat) (x y:AV),a[j]?=some x→b[j]?=some y→B9 x y
def Ac3(ov:Ov)(z:List AV):List AV:=match ov.row with | []=>z | r=>r
theorem B9.refl(x:AV):B9 x x:=fun _ _ _ h=>h
theorem B9.nl:B9 .nl (.sl []):=fun S w v h=>by
 cases h
 exact .sl [] none 0 0 (fun _ _=>.bool false) (by simp) (by simp) (fun _=>rfl) (fun r hr=>by simp at hr) (fun h=>by simp at h) (fun _ _=>rfl) (fun j q r a hr=>by simp at hr)
theorem B9.dead{x:AV}:B9 x .dead:=fun _ _ v _=>.dead v
theorem B9.eq{x y:AV}(h:x=y):B9 x y:=by rw[h];exact B9.refl y
theorem B9.nl'{rows:List (List AV)}(h:rows=[]):B9 .nl (.sl rows):=by rw[h];exact B9.nl
theorem ZLe.nil:ZLe [] []:=⟨rfl,fun j x y hx=>by simp at hx⟩
theorem ZLe.cons{x y:AV}{a b:List AV}(h:B9 x y)(hl:ZLe a b):ZLe (x :: a) (y :: b) :=
 ⟨by simp [hl.1],fun j u v hu hv=>by
  cases j with
  | zero=>simp at hu hv;subst hu hv;exact h
  | succ j=>exact hl.2 j u v (by simpa using hu) (by simpa using hv)⟩
theorem B9.agg{a b:List AV}(h:ZLe a b):B9 (.agg a) (.agg b):=fun S w v hv=>by
 cases hv with
 | agg _ vs hl h1 hr =>
  refine .agg b vs (hl.trans h.1) h1 fun j y u hy hu=>?_
  have hj:j < a.length:=by
   have:=h.1
   by_cases e:j < a.length
   ·exact e
   ·rw[List.getElem?_eq_none (by omega)]at hy;cases hy
  exact h.2 j _ y (List.getElem?_eq_getElem hj) hy S w u (hr j _ u (List.getElem?_eq_getElem hj) hu)
theorem B9.tup{a b:List AV}(h:ZLe a b):B9 (.tup a) (.tup b):=fun S w v hv=>by
 cases hv with
 | tup _ vs hl hr =>
  refine .tup b vs (hl.trans h.1) fun j y u hy hu=>?_
  have hj:j < a.length:=by
   have:=h.1
   by_cases e:j < a.length
   ·exact e
   ·rw[List.getElem?_eq_none (by omega)]at hy;cases hy
  exact h.2 j _ y (List.getElem?_eq_getElem hj) hy S w u (hr j _ u (List.getElem?_eq_getElem hj) hu)
theorem Con.le{P:Program}{f:FuncId}{args args':List AV}{res:AV}(h:Con P f args' res)(hl:ZLe args args'):Con P f args res:=by
 refine⟨h.1,fun w S0 vs hS hv hr=>h.2 w S0 vs hS (hv.trans hl.1) fun j y u hy hu=>?_⟩
 have hj:j < args.length:=by
  have:=hl.1
  by_cases e:j < args.length
  ·exact e
  ·rw[List.getElem?_eq_none (by omega)]at hy;cases hy
 exact hl.2 j _ y (List.getElem?_eq_getElem hj) hy S0 w u (hr j _ u (List.getElem?_eq_getElem hj) hu)
theorem ZLe.refl(a:List AV):ZLe a a:=⟨rfl,fun j x y hx hy=>by rw[hx]at hy;cases hy;exact B9.refl x⟩
def lenE(a:AV):Pg Eff :=
 match a with
 | .s x=>Q1 (.i .i64 x.size)
 | a=>A14 a fun rows=>Q1 (.i .i64 rows.length)
def B04(k:ByteArray):AV→Bool
 | .s x=>decide (x=k)
 | _=>false
def A6x(k:ByteArray):List (List AV)→Option AV
 | []=>none
 | [a,b] :: l=>if B04 k a then some b else A6x k l
 | _ :: l=>A6x k l
def Bs8(z:AV)(k:ByteArray)(rows:List (List AV)):AV:=(A6x k rows).getD z
def A47(k:ByteArray)(v:AV):List (List AV)→List (List AV)
 | []=>[[.s k,v]]
 | [a,b] :: l=>if B04 k a then[a,v] :: l else[a,b] :: A47 k v l
 | r :: l=>r :: A47 k v l
def As1(P:Program)(t:Nat)(z:AV):Prop:=((P.info? t).bind fun i=>i.zero).bind A8h=some z
def B6d(t:TI):AV:=if t.isAgg then .agg t.zero else t.zero.headD .dead
def Al8(rows:List (List AV))(seen:List Nat)(r:List AV):Prop:=(match seen.getLast? with | some j=>rows[j]? | none=>none)=some r
def rowAt(B:Blk)(r:Nat)(x:List AV):Prop:=match B.k with | .row _ rows=>rows[r]?=some x | _=>False
def A6y(P:Program)(t:Nat)(cs ds:List AV)(z:Bool):Prop :=
 ∀(S:Nat→Prop) (w:World) (v u:Value),RelV0 S w (.agg cs) v→RelV0 S w (.agg ds) u→(do eqGuard .eql t (.tmp 0) (.tmp 0) v u;binOp .eql t v u).run P w=.ok (.bool z) w
def valA:AV→Value
 | .b x=>.bool x
 | .i k n=>.int k n
 | .s x=>.string x
 | _=>.bool false
def R8:AV→Bool
 | .b _=>true
 | .i _ _=>true
 | .s _=>true
 | _=>false
def B6e(P:Program)(f g:FuncId)(t:Nat)(cap:Bool)(ty sz:Nat)(rows rs:List (List AV)):Prop :=
 E6 P f∧rs.length=rows.length∧(∀ r∈rs,r.length=sz)∧(∀ x∈rows.flatten,R8 x=true)∧(∀ x∈rs.flatten,R8 x=true) ∧
 ∀(w:World) (base:Nat) (v cv:Value),w.ownsRow base ty sz v rows.length (rows.flatten.map valA)→(cap=true→∃ gv,cv=.pointer (some ⟨gv,0,none⟩)∧gv < w.heap.size∧w.cell? ⟨gv,0,none⟩=some v∧blkOf v≠some gv) →
  Calls P f #[.iface t v,.func (.func g) #[] (if cap then #[cv]else #[])] w fun e w'=>e=.returned (.tuple #[])∧w'.ownsRow base ty sz v rows.length (rs.flatten.map valA)∧(∀ k,k < w.heap.size→blkOf v≠some k→w'.heap[k]?=w.heap[k]?) ∧
   w'.os=w.os∧w'.tape=w.tape∧w'.output=w.output∧w.heap.size≤w'.heap.size
def B1w(t:Option Nat)(v:Value):Value:=match t with | some t=>.iface t v | none=>v
def Z5(P:Program)(f g:FuncId)(t:Option Nat)(cap:Bool)(ty sz:Nat)(rows rs:List (List AV)):Prop :=
 E6 P f∧rs.length=rows.length∧(∀ r∈rs,r.length=sz) ∧
 ∀(w:World) (base:Nat) (v cv:Value) (S:Nat→Prop) (xs:List Value),(∀ k,S k→k < w.heap.size)→(∀ k,blkOf v=some k→¬ S k)→w.ownsRow base ty sz v rows.length xs→(∀ u∈xs,u.oneCell'=true) →
  (∀(j:Nat) (a:AV) (u:Value),rows.flatten[j]?=some a→xs[j]?=some u→RelV0 S w a u) →
  (cap=true→∃ gv,cv=.pointer (some ⟨gv,0,none⟩)∧gv < w.heap.size∧w.cell? ⟨gv,0,none⟩=some v∧blkOf v≠some gv) →
  Calls P f #[B1w t v,.func (.func g) #[] (if cap then #[cv]else #[])] w fun e w'=>e=.returned (.tuple #[]) ∧
   ∃ xs',w'.ownsRow base ty sz v rows.length xs'∧(∀ u∈xs',u.oneCell'=true)∧(∀(j:Nat) (a:AV) (u:Value),rs.flatten[j]?=some a→xs'[j]?=some u→RelV0 S w' a u) ∧
   (∀ k,k < w.heap.size→blkOf v≠some k→w'.heap[k]?=w.heap[k]?)∧w'.os=w.os∧w'.tape=w.tape∧w'.output=w.output∧w.heap.size≤w'.heap.size
def ioArg:AV→Option (Option Nat×Nat×Nat)
 | .ifc t (.own id ver)=>some (some t,id,ver)
 | .own id ver=>some (none,id,ver)
 | _=>none
def ioE(P:Program)(f:FuncId)(avs:List AV)(rs:List (List AV)):Pg Eff :=
 match avs with
 | [x0,.fn (.func g) [] cap]=>(match ioArg x0 with
  | some (t,id,ver)=>A13 id ver fun B=>(match B.k with
   | .row sz rows=>(match cap with
    | []=>.ret { val:=.tup [],ups:=[(id,{ B with k:=.row sz rs })],obl:=[Z5 P f g t false B.ty sz rows rs] }
    | [.ptr idv verv 0 0]=>A13 idv verv fun C=>(match C.k with
     | .var (x :: _)=>.ret { val:=.tup [],ups:=[(id,{ B with k:=.row sz rs })],obl:=[x=.own id ver,Z5 P f g t true B.ty sz rows rs] }
     | _=>.fail)
    | _=>.fail)
   | _=>.fail)
  | none=>.fail)
 | _=>.fail
def A48(P:Program)(f:FuncId)(args:List AV)(ty:Nat)(k:BK):Prop :=
 E6 P f∧∀(w:World) (S0:Nat→Prop) (vs:List Value),(∀ k,S0 k→k < w.heap.size)→vs.length=args.length →
  (∀(j:Nat) (a:AV) (u:Value),args[j]?=some a→vs[j]?=some u→RelV0 S0 w a u) →
  Calls P f vs.toArray w fun e w'=>∃ v,e=.returned v∧BlkRel w.heap.size (fun _=>none) (fun _=>.bool false) (fun b=>(S0 b∨(w.heap.size≤b∧b < w'.heap.size))∧blkOf v≠some b) w' v ⟨0,ty,k⟩∧Below w.heap.size w w'
def B6f(P:Program)(d ty:Nat)(k:BK)(mk:Nat→AV)(f:FuncId)(vs:List AV):Pg Eff :=
 (I4 B03 vs).bind fun l=>(A01 (l.flatMap (·.2))).bind fun ups =>
  (mkB d ty k mk [A48 P f (l.map (·.1)) ty k]).bind fun ef=>.ret { ef with ups:=ups++ef.ups }
def Bs9(P:Program)(f:FuncId)(ty sz:Nat)(rows:List (List AV))(args:List AV)(rs:List (List AV)):Prop :=
 E6 P f∧(∀ r∈rs,r.length=sz) ∧
 ∀(w:World) (base:Nat) (v:Value) (S:Nat→Prop) (xs vs:List Value),base≤w.heap.size→(∀ k,S k→k < w.heap.size)→(∀ k,blkOf v=some k→¬ S k)→w.ownsRow base ty sz v rows.length xs→(∀ u∈xs,u.oneCell'=true) →
  (∀(j:Nat) (a:AV) (u:Value),rows.flatten[j]?=some a→xs[j]?=some u→RelV0 S w a u)→vs.length=args.length →
  (∀(j:Nat) (a:AV) (u:Value),args[j]?=some a→vs[j]?=some u→RelV0 S w a u) →
  Calls P f (v :: vs).toArray w fun e w'=>∃ v' xs',e=.returned v'∧w'.ownsRow base ty sz v' rs.length xs'∧(∀ u∈xs',u.oneCell'=true) ∧
   (∀(j:Nat) (a:AV) (u:Value),rs.flatten[j]?=some a→xs'[j]?=some u→RelV0 (fun b=>S b∨(((w.heap.size≤b∧b < w'.heap.size)∨blkOf v=some b)∧blkOf v'≠some b)) w' a u)∧w.grownBy w' (blkOf v) ∧
   (∀ k,blkOf v'=some k→blkOf v=some k∨(w.heap.size≤k∧k < w'.heap.size))
def Bg0(P:Program)(f:FuncId)(avs:List AV)(rs:List (List AV)):Pg Eff :=
 match avs with
 | .own id ver :: rest=>A13 id ver fun B=>(match B.k with
  | .row sz rows=>(I4 B03 rest).bind fun l=>chk (l.flatMap (·.2)).isEmpty (.ret { val:=.own id (ver+1),ups:=[(id,⟨ver+1,B.ty,.row sz rs⟩)],obl:=[Bs9 P f B.ty sz rows (l.map (·.1)) rs] })
  | _=>.fail)
 | _=>.fail
def Bg1(P:Program)(ov:Ov)(d:Option Nat)(f:FuncId)(avs:List AV):Pg Eff :=
 match ov.val,d with
 | some (.vw _ _ _ _),_=>Bg0 P f avs (ov.rows.getD [])
 | some (.own ty sz),some d=>B6f P d ty (.row sz (ov.rows.getD [])) (fun v=>.own d v) f avs
 | some (.ptr ty _ _ _),some d=>B6f P d ty (.arr ov.row) (fun v=>.ptr d v 0 0) f avs
 | _,_=>match ov.rows with
  | some rs=>ioE P f avs rs
  | none=>B6c P ov f avs
def C4(P:Program)(T:Tab)(ov:Ov)(o:Oper)(ρ:Operand→Option AV):Pg Eff :=
 match o.op with
 | .move x | .assign x=>B02 (ρ x)
 | .pick c a b=>match ρ c with
  | some (.b true)=>B02 (ρ a)
  | some (.b false)=>B02 (ρ b)
  | _=>.fail
 | .alloc t=>match o.dst,look T t with
  | some d,some ti=>(match ti.desc with
   | .array _ _=>mkB d t (.arr ti.zero) (fun v=>.ptr d v 0 0)
   | _=>mkB d t (.var ti.zero) (fun v=>.ptr d v 0 0))
  | _,_=>.fail
 | .box t x=>match o.dst,look T t,ρ x with
  | some d,some ti,some a=>(match ti.desc with
   | .array _ _=>(match a with | .agg cs=>mkB d t (.arr cs) (fun v=>.ptr d v 0 0) | _=>.fail)
   | _=>chk (boxB a) (mkB d t (.var (E0 a)) (fun v=>.ptr d v 0 0)))
  | _,_,_=>.fail
 | .build t parts=>match look T t with
  | some ti=>(I4 (A1s ρ) parts.toList).bind fun l =>
   (match ti.desc with
   | .struct fs=>(match A1r T fs.toList with
    | some pl=>(match A4n (fun i=>pl[i]?) ti.zero (l.map fun p=>(p.1,p.2.1))with
     | some cells=>.ret { val:=.agg cells,ups:=l.flatMap fun p=>p.2.2 }
     | none=>.fail)
    | none=>.fail)
   | .array _ e=>(match look T e with
    | some te=>(match A4n (fun i=>some (i*te.size,te.size)) ti.zero (l.map fun p=>(p.1,p.2.1))with
     | some cells=>.ret { val:=.agg cells,ups:=l.flatMap fun p=>p.2.2 }
     | none=>.fail)
    | none=>.fail)
   | _=>.fail)
  | none=>.fail
 | .buildSlice t len parts=>match o.dst,look T t with
  | some d,some ti=>(match ti.desc with
   | .slice e=>(match look T e with
    | some te=>(I4 (A1s ρ) parts.toList).bind fun l =>
     (match A4n (fun i=>some (i*te.size,te.size)) (List.replicate len te.zero).flatten (l.map fun p=>(p.1,p.2.1))with
     | some cells=>chk (Nat.ble (len*te.size) 16777216 && Nat.ble 1 te.size && cells.length == len*te.size)
       ((mkB d e (.row te.size (K3 ov (Q2 te.size len cells))) (fun v=>.own d v) (L6 ov (Q2 te.size len cells))).bind fun ef=>.ret { ef with ups:=(l.flatMap fun p=>p.2.2)++ef.ups })
     | none=>.fail)
    | none=>.fail)
   | _=>.fail)
  | _,_=>.fail
 | .load t x=>match ρ x,look T t with
  | some (.ptr id ver r c),some ti=>A13 id ver fun B=>(match B.k with
   | .var cells=>if ti.isAgg then chk (r == 0 && ((cells.drop c).take ti.size).length == ti.size && ((cells.drop c).take ti.size).all fun a=>W6 a && Bf9 a) (Q1 (.agg ((cells.drop c).take ti.size)))
     else(match cells[c]? with | some a=>chk (r == 0) (Q1 a) | none=>.fail)
   | .arr cells=>if ti.isAgg then chk (r == 0 && c == 0) (.ret { val:=.agg cells,obl:=[cells.length=ti.size] })
     else(match ov.row with | [a]=>.ret { val:=a,obl:=[cells[r+c]?=some a] } | _=>.fail)
   | .row sz _=>if ti.isAgg then .ret { val:=.agg ((ov.row.drop c).take ti.size),obl:=[rowAt B r ov.row,c+ti.size≤ov.row.length] }
     else(match ov.row[c]? with | some a=>.ret { val:=a,obl:=[rowAt B r ov.row] } | none=>.fail)
   | _=>.fail)
  | some (.eptr cs),some ti=>if ti.isAgg then .ret { val:=.agg (cs.take ti.size),obl:=[ti.size≤cs.length] }else(match ov.row with | [a]=>.ret { val:=a,obl:=[cs[0]?=some a] } | _=>(match cs[0]? with | some a=>Q1 a | none=>.fail))
  | _,_=>.fail
 | .store t x y=>match ρ x,look T t,ρ y with
  | some (.ptr id ver r c),some ti,some a=>A13 id ver fun B=>(match B.k with
   | .var cells=>chk (r == 0 && boxB a && (E0 a).length == ti.size && Nat.ble (c+ti.size) cells.length)
     (.ret { val:=A00,ups:=[(id,{ B with k:=.var (cells.take c++E0 a++cells.drop (c+ti.size)) })] })
   | .arr cells=>(match a with
    | .agg cs=>chk (r == 0 && c == 0) (.ret { val:=A00,ups:=[(id,{ B with k:=.arr cs })],obl:=[cs.length=cells.length,cs.length=ti.size] })
    | a=>chk (ti.size == 1) ((Ac8 a).bind fun q=>chk (q.2.all fun p=>!(p.1 == id)) (.ret { val:=A00,ups:=q.2++[(id,{ B with k:=.arr (As0 ov (cells.set (r+c) (q.1.headD .dead))) })],obl:=[r+c < cells.length,q.1=[q.1.headD .dead]]++B1u ov (cells.set (r+c) (q.1.headD .dead)) })))
   | .row sz rows=>(Ac8 a).bind fun q=>chk (q.2.all fun p=>!(p.1 == id)) (.ret { val:=A00,ups:=q.2++[(id,{ B with k:=.row sz (K3 ov (rows.set r (ov.row.take c++q.1++ov.row.drop (c+ti.size)))) })],obl:=[rows[r]?=some ov.row,q.1.length=ti.size,c+ti.size≤sz]++L6 ov (rows.set r (ov.row.take c++q.1++ov.row.drop (c+ti.size))) })
   | _=>.fail)
  | _,_,_=>.fail
 | .nilCheck x=>match ρ x with
  | some (.ptr id ver r c)=>A13 id ver fun B=>Q1 (.ptr id ver r c)
  | some (.eptr cs)=>Q1 (.eptr cs)
  | some (.fn (.func f) first cap)=>Q1 (.fn (.func f) first cap)
  | _=>.fail
 | .binOp op t x y _=>match ρ x,ρ y with
  | some a,some b=>(match toV a,toV b with
   | some va,some vb=>(match A3a (binOp op t va vb)with
    | some v=>B02 (ofV v)
    | none=>(match op,a,b,(look T t).map TI.desc with
     | .eql,.b x,.b y,some .bool=>Q1 (.b (x == y))
     | .neq,.b x,.b y,some .bool=>Q1 (.b (!(x == y)))
     | _,_,_,_=>.fail))
   | _,_=>(match op,a,b,ov.val with
    | .eql,.agg cs,.agg ds,some (.b z)=>.ret { val:=.b z,obl:=[A6y P t cs ds z] }
    | .neq,.agg cs,.agg ds,some (.b z)=>.ret { val:=.b z,obl:=[A6y P t cs ds (!z)] }
    | _,_,_,_=>.fail))
  | _,_=>.fail
 | .unOp op _ x=>match ρ x with
  | some a=>(match toV a with
   | some va=>(match A3a (Op.unary op va)with | some v=>B02 (ofV v) | none=>.fail)
   | none=>.fail)
  | none=>.fail
 | .convert src dst x=>match look T src,look T dst,ρ x with
  | some ts,some td,some a=>(match ts.desc,td.desc,a with
   | .int _,.int k,.i _ n=>Q1 (.i k (k.wrap n))
   | .string,.string,.s x=>Q1 (.s x)
   | .slice e,.string,a=>(match look T e,ov.val with
    | some te,some (.s z)=>(match te.desc with
     | .int .u8=>A14 a fun rows=>.ret { val:=.s z,obl:=[rows=z.data.toList.map fun b=>[.i .u8 b.toNat]] }
     | _=>.fail)
    | _,_=>.fail)
   | _,_,_=>.fail)
  | _,_,_=>.fail
 | .makeInterface t x=>match look T t,ρ x with
  | some ti,some a=>(match ti.desc with | .interface _=>.fail | _=>Q1 (.ifc t a))
  | _,_=>.fail
 | .makeFunc f first cap=>match first.toList.mapM ρ,cap.toList.mapM ρ with
  | some l1,some l2=>Q1 (.fn f l1 l2)
  | _,_=>.fail
 | .makeSlice t x y=>match o.dst,look T t,ρ x,ρ y with
  | some d,some ti,some (.i _ n),some (.i _ m)=>(match ti.desc with
   | .slice e=>(match look T e with
    | some te=>if ov.flat then mkB d e (.row te.size []) (fun v=>.own d v) [n=0,m=(ov.n:Int),te.bytes*ov.n≤281474976710656,ov.n≤maxLen]
      else mkB d e (.row te.size (K3 ov (List.replicate ov.n (Ac3 ov te.zero)))) (fun v=>.own d v) ([n=(ov.n:Int),m=(ov.n:Int),te.bytes*ov.n≤281474976710656,ov.n≤maxLen,(Ac3 ov te.zero).length=te.size,ZLe te.zero (Ac3 ov te.zero)]++L6 ov (List.replicate ov.n (Ac3 ov te.zero)))
    | none=>.fail)
   | _=>.fail)
  | _,_,_,_=>.fail
 | .slice t x lo hi mx=>match look T t,ρ x,mx with
  | some ti,some a,none =>
   let l:Option Int:=match lo with | none=>some 0 | some q=>(match ρ q with | some (.i _ n)=>some n | _=>none)
   let h:Option (Option Int):=match hi with | none=>some none | some q=>(match ρ q with | some (.i _ n)=>some (some n) | _=>none)
   (match l,h,ti.desc,a with
   | some l,some h,.string,.s z=>.ret { val:=.s (z.extract l.toNat (h.getD z.size).toNat),obl:=[0≤l,l≤h.getD z.size,h.getD z.size≤z.size] }
   | some l,some h,.slice e,.sl rows=>(match look T e with
    | some te=>.ret { val:=.sl ((rows.take (h.getD rows.length).toNat).drop l.toNat),obl:=[0≤l,l≤h.getD rows.length,h.getD rows.length≤rows.length,∀ r∈rows,r.length=te.size] }
    | none=>.fail)
   | some l,some h,.slice e,.nl=>.ret { val:=.nl,obl:=[l=0,h.getD 0=0,(look T e).isSome=true] }
   | some l,some h,.slice e,.own id ver=>if ov.flat then A13 id ver fun B=>(match B.k with
    | .row sz rows=>.ret { val:=.own id (ver+1),ups:=[(id,⟨ver+1,B.ty,.row sz (K3 ov (rows.take (h.getD rows.length).toNat))⟩)],obl:=[l=0,0≤h.getD rows.length,h.getD rows.length≤rows.length,((look T e).map TI.size)=some sz]++L6 ov (rows.take (h.getD rows.length).toNat) }
    | _=>.fail)
    else A13 id ver fun B=>(match B.k with
    | .row sz rows=>.ret { val:=.vw id ver l.toNat (h.getD rows.length-l).toNat,obl:=[0≤l,l≤h.getD rows.length,h.getD rows.length≤rows.length,l < rows.length,((look T e).map TI.size)=some sz] }
    | _=>.fail)
   | some l,some h,.array n e,.ptr id ver r c=>A13 id ver fun B=>(match B.k with
    | .arr cells=>chk (r == 0 && c == 0) (.ret { val:=.vw id ver l.toNat (h.getD n-l).toNat,obl:=[0≤l,l≤h.getD n,h.getD n≤n,l < n,cells.length=n,((look T e).map TI.size)=some 1,n≤maxLen] })
    | _=>.fail)
   | _,_,_,_=>.fail)
  | _,_,_=>.fail
 | .fieldAddr t x f=>match look T t,ρ x with
  | some ti,some a=>(match ti.desc with
   | .struct fs=>(match fs[f]? with
    | some fd=>(match look T fd.type with
     | some tf=>chk (Nat.ble 1 tf.size) (match a with
      | .ptr id ver r c=>A13 id ver fun B=>Q1 (.ptr id ver r (c+fd.offset))
      | .eptr cs=>Q1 (.eptr (cs.drop fd.offset))
      | _=>.fail)
     | none=>.fail)
    | none=>.fail)
   | _=>.fail)
  | _,_=>.fail
 | .field t x f=>match look T t,ρ x with
  | some ti,some (.agg cs)=>(match ti.desc with
   | .struct fs=>(match fs[f]? with
    | some fd=>(match look T fd.type with
     | some tf=>if tf.isAgg then chk (((cs.drop fd.offset).take tf.size).length == tf.size) (Q1 (.agg ((cs.drop fd.offset).take tf.size)))else B02 cs[fd.offset]?
     | none=>.fail)
    | none=>.fail)
   | _=>.fail)
  | _,_=>.fail
 | .indexAddr t x ix=>match look T t,ρ x,ρ ix with
  | some ti,some a,some (.i _ n)=>(match ti.desc,a with
   | .slice e,.sl rows=>(match look T e with
    | some te=>.ret { val:=.eptr ov.row,obl:=[0≤n,rows[n.toNat]?=some ov.row,ov.row.length=te.size] }
    | none=>.fail)
   | .slice e,.own id ver=>A13 id ver fun B=>(match B.k,look T e with
    | .row sz rows,some te=>.ret { val:=.ptr id ver n.toNat 0,obl:=[0≤n,n.toNat < rows.length,te.size=sz] }
    | _,_=>.fail)
   | .slice e,.vw id ver lo m=>A13 id ver fun B=>(match B.k,look T e with
    | .row sz rows,some te=>.ret { val:=.ptr id ver (lo+n.toNat) 0,obl:=[0≤n,n.toNat < m,te.size=sz] }
    | _,_=>.fail)
   | .array len e,.ptr id ver r c=>A13 id ver fun B=>(match B.k,look T e with
    | .arr cells,some te=>chk (r == 0 && c == 0) (.ret { val:=.ptr id ver (n.toNat*te.size) 0,obl:=[0≤n,n < len] })
    | .var cells,some te=>chk (r == 0 && c == 0) (.ret { val:=.ptr id ver 0 (n.toNat*te.size),obl:=[0≤n,n < len] })
    | _,_=>.fail)
   | .array len e,.eptr cs=>(match look T e with
    | some te=>.ret { val:=.eptr (cs.drop (n.toNat*te.size)),obl:=[0≤n,n < len] }
    | none=>.fail)
   | _,_=>.fail)
  | _,_,_=>.fail
 | .index t x ix=>match look T t,ρ x,ρ ix with
  | some ti,some a,some (.i _ n)=>(match ti.desc,a with
   | .string,.s z=>(match ov.val with
    | some (.i .u8 m)=>.ret { val:=.i .u8 m,obl:=[0≤n,(z[n.toNat]?.map fun b=>(b.toNat:Int))=some m] }
    | _=>.fail)
   | .array len e,.agg cs=>(match look T e,ov.row with
    | some te,[q]=>chk (!te.isAgg) (.ret { val:=q,obl:=[0≤n,n < len,cs[n.toNat*te.size]?=some q] })
    | _,_=>.fail)
   | _,_=>.fail)
  | _,_,_=>.fail
 | .makeMap t none=>match o.dst with
  | some d=>mkB d t (.map []) (fun v=>.own d v)
  | none=>.fail
 | .lookup t x k ok=>match look T t,ρ x,ρ k with
  | some ti,some (.own id ver),some (.s key)=>(match ti.desc with
   | .map kt et=>(match look T kt,look T et with
    | some tk,some te=>(match tk.desc with
     | .string=>A13 id ver fun B=>(match B.k with
      | .map rows=>.ret { val:=if ok then .tup [Bs8 (B6d te) key rows,.b (A6x key rows).isSome]else Bs8 (B6d te) key rows,obl:=[As1 P et (B6d te)] }
      | _=>.fail)
     | _=>.fail)
    | _,_=>.fail)
   | _=>.fail)
  | _,_,_=>.fail
 | .mapUpdate t x k y=>match look T t,ρ x,ρ k,ρ y with
  | some ti,some (.own id ver),some (.s key),some v=>(match ti.desc with
   | .map kt _=>(match look T kt with
    | some tk=>(match tk.desc with
     | .string=>A13 id ver fun B=>(match B.k with
      | .map rows=>chk (W6 v) (.ret { val:=A00,ups:=[(id,{ B with k:=.map (K3 ov (A47 key v rows)) })],obl:=L6 ov (A47 key v rows) })
      | _=>.fail)
     | _=>.fail)
    | none=>.fail)
   | _=>.fail)
  | _,_,_,_=>.fail
 | .range t x=>match o.dst,look T t,ρ x with
  | some d,some ti,some (.own id ver)=>(match ti.desc with
   | .map _ _=>A13 id ver fun B=>(match B.k with
    | .map rows=>mkB d t (.iter (.own id ver) rows.length []) (fun v=>.own d v)
    | _=>.fail)
   | _=>.fail)
  | _,_,_=>.fail
 | .entry x=>match ρ x with
  | some (.own id ver)=>A13 id ver fun B=>(match B.k with
   | .iter (.own m mv) n seen=>A13 m mv fun C=>(match C.k,ov.row with
    | .map rows,[x,y]=>.ret { val:=.tup [x,y],obl:=[n=rows.length,Al8 rows seen [x,y]] }
    | _,_=>.fail)
   | _=>.fail)
  | _=>.fail
 | .extract x ix=>match ρ x with
  | some (.tup vs)=>B02 vs[ix]?
  | _=>.fail
 | .call c=>match c.callee with
  | .builtin .len=>(match c.args.toList.mapM ρ,c.argTypes.toList.mapM (look T)with
   | some [a],some [ti]=>(match ti.desc with
    | .string=>(match a with | .s _=>lenE a | _=>.fail)
    | .slice _=>(match a with | .s _=>.fail | _=>lenE a)
    | .array n _=>Q1 (.i .i64 n)
    | .map _ _=>(match a with | .own id ver=>A13 id ver fun B=>(match B.k with | .map rows=>Q1 (.i .i64 rows.length) | _=>.fail) | _=>.fail)
    | _=>.fail)
   | _,_=>.fail)
  | .builtin .cap=>(match c.args.toList.mapM ρ,c.argTypes.toList.mapM (look T)with
   | some [.nl],some [ti]=>(match ti.desc with | .slice _=>Q1 (.i .i64 0) | _=>.fail)
   | _,_=>.fail)
  | .builtin .min=>(match (c.args.toList.mapM ρ).bind (·.mapM toV)with
   | some vs=>(match A3a (Builtin.min_ c.argTypes o.type vs.toArray)with | some v=>B02 (ofV v) | none=>.fail)
   | none=>.fail)
  | .builtin .max=>(match (c.args.toList.mapM ρ).bind (·.mapM toV)with
   | some vs=>(match A3a (Builtin.max_ c.argTypes o.type vs.toArray)with | some v=>B02 (ofV v) | none=>.fail)
   | none=>.fail)
  | .builtin .append=>(match c.args.toList.mapM ρ,c.argTypes.toList with
   | some [a,b],[t,t']=>chk (t == t') (match look T t with
    | some ti=>(match ti.desc with
     | .slice e=>(match look T e with
      | some te=>chk (Nat.ble 1 te.size) (A14 b fun rows2=>(match a with
       | .own id ver=>A13 id ver fun B=>(match B.k with
        | .row sz rows=>.ret { val:=.own id (ver+1),ups:=[(id,⟨ver+1,B.ty,.row sz (K3 ov (rows++rows2))⟩)],obl:=[B.ty=e,te.size=sz,te.zero.length=te.size,∀ r∈rows2,r.length=sz,rows.length+rows2.length≤maxLen,(rows.length+rows2.length)*te.bytes≤140737488355328]++L6 ov (rows++rows2) }
        | _=>.fail)
       | .nl=>(match o.dst with
        | some d=>mkB d e (.row te.size (K3 ov (rows2))) (fun v=>.own d v)
          ([te.zero.length=te.size,∀ r∈rows2,r.length=te.size,rows2.length≤maxLen,rows2.length*te.bytes≤140737488355328]++L6 ov (rows2))
        | none=>.fail)
       | _=>.fail))
      | none=>.fail)
     | _=>.fail)
    | none=>.fail)
   | _,_=>.fail)
  | .builtin .clear=>(match c.args.toList.mapM ρ,c.argTypes.toList with
   | some [.vw id ver lo n],t :: _=>(match look T t with
    | some ti=>(match ti.desc with
     | .slice e=>(match look T e with
      | some te=>A13 id ver fun B=>(match B.k with
       | .row sz rows=>.ret { val:=.tup [],ups:=[(id,⟨ver,B.ty,.row sz (K3 ov (rows.take lo++List.replicate n (Ac3 ov te.zero)++rows.drop (lo+n)))⟩)],obl:=[te.size=sz,(Ac3 ov te.zero).length=te.size,ZLe te.zero (Ac3 ov te.zero),0 < n,lo+n≤rows.length]++L6 ov (rows.take lo++List.replicate n (Ac3 ov te.zero)++rows.drop (lo+n)) }
       | _=>.fail)
      | none=>.fail)
     | _=>.fail)
    | none=>.fail)
   | _,_=>.fail)
  | .builtin .copy=>(match c.args.toList.mapM ρ,c.argTypes.toList with
   | some [a,b],t :: _=>(match look T t with
    | some ti=>(match ti.desc with
     | .slice e=>(match look T e with
      | some te=>chk (te.size == 1) (A14 b fun rows2=>(match a with
       | .own id ver=>A13 id ver fun B=>(match B.k with
        | .row sz rows=>.ret { val:=.i .i64 (min rows2.length rows.length:Nat),ups:=[(id,⟨ver,B.ty,.row sz (K3 ov (rows2.take rows.length++rows.drop rows2.length))⟩)],obl:=[te.size=sz,∀ r∈rows2,r.length=sz]++L6 ov (rows2.take rows.length++rows.drop rows2.length) }
        | _=>.fail)
       | _=>.fail))
      | none=>.fail)
     | _=>.fail)
    | none=>.fail)
   | _,_=>.fail)
  | .value (.func f)=>(match c.args.toList.mapM ρ with
   | some vs=>Bg1 P ov o.dst f vs
   | none=>.fail)
  | .value (.tmp t)=>(match ρ (.tmp t),c.args.toList.mapM ρ with
   | some (.fn (.func f) first cap),some vs=>B6c P ov f (first++vs++cap)
   | _,_=>.fail)
  | _=>.fail
 | _=>.fail
end Go.E
namespace Go.E
open Go.RowKit
theorem C5{α:Type}{sz:Nat}:∀ {rows:List (List α)},(∀ r∈rows,r.length=sz)→rows.flatten.length=rows.length*sz
 | [],_=>by simp
 | r :: rows,h=>by
  rw[List.flatten_cons,List.length_append,C5 (fun x hx=>h x (List.mem_cons_of_mem _ hx)),h r (by simp),List.length_cons,Nat.add_mul]
  omega
theorem F5{α:Type}{sz:Nat}:∀ {rows:List (List α)} {j q:Nat} {r:List α},(∀ r∈rows,r.length=sz)→rows[j]?=some r→q < sz→rows.flatten[j*sz+q]?=r[q]?
 | [],j,q,r,_,h,_=>by simp at h
 | r0 :: rows,0,q,r,h,hr,hq=>by
  have:r0=r:=by simpa using hr
  subst this
  have hl:=h r0 (by simp)
  rw[List.flatten_cons,Nat.zero_mul,Nat.zero_add,List.getElem?_append_left (by omega)]
 | r0 :: rows,j+1,q,r,h,hr,hq=>by
  have hl:=h r0 (by simp)
  have hr':rows[j]?=some r:=by simpa using hr
  rw[List.flatten_cons,List.getElem?_append_right (by rw[hl,Nat.add_mul];omega),hl]
  have e:(j+1)*sz+q-sz=j*sz+q:=by rw[Nat.add_mul];omega
  rw[e]
  exact F5 (fun x hx=>h x (List.mem_cons_of_mem _ hx)) hr' hq
theorem lt_of_getElem?{α:Type}{l:List α}{j:Nat}{a:α}(h:l[j]?=some a):j < l.length:=by
 rcases Nat.lt_or_ge j l.length with h' | h'
 ·exact h'
 ·rw[List.getElem?_eq_none h']at h;cases h
theorem A4o{S:Nat→Prop}{w:World}{v:Value}{a:AV}(h:avC v=some a):RelV0 S w a v∧v.oneCell'=true:=by
 unfold avC at h
 split at h <;> simp only [Option.some.injEq,reduceCtorEq]at h <;> subst h
 ·exact⟨.b _,rfl⟩
 ·exact⟨.i _ _,rfl⟩
 ·exact⟨.s _,rfl⟩
 ·exact⟨.np,rfl⟩
 ·exact⟨.nl,rfl⟩
 ·exact⟨.nilf,rfl⟩
 ·exact⟨.nili,rfl⟩
 ·exact⟨.dead _,rfl⟩
theorem P1{α β:Type}{f:α→Option β}:∀ {l:List α} {m:List β},l.mapM f=some m→m.length=l.length∧∀(j:Nat) (a:α) (b:β),l[j]?=some a→m[j]?=some b→f a=some b
 | [],m,h=>by
  simp at h;subst h
  exact⟨rfl,fun j a b ha=>by simp at ha⟩
 | x :: l,m,h=>by
  simp only [List.mapM_cons,Option.bind_eq_bind,Option.pure_def]at h
  cases hx:f x with
  | none=>simp [hx]at h
  | some y =>
   cases hl:l.mapM f with
   | none=>simp [hx,hl]at h
   | some ys =>
    simp [hx,hl]at h
    subst h
    obtain⟨h1,h2⟩:=P1 hl
    refine⟨by simp [h1],fun j a b ha hb=>?_⟩
    cases j with
    | zero=>simp at ha hb;subst ha;subst hb;exact hx
    | succ j=>exact h2 j a b (by simpa using ha) (by simpa using hb)
theorem A4p{S:Nat→Prop}{w:World}{v:Value}{a:AV}(h:A8h v=some a):RelV0 S w a v:=by
 unfold A8h at h
 split at h
 ·rename_i cs
  cases hm:cs.toList.mapM avC with
  | none=>simp [hm]at h
  | some l =>
   simp [hm]at h
   subst h
   obtain⟨h1,h2⟩:=P1 hm
   have:=RelV0.agg (S:=S) (w:=w) l cs.toList h1.symm (fun u hu=>by
    obtain⟨j,hj,rfl⟩:=List.mem_iff_getElem.1 hu
    have hj':j < l.length:=by omega
    exact(A4o (S:=S) (w:=w) (h2 j _ _ (List.getElem?_eq_getElem hj) (List.getElem?_eq_getElem hj'))).2) (fun j a u ha hu=>(A4o (h2 j u a hu ha)).1)
   simpa using this
 ·rename_i cs
  split at h
  ·rename_i he
   have:cs=#[]:=by simpa using he
   subst this
   simp at h
   subst h
   exact .tup [] [] rfl (fun j a u ha=>by simp at ha)
  ·cases h
 ·exact(A4o h).1
def St.ev(σ:St):Operand→Option AV
 | .tmp t=>look σ.slots t
 | .const v=>A8h v
 | .func f=>some (.fn (.func f) [] [])
 | .global _=>none
theorem RelX.ev{E:Env}{σ:St}{pl:Nat→Value}{a:Act}{w:World}(h:RelX E σ pl a w){x:Operand}{av:AV}(hx:σ.ev x=some av) :
  RelV (look σ.hp) pl (SS E (look σ.hp) pl w) w av (a.eval x):=by
 cases x with
 | tmp t =>
  obtain⟨v,hv,hr⟩:=h.slots t av hx
  have e:a.eval (.tmp t)=v:=by simp [Act.eval,hv]
  rw[e];exact hr
 | const v=>exact .pure _ _ (A4p hx)
 | func f =>
  simp [St.ev]at hx
  subst hx
  exact .pure _ _ (.fn (.func f) [] [] [] [] rfl rfl (fun j a u ha=>by simp at ha) (fun j a u ha=>by simp at ha))
 | global g=>simp [St.ev]at hx
def St.app(σ:St)(d:Option Nat)(e:Eff):St :=
 ⟨Bs6 σ.slots d e.val,e.ups.foldl (fun h p=>put h p.1 p.2) σ.hp⟩
theorem RelX.put{E:Env}{σ:St}{pl:Nat→Value}{a:Act}{w:World}(h:RelX E σ pl a w)(d:Option Nat)(hd:∀ q,d=some q→q < E.nt){av:AV}{v:Value}
  (hv:RelV (look σ.hp) pl (SS E (look σ.hp) pl w) w av v):RelX E ⟨Bs6 σ.slots d av,σ.hp⟩ pl (a.put d v) w:=by
 cases d with
 | none=>exact⟨h.nt,h.dfr,h.below,h.slots,h.blks,h.dist,h.kept⟩
 | some d =>
  have hlt:d < a.tmps.size:=by rw[h.nt];exact hd d rfl
  refine⟨by simp [Act.put,h.nt],h.dfr,h.below,fun t u ht=>?_,h.blks,h.dist,h.kept⟩
  simp only [Bs6,C8]at ht
  split at ht
  ·rename_i e
   subst e
   simp only [Option.some.injEq]at ht
   subst ht
   exact⟨v,by simp [Act.put,hlt],hv⟩
  ·rename_i e
   obtain⟨v',h1,h2⟩:=h.slots t u ht
   exact⟨v',by simp only [Act.put];rw[Array.getElem?_setIfInBounds_ne (by omega)];exact h1,h2⟩
theorem RelX.mem{E:Env}{σ:St}{pl pl':Nat→Value}{a:Act}{w w':World}(h:RelX E σ pl a w)(hp':List (Nat×Blk))(hE:Al5 (look σ.hp) pl (look hp') pl')
  (hS:∀ k,SS E (look σ.hp) pl w k→SS E (look hp') pl' w' k) (hw:∀ k,SS E (look σ.hp) pl w k∨(k < E.w1.heap.size∧¬ E.J k)→w'.heap[k]?=w.heap[k]?) (hz:w.heap.size≤w'.heap.size) (hbelow:Below E.w0.heap.size E.w0 w')
  (hblks:∀ id B,look hp' id=some B→BlkRel E.w0.heap.size (look hp') pl' (SS E (look hp') pl' w') w' (pl' id) B)
  (hdist:∀ id id' B B',look hp' id=some B→look hp' id'=some B'→B.live=true→B'.live=true→id≠id'→∀ k,blkOf (pl' id)=some k→blkOf (pl' id')≠some k)
  (hown:∀ id B,look hp' id=some B→B.live=true→∀ k,blkOf (pl' id)=some k→k < E.w1.heap.size→E.J k) :
  RelX E ⟨σ.slots,hp'⟩ pl' a w' :=
 ⟨h.nt,h.dfr,hbelow,fun t av ht=>by obtain⟨v,h1,h2⟩:=h.slots t av ht;exact⟨v,h1,h2.mono hE hS fun k hk=>hw k (.inl hk)⟩,hblks,hdist,Nat.le_trans h.kept.1 hz,fun k hk=>⟨(h.kept.2.1 k hk).1.imp (hS k) id,(hw k (h.kept.2.1 k hk).1).trans (h.kept.2.1 k hk).2⟩,hown⟩
theorem BlkRel.keep{base:Nat}{hp hp':Nat→Option Blk}{pl pl':Nat→Value}{S S':Nat→Prop}{w w':World}{v:Value}{B:Blk}(h:BlkRel base hp pl S w v B)
  (hE:Al5 hp pl hp' pl') (hS:∀ k,S k→S' k) (hw:∀ k,S k→w'.heap[k]?=w.heap[k]?) (hb:B.live=true→∀ k,blkOf v=some k→w'.heap[k]?=w.heap[k]?):BlkRel base hp' pl' S' w' v B:=by
 unfold BlkRel at *
 split
 ·rename_i cells hk
  rw[hk]at h
  obtain⟨g,vs,rfl,hg,hh,hl,h1,hr⟩:=h
  exact⟨g,vs,rfl,hg,by rw[hb (by simp [Blk.live,hk]) g rfl];exact hh,hl,h1,fun j a u ha hu=>(hr j a u ha hu).mono hE hS hw⟩
 ·rename_i cells hk
  rw[hk]at h
  obtain⟨g,vs,rfl,hg,hh,hl,h1,hr⟩:=h
  exact⟨g,vs,rfl,hg,by rw[hb (by simp [Blk.live,hk]) g rfl];exact hh,hl,h1,fun j a u ha hu=>(hr j a u ha hu).mono hS hw⟩
 ·rename_i sz rows hk
  rw[hk]at h
  obtain⟨hsz,xs,ho,h1,hr⟩:=h
  refine⟨hsz,xs,?_,h1,fun j a u ha hu=>(hr j a u ha hu).mono hS hw⟩
  obtain⟨h2,h3⟩:=ho
  refine⟨h2,?_⟩
  rcases h3 with h3 | ⟨g,cap,cur,rfl,hg,hh,r⟩
  ·exact .inl h3
  ·exact .inr ⟨g,cap,cur,rfl,hg,by rw[hb (by simp [Blk.live,hk]) g rfl];exact hh,r⟩
 ·rename_i rows hk
  rw[hk]at h
  obtain⟨g,es,rfl,hg,hh,hl,hr⟩:=h
  refine⟨g,es,rfl,hg,by rw[hb (by simp [Blk.live,hk]) g rfl];exact hh,hl,fun j r hj=>?_⟩
  obtain⟨x,b,e,e1,e2,e3,e4,e5⟩:=hr j r hj
  exact⟨x,b,e,e1,e2,e3,e4,e5.mono hS hw⟩
 ·rename_i m n seen hk
  rw[hk]at h
  obtain⟨g,r,rfl,hg,hh,hr⟩:=h
  exact⟨g,r,rfl,hg,by rw[hb (by simp [Blk.live,hk]) g rfl];exact hh,hr.mono hE hS hw⟩
 ·trivial
theorem Bb0{base:Nat}{hp:Nat→Option Blk}{pl:Nat→Value}{S S':Nat→Prop}{w:World}{v:Value}{B:Blk}{sz:Nat}{rows:List (List AV)}(h:BlkRel base hp pl S w v B)(hk:B.k=.row sz rows)
  (hS:∀ k,S k→S' k) (hb:∀ k,blkOf v=some k→S' k):RelV0 S' w (.sl rows) v:=by
 unfold BlkRel at h
 rw[hk]at h
 obtain⟨hsz,xs,ho,h1,hr⟩:=h
 have hl:=ho.1
 rcases ho.2 with⟨rfl,h0⟩ | ⟨g,cap,cur,rfl,hg,hh,hnc,hcm,hcs,hcur⟩
 ·have:rows=[]:=List.eq_nil_of_length_eq_zero h0
  subst this
  exact .sl [] none 0 0 (fun _ _=>.nilIface) (by simp) (by simp) (by simp) (by simp) (by simp) (fun _ _=>rfl) (fun j q r a hr=>by simp at hr)
 ·refine .sl rows (some ⟨g,0,none⟩) cap sz (fun j q=>(xs[j*sz+q]?).getD .nilIface) hnc (by omega) (by simp) hsz (fun h0=>⟨_,rfl,hb g rfl,fun j q hj hq=>?_⟩) (fun j q=>?_) (fun j q r a hr' ha=>?_)
  ·have hlt:j*sz+q < rows.length*sz:=by
    have:(j+1)*sz≤rows.length*sz:=Nat.mul_le_mul_right _ hj
    rw[Nat.add_mul]at this
    omega
   have hc:=World.ownsRow.cellAt ho (j*sz+q) hlt
   have ha:((⟨g,0,none⟩:Addr).add (j*sz+q))=⟨g,j*sz+q,none⟩:=by unfold Addr.add;split <;> simp_all
   rw[ha,hc,List.getElem?_eq_getElem (by omega)]
   simp
  ·cases hx:xs[j*sz+q]? with
   | none=>rfl
   | some u=>exact h1 u (List.mem_of_getElem? hx)
  ·have hq:q < sz:=by
    have:=hsz r (List.mem_of_getElem? hr')
    have:=lt_of_getElem? ha
    omega
   have hf:=F5 hsz hr' hq
   rw[ha]at hf
   have hlt:j*sz+q < xs.length:=by
    have:=lt_of_getElem? hf
    rw[C5 hsz]at this
    omega
   have:=hr (j*sz+q) a xs[j*sz+q] hf (List.getElem?_eq_getElem hlt)
   simp only [List.getElem?_eq_getElem hlt,Option.getD_some]
   exact this.mono hS (fun _ _=>rfl)
theorem RelX.blk_lt{E:Env}{σ:St}{pl:Nat→Value}{a:Act}{w:World}(h:RelX E σ pl a w){id:Nat}{B:Blk}(hB:look σ.hp id=some B)(hl:B.live=true){k:Nat}(hk:blkOf (pl id)=some k) :
  E.w0.heap.size≤k∧k < w.heap.size:=by
 have hr:=h.blks id B hB
 unfold BlkRel at hr
 unfold Blk.live at hl
 split at hr
 ·obtain⟨g,vs,e,hg,hh,_⟩:=hr
  rw[e]at hk
  simp [blkOf]at hk
  subst hk
  exact⟨hg,(Array.getElem?_eq_some_iff.1 hh).1⟩
 ·obtain⟨g,vs,e,hg,hh,_⟩:=hr
  rw[e]at hk
  simp [blkOf]at hk
  subst hk
  exact⟨hg,(Array.getElem?_eq_some_iff.1 hh).1⟩
 ·obtain⟨_,xs,ho,_⟩:=hr
  rcases ho.2 with⟨e,_⟩ | ⟨g,cap,cur,e,hg,hh,_⟩
  ·rw[e]at hk;simp [blkOf]at hk
  ·rw[e]at hk
   simp [blkOf]at hk
   subst hk
   exact⟨hg,(Array.getElem?_eq_some_iff.1 hh).1⟩
 ·obtain⟨g,es,e,hg,hh,_⟩:=hr
  rw[e]at hk
  simp [blkOf]at hk
  subst hk
  exact⟨hg,(Array.getElem?_eq_some_iff.1 hh).1⟩
 ·obtain⟨g,r,e,hg,hh,_⟩:=hr
  rw[e]at hk
  simp [blkOf]at hk
  subst hk
  exact⟨hg,(Array.getElem?_eq_some_iff.1 hh).1⟩
 ·rename_i hk'
  rw[hk']at hl
  simp at hl
theorem SS.lt{E:Env}{hp:Nat→Option Blk}{pl:Nat→Value}{w:World}(hb:Below E.w0.heap.size E.w0 w){k:Nat}(h:SS E hp pl w k):k < w.heap.size:=by
 rcases h with h | h
 ·exact Nat.lt_of_lt_of_le (E.hS0 k h) hb.size
 ·exact h.2.1
theorem RelX.grow{E:Env}{σ:St}{pl:Nat→Value}{a:Act}{w w':World}(h:RelX E σ pl a w)(hb:Below w.heap.size w w') :
  RelX E σ pl a w'∧(∀ k,SS E (look σ.hp) pl w k→SS E (look σ.hp) pl w' k)∧(∀ k,w.heap.size≤k→k < w'.heap.size→SS E (look σ.hp) pl w' k):=by
 have hS:∀ k,SS E (look σ.hp) pl w k→SS E (look σ.hp) pl w' k:=by
  rintro k (hk | ⟨h1,h2,h3⟩)
  ·exact .inl hk
  ·exact .inr ⟨h1,Nat.lt_of_lt_of_le h2 hb.size,h3⟩
 refine⟨?_,hS,fun k hk hk'=>.inr ⟨⟨Nat.le_trans h.below.size hk,fun hlt=>absurd (Nat.lt_of_lt_of_le hlt (Nat.le_trans h.kept.1 hk)) (Nat.lt_irrefl _)⟩,hk',fun i C hC hl e=>?_⟩⟩
 ·have hr:=h.mem (pl':=pl) (w':=w') σ.hp (Al5.refl _ _) hS (fun k hk=>hb.block k (hk.elim (fun hk=>hk.lt h.below) fun hk=>Nat.lt_of_lt_of_le hk.1 h.kept.1)) hb.size (h.below.trans (hb.mono h.below.size))
   (fun i C hC=>(h.blks i C hC).keep (Al5.refl _ _) hS (fun k hk=>hb.block k (hk.lt h.below)) (fun hl k hk=>hb.block k (h.blk_lt hC hl hk).2)) h.dist h.kept.2.2
  exact hr
 ·have:=(h.blk_lt hC hl e).2
  omega
end Go.E
namespace Go.E
open Go.RowKit
def D8(pl:Nat→Value)(id:Nat)(v:Value):Nat→Value:=fun i=>if i=id then v else pl i
theorem RelX.chgS{E:Env}{σ:St}{pl:Nat→Value}{a:Act}{w w':World}(h:RelX E σ pl a w)(id:Nat)(B:Blk)(v:Value)(S1:Nat→Prop)
  (hS1:∀ k,S1 k→SS E (look σ.hp) pl w k∨(((w.heap.size≤k∧k < w'.heap.size)∨∃ C,look σ.hp id=some C∧C.live=true∧blkOf (pl id)=some k)∧blkOf v≠some k))
  (hver:(∀ C,look σ.hp id=some C→C.ver < B.ver)∨(∃ C,look σ.hp id=some C∧C.live=true∧C.ver=B.ver∧C.off=B.off∧v=pl id∧C.len≤B.len))
  (hheap:∀ k,k < w.heap.size→(∀ C,look σ.hp id=some C→C.live=true→blkOf (pl id)≠some k)→w'.heap[k]?=w.heap[k]?)
  (hos:w'.os=w.os) (htape:w'.tape=w.tape) (hout:w'.output=w.output) (hsize:w.heap.size≤w'.heap.size)
  (hv:∀ k,blkOf v=some k→(w.heap.size≤k∧k < w'.heap.size)∨(∃ C,look σ.hp id=some C∧C.live=true∧blkOf (pl id)=some k))
  (hB:BlkRel E.w0.heap.size (look σ.hp) pl S1 w' v B) :
  RelX E ⟨σ.slots,Go.E.put σ.hp id B⟩ (D8 pl id v) a w' ∧
   (∀ av u,RelV (look σ.hp) pl (SS E (look σ.hp) pl w) w av u→RelV (look (Go.E.put σ.hp id B)) (D8 pl id v) (SS E (look (Go.E.put σ.hp id B)) (D8 pl id v) w') w' av u) ∧
   (∀ k,SS E (look σ.hp) pl w k→SS E (look (Go.E.put σ.hp id B)) (D8 pl id v) w' k):=by
 have hE:Al5 (look σ.hp) pl (look (Go.E.put σ.hp id B)) (D8 pl id v):=by
  intro i C hC
  by_cases e:id=i
  ·subst e
   refine⟨B,by simp [C8],?_⟩
   rcases hver with hver | ⟨C',h1,h2,h3,h4,h5,h6⟩
   ·exact .inl (hver C hC)
   ·rw[hC]at h1
    simp only [Option.some.injEq]at h1
    subst h1
    exact .inr ⟨h3,fun _=>⟨h2,by simp [D8,h5],h4.symm,h6⟩⟩
  ·exact⟨C,by simp [C8,e,hC],.inr ⟨rfl,fun hl=>⟨hl,by simp [D8,Ne.symm e],rfl,Nat.le_refl _⟩⟩⟩
 have hS:∀ k,SS E (look σ.hp) pl w k→SS E (look (Go.E.put σ.hp id B)) (D8 pl id v) w' k:=by
  rintro k (hk | ⟨h1,h2,h3⟩)
  ·exact .inl hk
  ·refine .inr ⟨h1,Nat.lt_of_lt_of_le h2 hsize,fun i C hC hl=>?_⟩
   simp only [C8]at hC
   split at hC
   ·rename_i e
    subst e
    simp only [D8,if_true]
    intro hk
    rcases hv k hk with⟨h4,_⟩ | ⟨C',h4,h5,h6⟩
    ·omega
    ·exact h3 id C' h4 h5 h6
   ·rename_i e
    simp only [D8,if_neg (Ne.symm e)]
    exact h3 i C hC hl
 have hS':∀ k,S1 k→SS E (look (Go.E.put σ.hp id B)) (D8 pl id v) w' k:=by
  intro k hk
  rcases hS1 k hk with hk | ⟨g1,g3⟩
  ·exact hS k hk
  ·have hlo:E.lo k∧k < w'.heap.size:=by
    rcases g1 with⟨g1,g2⟩ | ⟨C,c1,c2,c3⟩
    ·exact⟨⟨Nat.le_trans h.below.size g1,fun hlt=>absurd (Nat.lt_of_lt_of_le hlt (Nat.le_trans h.kept.1 g1)) (Nat.lt_irrefl _)⟩,g2⟩
    ·exact⟨⟨(h.blk_lt c1 c2 c3).1,h.kept.2.2 id C c1 c2 k c3⟩,Nat.lt_of_lt_of_le (h.blk_lt c1 c2 c3).2 hsize⟩
   refine .inr ⟨hlo.1,hlo.2,fun i C hC hl=>?_⟩
   simp only [C8]at hC
   split at hC
   ·rename_i e
    subst e
    simp only [D8,if_true]
    exact g3
   ·rename_i e
    simp only [D8,if_neg (Ne.symm e)]
    intro e2
    rcases g1 with⟨g1,_⟩ | ⟨C0,c1,c2,c3⟩
    ·have:=(h.blk_lt hC hl e2).2
     omega
    ·exact h.dist id i C0 C c1 hC c2 hl e k c3 e2
 have hw:∀ k,SS E (look σ.hp) pl w k→w'.heap[k]?=w.heap[k]?:=by
  intro k hk
  refine hheap k (hk.lt h.below) fun C hC hl=>?_
  rcases hk with hk | ⟨_,_,h3⟩
  ·intro e
   have:=(h.blk_lt hC hl e).1
   have:=E.hS0 k hk
   omega
  ·exact h3 id C hC hl
 have hbelow:Below E.w0.heap.size E.w0 w':=h.below.trans ⟨hos,htape,hout,hsize,fun k hk=>hheap k (Nat.lt_of_lt_of_le hk h.below.size) fun C hC hl e=>by
  have:=(h.blk_lt hC hl e).1
  omega⟩
 refine⟨h.mem _ hE hS (fun k hk=>hk.elim (hw k) fun hk=>hheap k (Nat.lt_of_lt_of_le hk.1 h.kept.1) fun C hC hl e=>hk.2 (h.kept.2.2 id C hC hl k e hk.1)) hsize hbelow (fun i C hC=>?_) (fun i i' C C' hC hC' hl hl' hne k hk=>?_) (fun i C hC hl k hk hlt=>?_),fun av u hu=>hu.mono hE hS hw,hS⟩
 ·simp only [C8]at hC
  split at hC
  ·rename_i e
   subst e
   simp only [Option.some.injEq]at hC
   subst hC
   simp only [D8,if_true]
   exact hB.keep hE hS' (fun _ _=>rfl) (fun _ _ _=>rfl)
  ·rename_i e
   simp only [D8,if_neg (Ne.symm e)]
   exact(h.blks i C hC).keep hE hS hw fun hl k hk=>hheap k (h.blk_lt hC hl hk).2 fun C' hC' hl' hk'=>h.dist id i C' C hC' hC hl' hl e k hk' hk
 ·simp only [C8]at hC hC'
  split at hC
  ·rename_i e
   subst e
   rw[if_neg hne]at hC'
   simp only [D8,if_true]at hk
   simp only [D8,if_neg (Ne.symm hne)]
   intro hk'
   rcases hv k hk with⟨h4,_⟩ | ⟨C0,h4,h5,h6⟩
   ·have:=(h.blk_lt hC' hl' hk').2
    omega
   ·exact h.dist id i' C0 C' h4 hC' h5 hl' hne k h6 hk'
  ·rename_i e
   simp only [D8,if_neg (Ne.symm e)]at hk
   split at hC'
   ·rename_i e'
    subst e'
    simp only [D8,if_true]
    intro hk'
    rcases hv k hk' with⟨h4,_⟩ | ⟨C0,h4,h5,h6⟩
    ·have:=(h.blk_lt hC hl hk).2
     omega
    ·exact h.dist i id C C0 hC h4 hl h5 (Ne.symm e) k hk h6
   ·rename_i e'
    simp only [D8,if_neg (Ne.symm e')]
    exact h.dist i i' C C' hC hC' hl hl' hne k hk
 ·simp only [C8]at hC
  split at hC
  ·rename_i e
   subst e
   simp only [D8,if_true]at hk
   rcases hv k hk with⟨h4,_⟩ | ⟨C0,h4,h5,h6⟩
   ·have:=h.kept.1
    omega
   ·exact h.kept.2.2 id C0 h4 h5 k h6 hlt
  ·rename_i e
   simp only [D8,if_neg (Ne.symm e)]at hk
   exact h.kept.2.2 i C hC hl k hk hlt
theorem RelX.chg{E:Env}{σ:St}{pl:Nat→Value}{a:Act}{w w':World}(h:RelX E σ pl a w)(id:Nat)(B:Blk)(v:Value)
  (hver:(∀ C,look σ.hp id=some C→C.ver < B.ver)∨(∃ C,look σ.hp id=some C∧C.live=true∧C.ver=B.ver∧C.off=B.off∧v=pl id∧C.len≤B.len))
  (hheap:∀ k,k < w.heap.size→(∀ C,look σ.hp id=some C→C.live=true→blkOf (pl id)≠some k)→w'.heap[k]?=w.heap[k]?)
  (hos:w'.os=w.os) (htape:w'.tape=w.tape) (hout:w'.output=w.output) (hsize:w.heap.size≤w'.heap.size)
  (hv:∀ k,blkOf v=some k→(w.heap.size≤k∧k < w'.heap.size)∨(∃ C,look σ.hp id=some C∧C.live=true∧blkOf (pl id)=some k))
  (hB:BlkRel E.w0.heap.size (look σ.hp) pl (SS E (look σ.hp) pl w) w' v B) :
  RelX E ⟨σ.slots,Go.E.put σ.hp id B⟩ (D8 pl id v) a w' ∧
   (∀ av u,RelV (look σ.hp) pl (SS E (look σ.hp) pl w) w av u→RelV (look (Go.E.put σ.hp id B)) (D8 pl id v) (SS E (look (Go.E.put σ.hp id B)) (D8 pl id v) w') w' av u) ∧
   (∀ k,SS E (look σ.hp) pl w k→SS E (look (Go.E.put σ.hp id B)) (D8 pl id v) w' k) :=
 h.chgS id B v (SS E (look σ.hp) pl w) (fun _ hk=>.inl hk) hver hheap hos htape hout hsize hv hB
theorem RelX.newS{E:Env}{σ:St}{pl:Nat→Value}{a:Act}{w w':World}(h:RelX E σ pl a w)(hb:Below w.heap.size w w')(id:Nat)(B:Blk)(v:Value)
  (hver:∀ C,look σ.hp id=some C→C.ver < B.ver) (hv:∀ k,blkOf v=some k→w.heap.size≤k∧k < w'.heap.size)
  (hB:BlkRel E.w0.heap.size (look σ.hp) pl (fun k=>SS E (look σ.hp) pl w k∨(w.heap.size≤k∧k < w'.heap.size∧blkOf v≠some k)) w' v B) :
  RelX E ⟨σ.slots,Go.E.put σ.hp id B⟩ (D8 pl id v) a w' :=
 (h.chgS id B v _ (fun _ hk=>hk.elim .inl fun hk=>.inr ⟨.inl ⟨hk.1,hk.2.1⟩,hk.2.2⟩) (.inl hver) (fun k hk _=>hb.block k hk) hb.os hb.tape hb.output hb.size (fun k hk=>.inl (hv k hk)) hB).1
theorem RelX.new{E:Env}{σ:St}{pl:Nat→Value}{a:Act}{w w':World}(h:RelX E σ pl a w)(hb:Below w.heap.size w w')(id:Nat)(B:Blk)(v:Value)
  (hver:∀ C,look σ.hp id=some C→C.ver < B.ver) (hv:∀ k,blkOf v=some k→w.heap.size≤k∧k < w'.heap.size)
  (hB:BlkRel E.w0.heap.size (look σ.hp) pl (SS E (look σ.hp) pl w) w' v B) :
  RelX E ⟨σ.slots,Go.E.put σ.hp id B⟩ (D8 pl id v) a w' ∧
   (∀ av u,RelV (look σ.hp) pl (SS E (look σ.hp) pl w) w av u→RelV (look (Go.E.put σ.hp id B)) (D8 pl id v) (SS E (look (Go.E.put σ.hp id B)) (D8 pl id v) w') w' av u) ∧
   (∀ k,SS E (look σ.hp) pl w k→SS E (look (Go.E.put σ.hp id B)) (D8 pl id v) w' k) :=
 h.chg id B v (.inl hver) (fun k hk _=>hb.block k hk) hb.os hb.tape hb.output hb.size (fun k hk=>.inl (hv k hk)) hB
end Go.E
namespace Go.E
open Go.RowKit
def Ok(P:Program)(E:Env)(o:Oper)(a:Act)(w:World)(σ':St):Prop :=
 ∀(K:Act→World→Prop) (Q:Exit→Act→World→Prop),(∀ a' w',Rel E σ' a' w'→K a' w')→o.wp P a w K Q
section
variable {P : Program} {E : Env} {T : Tab} {ov : Ov} {o : Oper} {σ : St} {pl : Nat → Value} {a : Act} {w : World} {eff : Eff} {log : List Nat}
theorem Ok.value{σ':St}{v:Value}{w':World}(hr:(execOp a.eval o).run P w=.ok (.value v) w')(h:Rel E σ' (a.put o.dst v) w'):Ok P E o a w σ':=by
 intro K Q hK
 unfold Oper.wp
 rw[hr]
 exact hK _ _ h
theorem Ok.skip{σ':St}{w':World}(hr:(execOp a.eval o).run P w=.ok .skip w')(h:Rel E σ' (a.put o.dst undef) w'):Ok P E o a w σ':=by
 intro K Q hK
 unfold Oper.wp
 rw[hr]
 exact hK _ _ h
theorem Ok.pure{v:Value}{av:AV}{obl:List Prop}(h:RelX E σ pl a w)(hd:∀ q,o.dst=some q→q < E.nt)(hr:(execOp a.eval o).run P w=.ok (.value v) w)
  (hv:RelV (look σ.hp) pl (SS E (look σ.hp) pl w) w av v):Ok P E o a w (σ.app o.dst { val:=av,obl:=obl }) :=
 .value hr ⟨pl,h.put o.dst hd hv⟩
theorem L7{hp:Nat→Option Blk}{S:Nat→Prop}{av:AV}{v:Value}(h:RelV hp pl S w av v)(hp':W6 av=true):RelV0 S w av v:=by
 cases h with
 | pure _ _ h=>exact h
 | own=>simp [W6]at hp'
 | vw=>simp [W6]at hp'
 | ptr=>simp [W6]at hp'
 | fn=>simp [W6]at hp'
 | ifc=>simp [W6]at hp'
theorem As2{hp:Nat→Option Blk}{S:Nat→Prop}{vs:List AV}{v:Value}(h:RelV hp pl S w (.tup vs) v):RelV0 S w (.tup vs) v:=by
 cases h with
 | pure _ _ h=>exact h
theorem E3{hp:Nat→Option Blk}{S:Nat→Prop}{av:AV}{v u:Value}(h:RelV hp pl S w av v)(hu:toV av=some u):v=u:=by
 cases h with
 | pure _ _ h=>cases h <;> simp [toV]at hu <;> exact hu
 | own=>simp [toV]at hu
 | vw=>simp [toV]at hu
 | ptr=>simp [toV]at hu
 | fn=>simp [toV]at hu
 | ifc=>simp [toV]at hu
theorem A8i{S:Nat→Prop}{av:AV}{v:Value}(h:ofV v=some av):RelV0 S w av v:=by
 cases v <;> simp [ofV]at h <;> subst h
 ·exact .b _
 ·exact .i _ _
 ·exact .s _
theorem B6g{S:Nat→Prop}{av:AV}{v:Value}(h:RelV0 S w av v)(hu:Bf9 av=true):v.oneCell'=true:=by
 cases h <;> first | rfl | (simp [Bf9]at hu)
theorem B6h{hp:Nat→Option Blk}{S:Nat→Prop}{av:AV}{v:Value}(h:RelV hp pl S w av v)(hu:Bf9 av=true):v.oneCell'=true:=by
 cases h with
 | pure _ _ h=>exact B6g h hu
 | own _ _ _ _ _ _ h1=>exact h1
 | vw _ _ _ _ _ _ _ _ h1=>exact h1
 | ptr _ _ _ _ _ _ _ _ h1=>exact h1
 | fn=>rfl
 | ifc=>rfl
theorem W7{s:Sem Value}{v:Value}(h:A3a s=some v):s.run P w=.ok v w:=by
 cases s <;> simp [A3a]at h
 subst h
 rfl
theorem P2{x:Option AV}{hp:Nat→Option Blk}(h:(B02 x).run hp []=some (eff,log)):∃ av,x=some av∧eff={ val:=av }:=by
 cases x with
 | none=>simp [B02,Pg.run]at h
 | some av=>simp [B02,Q1,Pg.run]at h;exact⟨av,rfl,h.1.symm⟩
theorem B1x(h:RelX E σ pl a w)(hd:∀ q,o.dst=some q→q < E.nt)(x:Operand)(ho:o.op=.move x∨o.op=.assign x)
  (hrun:(B02 (σ.ev x)).run (look σ.hp) []=some (eff,log)):Ok P E o a w (σ.app o.dst eff):=by
 obtain⟨av,hx,rfl⟩:=P2 hrun
 refine .pure h hd (v:=a.eval x) ?_ (h.ev hx)
 rcases ho with ho | ho <;> simp [execOp,ho]
theorem Bg2(h:RelX E σ pl a w)(hd:∀ q,o.dst=some q→q < E.nt)(c x y:Operand)(ho:o.op=.pick c x y)
  (hrun:(C4 P T ov o σ.ev).run (look σ.hp) []=some (eff,log)):Ok P E o a w (σ.app o.dst eff):=by
 simp only [C4,ho]at hrun
 split at hrun
 ·rename_i hc
  obtain⟨av,hx,rfl⟩:=P2 hrun
  have:=E3 (h.ev hc) rfl
  exact .pure h hd (v:=a.eval x) (by simp [execOp,ho,this,asBool]) (h.ev hx)
 ·rename_i hc
  obtain⟨av,hx,rfl⟩:=P2 hrun
  have:=E3 (h.ev hc) rfl
  exact .pure h hd (v:=a.eval y) (by simp [execOp,ho,this,asBool]) (h.ev hx)
 ·simp [Pg.run]at hrun
theorem Bg3(h:RelX E σ pl a w)(hd:∀ q,o.dst=some q→q < E.nt)(op:UnOp)(t:TypeId)(x:Operand)(ho:o.op=.unOp op t x)
  (hrun:(C4 P T ov o σ.ev).run (look σ.hp) []=some (eff,log)):Ok P E o a w (σ.app o.dst eff):=by
 simp only [C4,ho]at hrun
 split at hrun
 ·rename_i av hx
  split at hrun
  ·rename_i va hva
   split at hrun
   ·rename_i v hv
    obtain⟨au,hu,rfl⟩:=P2 hrun
    have e:=E3 (h.ev hx) hva
    exact .pure h hd (v:=v) (by simp [execOp,ho,e,W7 hv]) (.pure _ _ (A8i hu))
   ·simp [Pg.run]at hrun
  ·simp [Pg.run]at hrun
 ·simp [Pg.run]at hrun
theorem Al9{op:BinOp}{t:TypeId}{x y:Operand}{av bv:AV}{va vb:Value}(ha:toV av=some va)(hb:toV bv=some vb):(eqGuard op t x y va vb).run P w=.ok () w:=by
 cases av <;> simp [toV]at ha <;> subst ha <;> cases bv <;> simp [toV]at hb <;> subst hb <;> cases op <;> rfl
theorem A4q{op:BinOp}{t:TypeId}{x y x' y':Operand}{cs ds:Array Value}:eqGuard op t x y (.agg cs) (.agg ds)=eqGuard op t x' y' (.agg cs) (.agg ds):=rfl
theorem A8j{S:Nat→Prop}{cs:List AV}{v:Value}(h:RelV0 S w (.agg cs) v):∃ vs,v=.agg vs:=by
 cases h with
 | agg _ vs=>exact⟨_,rfl⟩
theorem P3{hp:Nat→Option Blk}{S:Nat→Prop}{cs:List AV}{v:Value}(h:RelV hp pl S w (.agg cs) v):RelV0 S w (.agg cs) v:=by
 cases h with
 | pure _ _ h=>exact h
theorem A8k{t:TypeId}{cs ds:Array Value}{z:Bool}(h:(do eqGuard .eql t (.tmp 0) (.tmp 0) (.agg cs) (.agg ds);binOp .eql t (.agg cs) (.agg ds)).run P w=.ok (.bool z) w) :
  (do eqGuard .neq t (.tmp 0) (.tmp 0) (.agg cs) (.agg ds);binOp .neq t (.agg cs) (.agg ds)).run P w=.ok (.bool !z) w:=by
 have e:eqGuard .neq t (.tmp 0) (.tmp 0) (.agg cs) (.agg ds)=eqGuard .eql t (.tmp 0) (.tmp 0) (.agg cs) (.agg ds):=rfl
 rw[Sem.run_bind]at h ⊢
 rw[e]
 cases hg:(eqGuard .eql t (.tmp 0) (.tmp 0) (.agg cs) (.agg ds)).run P w with
 | halt x w'=>rw[hg]at h;simp at h
 | ok u w' =>
  rw[hg]at h
  simp only [Result.andThen_ok]at h ⊢
  simp only [binOp,Sem.run_bind]at h ⊢
  cases hq:(Op.equal t (.agg cs) (.agg ds)).run P w' with
  | halt x w''=>rw[hq]at h;simp at h
  | ok b w'' =>
   rw[hq]at h
   simp only [Result.andThen_ok,Sem.run_pure,Result.ok.injEq,Value.bool.injEq]at h ⊢
   exact⟨by rw[h.1],h.2⟩
theorem TabOk.desc{t:Nat}{d:TypeDesc}(hT:TabOk P T)(h:(look T t).map TI.desc=some d):P.underlying t=some d∧∃ ti,look T t=some ti:=by
 cases hl:look T t with
 | none=>rw[hl]at h;cases h
 | some ti =>
  rw[hl]at h
  simp only [Option.map_some,Option.some.injEq]at h
  exact⟨h ▸ (hT t ti hl).1,ti,rfl⟩
theorem B6i(hT:TabOk P T)(h:RelX E σ pl a w)(hd:∀ q,o.dst=some q→q < E.nt)(op:BinOp)(t:TypeId)(x y:Operand)(yt:TypeId)(ho:o.op=.binOp op t x y yt)
  (hrun:(C4 P T ov o σ.ev).run (look σ.hp) []=some (eff,log)) (hobl:All eff.obl):Ok P E o a w (σ.app o.dst eff):=by
 simp only [C4,ho]at hrun
 split at hrun
 ·rename_i av bv hx hy
  split at hrun
  ·rename_i va vb hva hvb
   split at hrun
   ·rename_i v hv
    obtain⟨au,hu,rfl⟩:=P2 hrun
    have e1:=E3 (h.ev hx) hva
    have e2:=E3 (h.ev hy) hvb
    exact .pure h hd (v:=v) (by simp [execOp,ho,e1,e2,Al9 hva hvb,W7 hv]) (.pure _ _ (A8i hu))
   ·split at hrun
    ·rename_i p q htd _
     simp only [Q1,Pg.run,Option.some.injEq,Prod.mk.injEq]at hrun
     obtain⟨rfl,_⟩:=hrun
     obtain⟨hu,_⟩:=hT.desc htd
     have e1:=E3 (h.ev hx) rfl
     have e2:=E3 (h.ev hy) rfl
     refine .pure h hd (v:=.bool (p == q)) ?_ (.pure _ _ (.b _))
     simp [execOp,ho,e1,e2,eqGuard,binOp,run_equal_bool w t p q hu]
    ·rename_i p q htd _
     simp only [Q1,Pg.run,Option.some.injEq,Prod.mk.injEq]at hrun
     obtain⟨rfl,_⟩:=hrun
     obtain⟨hu,_⟩:=hT.desc htd
     have e1:=E3 (h.ev hx) rfl
     have e2:=E3 (h.ev hy) rfl
     refine .pure h hd (v:=.bool (!(p == q))) ?_ (.pure _ _ (.b _))
     simp [execOp,ho,e1,e2,eqGuard,binOp,run_equal_bool w t p q hu]
    ·simp [Pg.run]at hrun
  ·split at hrun
   ·rename_i cs ds z _ hov
    simp only [Pg.run,Option.some.injEq,Prod.mk.injEq]at hrun
    obtain⟨rfl,_⟩:=hrun
    have r1:=P3 (h.ev hx)
    have r2:=P3 (h.ev hy)
    have hq:A6y P t cs ds z:=hobl
    have hq:=hq _ _ _ _ r1 r2
    obtain⟨v1,e1⟩:=A8j r1
    obtain⟨v2,e2⟩:=A8j r2
    rw[e1,e2]at hq
    refine .pure h hd (v:=.bool z) ?_ (.pure _ _ (.b z))
    simp only [execOp,ho,e1,e2,A4q (x':=.tmp 0) (y':=.tmp 0)]
    simp only [Sem.run_bind]at hq ⊢
    rw[hq]
    rfl
   ·rename_i cs ds z _ hov
    simp only [Pg.run,Option.some.injEq,Prod.mk.injEq]at hrun
    obtain⟨rfl,_⟩:=hrun
    have r1:=P3 (h.ev hx)
    have r2:=P3 (h.ev hy)
    have hq:A6y P t cs ds (!z):=hobl
    have hq:=hq _ _ _ _ r1 r2
    obtain⟨v1,e1⟩:=A8j r1
    obtain⟨v2,e2⟩:=A8j r2
    rw[e1,e2]at hq
    have hq:=A8k hq
    refine .pure h hd (v:=.bool z) ?_ (.pure _ _ (.b z))
    simp only [execOp,ho,e1,e2,A4q (x':=.tmp 0) (y':=.tmp 0)]
    simp only [Sem.run_bind,Bool.not_not]at hq ⊢
    rw[hq]
    rfl
   ·simp [Pg.run]at hrun
 ·simp [Pg.run]at hrun
theorem B05(h:RelX E σ pl a w)(hd:∀ q,o.dst=some q→q < E.nt)(x:Operand)(ix:Nat)(ho:o.op=.extract x ix)
  (hrun:(C4 P T ov o σ.ev).run (look σ.hp) []=some (eff,log)):Ok P E o a w (σ.app o.dst eff):=by
 simp only [C4,ho]at hrun
 split at hrun
 ·rename_i vs hx
  obtain⟨av,hv,rfl⟩:=P2 hrun
  have hr:=As2 (h.ev hx)
  generalize hu:a.eval x=u at hr
  cases hr with
  | tup _ us hl hh =>
   have hlt:=lt_of_getElem? hv
   have hlt':ix < us.length:=by omega
   refine .pure h hd (v:=us[ix]) ?_ (.pure _ _ (hh ix av _ hv (List.getElem?_eq_getElem hlt')))
   simp [execOp,ho,hu,Instr.extract,List.getElem?_eq_getElem hlt']
 ·simp [Pg.run]at hrun
theorem Am0(h:RelX E σ pl a w)(hd:∀ q,o.dst=some q→q < E.nt)(f:Go.Fn)(first cap:Array Operand)(ho:o.op=.makeFunc f first cap)
  (hrun:(C4 P T ov o σ.ev).run (look σ.hp) []=some (eff,log)):Ok P E o a w (σ.app o.dst eff):=by
 simp only [C4,ho]at hrun
 split at hrun
 ·rename_i l1 l2 h1 h2
  simp only [Q1,Pg.run,Option.some.injEq,Prod.mk.injEq]at hrun
  obtain⟨rfl,_⟩:=hrun
  obtain⟨n1,g1⟩:=P1 h1
  obtain⟨n2,g2⟩:=P1 h2
  refine .pure h hd (v:=.func f (first.map a.eval) (cap.map a.eval)) (by simp [execOp,ho,Instr.makeFunc]) ?_
  have:=RelV.fn (hp:=look σ.hp) (pl:=pl) (S:=SS E (look σ.hp) pl w) (w:=w) f l1 l2 (first.toList.map a.eval) (cap.toList.map a.eval) (by simp [n1]) (by simp [n2])
   (fun j av u ha hu=>by
    simp only [List.getElem?_map,Option.map_eq_some_iff]at hu
    obtain⟨x,hx,rfl⟩:=hu
    exact h.ev (g1 j x av hx ha))
   (fun j av u ha hu=>by
    simp only [List.getElem?_map,Option.map_eq_some_iff]at hu
    obtain⟨x,hx,rfl⟩:=hu
    exact h.ev (g2 j x av hx ha))
  rw[← Array.toList_map,← Array.toList_map,Array.toArray_toList,Array.toArray_toList]at this
  exact this
 ·simp [Pg.run]at hrun
theorem A41(hT:TabOk P T)(h:RelX E σ pl a w)(hd:∀ q,o.dst=some q→q < E.nt)(t:TypeId)(x:Operand)(ho:o.op=.makeInterface t x)
  (hrun:(C4 P T ov o σ.ev).run (look σ.hp) []=some (eff,log)):Ok P E o a w (σ.app o.dst eff):=by
 simp only [C4,ho]at hrun
 split at hrun
 ·rename_i ti av ht hx
  split at hrun
  ·simp [Pg.run]at hrun
  ·rename_i hne
   simp only [Q1,Pg.run,Option.some.injEq,Prod.mk.injEq]at hrun
   obtain⟨rfl,_⟩:=hrun
   have hu:=(hT t ti ht).1
   refine .pure h hd (v:=.iface t (a.eval x)) ?_ (.ifc t av _ (h.ev hx))
   have:(underlying t).run P w=.ok ti.desc w:=run_underlying hu w
   simp only [execOp,ho,Instr.makeInterface,Sem.run_bind,this,Result.andThen_ok]
   clear this hu ht
   generalize ti.desc=d at hne ⊢
   cases d <;> first | rfl | exact absurd rfl (hne _)
 ·simp [Pg.run]at hrun
theorem und{t:TypeId}{ti:TI}(hT:TabOk P T)(h:look T t=some ti)(w:World):(underlying t).run P w=.ok ti.desc w:=run_underlying (hT t ti h).1 w
theorem inf{t:TypeId}{ti:TI}(hT:TabOk P T)(h:look T t=some ti):∃ i z,P.info? t=some i∧i.size=ti.size∧i.bytes=ti.bytes∧i.zero=some z∧z.cells.toList.map avC=ti.zero.map some:=by
 have h2:=(hT t ti h).2
 cases hi:P.info? t with
 | none=>simp [hi]at h2
 | some i =>
  simp only [hi,Option.map_some,Option.some.injEq,Prod.mk.injEq]at h2
  cases hz:i.zero with
  | none=>simp [hz]at h2
  | some z =>
   simp only [hz,Option.map_some,Option.some.injEq]at h2
   exact⟨i,z,rfl,h2.1,h2.2.1,hz,h2.2.2⟩
theorem Ac9{t:TypeId}{ti:TI}(hT:TabOk P T)(h:look T t=some ti)(w:World):(sizeOf t).run P w=.ok ti.size w:=by
 obtain⟨i,z,h1,h2,_⟩:=inf hT h
 simp [sizeOf,typeInfo,h1,h2]
theorem A4r{t:TypeId}{ti:TI}(hT:TabOk P T)(h:look T t=some ti)(w:World):(isAgg t).run P w=.ok ti.isAgg w:=by
 unfold isAgg
 rw[Sem.run_bind,und hT h w,Result.andThen_ok]
 unfold TI.isAgg
 generalize ti.desc=d
 cases d <;> rfl
theorem A0f{ti:TI}{z:Value}(h:z.cells.toList.map avC=ti.zero.map some)(S:Nat→Prop)(w:World) :
  z.cells.size=ti.zero.length∧(∀ u∈z.cells.toList,u.oneCell'=true)∧∀(j:Nat) (a:AV) (u:Value),ti.zero[j]?=some a→z.cells[j]?=some u→RelV0 S w a u:=by
 have hl:z.cells.size=ti.zero.length:=by simpa using congrArg List.length h
 have key:∀(j:Nat) (a:AV) (u:Value),ti.zero[j]?=some a→z.cells[j]?=some u→avC u=some a:=by
  intro j a u ha hu
  have hj:=congrArg (fun l=>l[j]?) h
  simp only [List.getElem?_map,ha,Option.map_some]at hj
  have hu':z.cells.toList[j]?=some u:=by simpa using hu
  rw[hu']at hj
  simpa using hj
 refine⟨hl,fun u hu=>?_,fun j a u ha hu=>(A4o (key j a u ha hu)).1⟩
 obtain⟨j,hj,rfl⟩:=List.mem_iff_getElem.1 hu
 have hj':j < ti.zero.length:=by simp at hj;omega
 exact(A4o (S:=S) (w:=w) (key j _ _ (List.getElem?_eq_getElem hj') (by simp at hj;simp [hj]))).2
theorem Ad0{S:Nat→Prop}{cs:List AV}{vs:List Value}(hl:vs.length=cs.length)(h1:∀ u∈vs,u.oneCell'=true)
  (h:∀(j:Nat) (a:AV) (u:Value),cs[j]?=some a→vs[j]?=some u→RelV0 S w a u) (off n:Nat):RelV0 S w (.agg ((cs.drop off).take n)) (.agg ((vs.drop off).take n).toArray):=by
 refine .agg _ _ (by simp [hl]) (fun u hu=>h1 u (List.mem_of_mem_drop (List.mem_of_mem_take hu))) (fun j a u ha hu=>?_)
 rw[List.getElem?_take]at ha hu
 split at ha
 ·rw[if_pos (by assumption)]at hu
  rw[List.getElem?_drop]at ha hu
  exact h _ a u ha hu
 ·cases ha
theorem A6z(vs:List Value)(off n:Nat):vs.toArray.extract off (off+n)=((vs.drop off).take n).toArray:=by
 apply Array.ext'
 simp [Nat.add_sub_cancel_left]
theorem B6j(hT:TabOk P T)(h:RelX E σ pl a w)(hd:∀ q,o.dst=some q→q < E.nt)(t:TypeId)(x:Operand)(f:Nat)(ho:o.op=.field t x f)
  (hrun:(C4 P T ov o σ.ev).run (look σ.hp) []=some (eff,log)):Ok P E o a w (σ.app o.dst eff):=by
 simp only [C4,ho]at hrun
 split at hrun
 ·rename_i ti cs ht hx
  split at hrun
  ·rename_i fs hfs
   split at hrun
   ·rename_i fd hfd
    split at hrun
    ·rename_i tf htf
     have u1:=und hT ht w
     rw[hfs]at u1
     have hr:=P3 (h.ev hx)
     generalize hu:a.eval x=u at hr
     cases hr with
     | agg _ vs hl h1 hh =>
      split at hrun
      ·rename_i hag
       unfold chk at hrun
       split at hrun
       ·simp only [Q1,Pg.run,Option.some.injEq,Prod.mk.injEq]at hrun
        obtain⟨rfl,_⟩:=hrun
        refine .pure h hd (v:=.agg ((vs.drop fd.offset).take tf.size).toArray) ?_ (.pure _ _ (Ad0 hl h1 hh _ _))
        simp only [execOp,ho,hu,Instr.field,Sem.run_bind,u1,Result.andThen_ok,hfd,asAgg,Sem.run_pure,part,A4r hT htf,hag,if_true,Ac9 hT htf,A6z]
       ·simp [Pg.run]at hrun
      ·rename_i hag
       obtain⟨av,hv,rfl⟩:=P2 hrun
       have hlt:=lt_of_getElem? hv
       have hlt':fd.offset < vs.length:=by omega
       refine .pure h hd (v:=vs[fd.offset]) ?_ (.pure _ _ (hh _ av _ hv (List.getElem?_eq_getElem hlt')))
       have hq:vs.toArray[fd.offset]?=some vs[fd.offset]:=by simp [List.getElem?_eq_getElem hlt']
       simp only [execOp,ho,hu,Instr.field,Sem.run_bind,u1,Result.andThen_ok,hfd,asAgg,Sem.run_pure,part,A4r hT htf,hag,Bool.false_eq_true,if_false,hq]
    ·simp [Pg.run]at hrun
   ·simp [Pg.run]at hrun
  ·simp [Pg.run]at hrun
 ·simp [Pg.run]at hrun
end
end Go.E
namespace Go.E
open Go.RowKit
section
variable {P : Program} {E : Env} {T : Tab} {ov : Ov} {o : Oper} {σ : St} {pl : Nat → Value} {a : Act} {w : World} {eff : Eff} {log : List Nat}
theorem G2(g off n:Nat):(⟨g,off,none⟩:Addr).add n=⟨g,off+n,none⟩:=by unfold Addr.add;split <;> simp_all
theorem A49(ad:Addr)(m n:Nat):(ad.add m).add n=ad.add (m+n):=by
 unfold Addr.add
 by_cases hm:m=0
 ·subst hm;simp
 ·by_cases hn:n=0
  ·subst hn;simp
  ·have:m+n≠0:=by omega
   simp [hm,hn,this,Nat.add_assoc]
theorem D4{α:Type}{id ver:Nat}{k:Blk→Pg α}{hp:Nat→Option Blk}{l:List Nat}{r:α×List Nat}(h:(A13 id ver k).run hp l=some r) :
  ∃ B,hp id=some B∧B.ver=ver∧B.live=true∧(k B).run hp (id :: l)=some r:=by
 simp only [A13,Pg.run]at h
 cases hB:hp id with
 | none=>simp [hB,Pg.run]at h
 | some B =>
  simp only [hB]at h
  split at h
  ·rename_i hc
   simp only [Bool.and_eq_true,beq_iff_eq]at hc
   exact⟨B,rfl,hc.1,hc.2,h⟩
  ·simp [Pg.run]at h
theorem F9{α:Type}{c:Bool}{p:Pg α}{hp:Nat→Option Blk}{l:List Nat}{r:α×List Nat}(h:(chk c p).run hp l=some r):c=true∧p.run hp l=some r:=by
 unfold chk at h
 split at h
 ·exact⟨by assumption,h⟩
 ·simp [Pg.run]at h
theorem K1{hp:Nat→Option Blk}{S:Nat→Prop}{id ver r c:Nat}{v:Value}{B:Blk}(h:RelV hp pl S w (.ptr id ver r c) v)(hB:hp id=some B)(hv:B.ver=ver)(hl:B.live=true) :
  ∃ g,blkOf (pl id)=some g∧v=.pointer (some ⟨g,B.off r c,none⟩):=by
 cases h with
 | pure _ _ h=>cases h
 | ptr _ _ _ _ _ C hC _ _ hh =>
  rw[hB]at hC
  simp only [Option.some.injEq]at hC
  subst hC
  exact hh hv.symm hl
theorem F2{hp:Nat→Option Blk}{S:Nat→Prop}{id ver:Nat}{v:Value}{B:Blk}(h:RelV hp pl S w (.own id ver) v)(hB:hp id=some B)(hv:B.ver=ver)(hl:B.live=true):v=pl id:=by
 cases h with
 | pure _ _ h=>cases h
 | own _ _ _ C hC _ _ hh =>
  rw[hB]at hC
  simp only [Option.some.injEq]at hC
  subst hC
  exact hh hv.symm hl
theorem A8l{hp:Nat→Option Blk}{S:Nat→Prop}{id ver lo n:Nat}{v:Value}{B:Blk}(h:RelV hp pl S w (.vw id ver lo n) v)(hB:hp id=some B)(hv:B.ver=ver)(hl:B.live=true) :
  ∃ g cap,blkOf (pl id)=some g∧n≤cap∧n≤maxLen∧lo+n≤B.len∧v=.slice (some ⟨g,B.off lo 0,none⟩) n cap:=by
 cases h with
 | pure _ _ h=>cases h
 | vw _ _ _ _ _ C hC _ _ hh =>
  rw[hB]at hC
  simp only [Option.some.injEq]at hC
  subst hC
  exact hh hv.symm hl
theorem A1t{hp:Nat→Option Blk}{S:Nat→Prop}{cs:List AV}{v:Value}(h:RelV hp pl S w (.eptr cs) v):RelV0 S w (.eptr cs) v:=by
 cases h with
 | pure _ _ h=>exact h
theorem A3b{hp:Nat→Option Blk}{pl:Nat→Value}{S:Nat→Prop}{v:Value}(h:RelV hp pl S w .nl v):v=.slice none 0 0:=by
 cases h with
 | pure _ _ h0=>cases h0;rfl
theorem Am1{hp:Nat→Option Blk}{S:Nat→Prop}{rows:List (List AV)}{v:Value}(h:RelV hp pl S w (.sl rows) v):RelV0 S w (.sl rows) v:=by
 cases h with
 | pure _ _ h=>exact h
theorem A4s{t:TypeId}{ti tf:TI}{fs:Array Field}{fd:Field}{f:Nat}(hT:TabOk P T)(ht:look T t=some ti)(hfs:ti.desc=.struct fs)(hfd:fs[f]?=some fd)(htf:look T fd.type=some tf)
  (h1:1≤tf.size) (ad:Addr) (w:World):(Instr.fieldAt t (.pointer (some ad)) f).run P w=.ok (.pointer (some (ad.add fd.offset))) w:=by
 have u:=und hT ht w
 rw[hfs]at u
 have hne:tf.size≠0:=by omega
 simp only [Instr.fieldAt,Sem.run_bind,u,Result.andThen_ok,hfd,Instr.sureAddr,Sem.run_pure,fieldPlace,Ac9 hT htf,if_neg hne]
theorem Ad1(hT:TabOk P T)(h:RelX E σ pl a w)(hd:∀ q,o.dst=some q→q < E.nt)(t:TypeId)(x:Operand)(f:Nat)(ho:o.op=.fieldAddr t x f)
  (hrun:(C4 P T ov o σ.ev).run (look σ.hp) []=some (eff,log)):Ok P E o a w (σ.app o.dst eff):=by
 simp only [C4,ho]at hrun
 split at hrun
 ·rename_i ti av ht hx
  split at hrun
  ·rename_i fs hfs
   split at hrun
   ·rename_i fd hfd
    split at hrun
    ·rename_i tf htf
     have hcr:=F9 hrun
     clear hrun
     obtain⟨hc,hrun⟩:=hcr
     have h1:1≤tf.size:=Nat.le_of_ble_eq_true hc
     split at hrun
     ·rename_i id ver r c
      replace hrun:=D4 hrun
      obtain⟨B,hB,hv,hl,hrun⟩:=hrun
      simp only [Q1,Pg.run,Option.some.injEq,Prod.mk.injEq]at hrun
      obtain⟨rfl,_⟩:=hrun
      obtain⟨g,hg,he⟩:=K1 (h.ev hx) hB hv hl
      refine .pure h hd (v:=.pointer (some ⟨g,B.off r c+fd.offset,none⟩)) ?_ (.ptr id ver r (c+fd.offset) _ B hB (by omega) rfl fun _ _=>⟨g,hg,?_⟩)
      ·simp only [execOp,ho,he,Sem.run_bind,A4s hT ht hfs hfd htf h1,Result.andThen_ok,Sem.run_pure,G2]
      ·unfold Blk.off
       split <;> simp [Nat.add_assoc]
     ·rename_i cs
      simp only [Q1,Pg.run,Option.some.injEq,Prod.mk.injEq]at hrun
      obtain⟨rfl,_⟩:=hrun
      have hr:=A1t (h.ev hx)
      generalize hu:a.eval x=u at hr
      cases hr with
      | eptr _ ad u hS hA h1' hh =>
       refine .pure h hd (v:=.pointer (some (ad.add fd.offset))) ?_ (.pure _ _ (.eptr _ _ (fun q=>u (fd.offset+q)) (by rw[Q0];exact hS) (fun q hq=>?_) (fun q=>h1' _) (fun q b hb=>?_)))
       ·simp only [execOp,ho,hu,Sem.run_bind,A4s hT ht hfs hfd htf h1,Result.andThen_ok,Sem.run_pure]
       ·rw[A49]
        exact hA _ (by simp at hq;omega)
       ·rw[List.getElem?_drop]at hb
        exact hh _ b hb
     ·simp [Pg.run]at hrun
    ·simp [Pg.run]at hrun
   ·simp [Pg.run]at hrun
  ·simp [Pg.run]at hrun
 ·simp [Pg.run]at hrun
theorem RelX.varCell(h:RelX E σ pl a w){id:Nat}{B:Blk}{cells:List AV}(hB:look σ.hp id=some B)(hk:B.k=.var cells) :
  ∃ g vs,pl id=.pointer (some ⟨g,0,none⟩)∧w.heap[g]?=some (.cells vs B.ty (0,0))∧vs.size=cells.length∧(∀ u∈vs.toList,u.oneCell'=true) ∧
   ∀(j:Nat) (a:AV) (u:Value),cells[j]?=some a→vs[j]?=some u→RelV (look σ.hp) pl (SS E (look σ.hp) pl w) w a u:=by
 have:=h.blks id B hB
 unfold BlkRel at this
 rw[hk]at this
 obtain⟨g,vs,h1,_,h2⟩:=this
 exact⟨g,vs,h1,h2⟩
theorem RelX.arrCell(h:RelX E σ pl a w){id:Nat}{B:Blk}{cells:List AV}(hB:look σ.hp id=some B)(hk:B.k=.arr cells) :
  ∃ g vs,pl id=.pointer (some ⟨g,0,none⟩)∧w.heap[g]?=some (.cells vs B.ty (0,0))∧vs.size=cells.length∧(∀ u∈vs.toList,u.oneCell'=true) ∧
   ∀(j:Nat) (a:AV) (u:Value),cells[j]?=some a→vs[j]?=some u→RelV0 (SS E (look σ.hp) pl w) w a u:=by
 have:=h.blks id B hB
 unfold BlkRel at this
 rw[hk]at this
 obtain⟨g,vs,h1,_,h2⟩:=this
 exact⟨g,vs,h1,h2⟩
theorem T4(w:World)(g j:Nat)(vs:Array Value)(t:TypeId)(fr:Nat×Nat)(h:w.heap[g]?=some (.cells vs t fr)):w.cell? ⟨g,j,none⟩=vs[j]?:=cell_of_row w g j vs t fr h
theorem A1u{t:TypeId}{ti:TI}(hT:TabOk P T)(ht:look T t=some ti)(hg:ti.isAgg=false){ad:Addr}{v:Value}(hc:w.cell? ad=some v):(Instr.loadAt t (.pointer (some ad))).run P w=.ok v w:=by
 simp [Instr.loadAt,Instr.sureAddr,loadVar,A4r hT ht,hg,hc]
theorem A1v{t:TypeId}{ti:TI}(hT:TabOk P T)(ht:look T t=some ti)(hg:ti.isAgg=true){ad:Addr}{vs:List Value}(hl:vs.length=ti.size)(hc:∀ j v,vs[j]?=some v→w.cell? (ad.add j)=some v) :
  (Instr.loadAt t (.pointer (some ad))).run P w=.ok (.agg vs.toArray) w:=by
 have:=run_loadCells_list (P:=P) w ad vs hc
 rw[hl]at this
 simp [Instr.loadAt,Instr.sureAddr,loadVar,A4r hT ht,hg,Ac9 hT ht,this]
theorem RelX.rowCell(h:RelX E σ pl a w){id:Nat}{B:Blk}{sz:Nat}{rows:List (List AV)}(hB:look σ.hp id=some B)(hk:B.k=.row sz rows) :
  (∀ r∈rows,r.length=sz)∧∃ xs,w.ownsRow E.w0.heap.size B.ty sz (pl id) rows.length xs∧(∀ u∈xs,u.oneCell'=true) ∧
   ∀(j:Nat) (a:AV) (u:Value),rows.flatten[j]?=some a→xs[j]?=some u→RelV0 (SS E (look σ.hp) pl w) w a u:=by
 have:=h.blks id B hB
 unfold BlkRel at this
 rw[hk]at this
 exact this
theorem RelX.rowAt(h:RelX E σ pl a w){id:Nat}{B:Blk}{sz:Nat}{rows:List (List AV)}(hB:look σ.hp id=some B)(hk:B.k=.row sz rows){r:Nat}{rr:List AV}(hr:rows[r]?=some rr) :
  rr.length=sz∧∃ g cap cur,pl id=.slice (some ⟨g,0,none⟩) rows.length cap∧w.heap[g]?=some (.cells cur B.ty (0,0))∧rows.length*sz≤cur.size ∧
   ∀(q:Nat) (av:AV),rr[q]?=some av→∃ u,w.cell? ⟨g,r*sz+q,none⟩=some u∧u.oneCell'=true∧RelV0 (SS E (look σ.hp) pl w) w av u:=by
 obtain⟨hsz,xs,ho,h1,hh⟩:=h.rowCell hB hk
 have hlen:=hsz rr (List.mem_of_getElem? hr)
 have hlt:=lt_of_getElem? hr
 rcases ho.2 with⟨_,h0⟩ | ⟨g,cap,cur,e,hg,hheap,hnc,hcm,hcs,hcur⟩
 ·omega
 ·refine⟨hlen,g,cap,cur,e,hheap,by rw[hcs];exact Nat.mul_le_mul_right _ hnc,fun q av hq=>?_⟩
  have hqs:q < sz:=by have:=lt_of_getElem? hq;omega
  have hf:=F5 hsz hr hqs
  rw[hq]at hf
  have hj:r*sz+q < rows.length*sz:=by
   have:=lt_of_getElem? hf
   rw[C5 hsz]at this
   exact this
  rw[e]at ho
  have hc:=World.ownsRow.cellAt ho (r*sz+q) hj
  have hx:r*sz+q < xs.length:=by rw[ho.1];exact hj
  refine⟨xs[r*sz+q],by rw[hc,List.getElem?_eq_getElem hx],h1 _ (List.getElem_mem hx),hh _ av _ hf (List.getElem?_eq_getElem hx)⟩
theorem Bg4(hT:TabOk P T)(h:RelX E σ pl a w)(hd:∀ q,o.dst=some q→q < E.nt)(t:TypeId)(x:Operand)(ho:o.op=.load t x)
  (hrun:(C4 P T ov o σ.ev).run (look σ.hp) []=some (eff,log)) (hobl:All eff.obl):Ok P E o a w (σ.app o.dst eff):=by
 simp only [C4,ho]at hrun
 split at hrun
 ·rename_i id ver r c ti hx ht
  replace hrun:=D4 hrun
  obtain⟨B,hB,hv,hl,hrun⟩:=hrun
  obtain⟨g,hg,he⟩:=K1 (h.ev hx) hB hv hl
  split at hrun
  ·rename_i cells hk
   obtain⟨g',vs,hp1,hp2,hp3,hp4,hp5⟩:=h.varCell hB hk
   rw[hp1]at hg
   simp only [blkOf,Option.some.injEq]at hg
   subst hg
   split at hrun
   ·rename_i hag
    replace hrun:=F9 hrun
    obtain⟨hc,hrun⟩:=hrun
    simp only [Bool.and_eq_true,beq_iff_eq,List.all_eq_true]at hc
    obtain⟨⟨hr0,hlen⟩,hpure⟩:=hc
    simp only [Q1,Pg.run,Option.some.injEq,Prod.mk.injEq]at hrun
    obtain⟨rfl,_⟩:=hrun
    have hoff:B.off r c=c:=by simp [Blk.off,hk,hr0]
    have hl2:((vs.toList.drop c).take ti.size).length=((cells.drop c).take ti.size).length:=by simp [hp3]
    refine .pure h hd (v:=.agg ((vs.toList.drop c).take ti.size).toArray) ?_ (.pure _ _ (.agg _ _ hl2 (fun u hu=>hp4 u (List.mem_of_mem_drop (List.mem_of_mem_take hu))) (fun j av u ha hu=>?_)))
    ·simp only [execOp,ho,he,hoff,Sem.run_bind]
     rw[A1v hT ht hag (vs:=(vs.toList.drop c).take ti.size) (by rw[hl2,hlen]) (fun j v hj=>?_)]
     ·rfl
     ·rw[G2,T4 w g' _ vs _ _ hp2]
      rw[List.getElem?_take]at hj
      split at hj
      ·rw[List.getElem?_drop]at hj;simpa using hj
      ·cases hj
    ·have hm:=hpure av (List.mem_of_getElem? ha)
     rw[List.getElem?_take]at ha hu
     split at ha
     ·rw[if_pos (by assumption)]at hu
      rw[List.getElem?_drop]at ha hu
      exact L7 (hp5 _ av u ha (by simpa using hu)) (by simpa using hm.1)
     ·cases ha
   ·rename_i hag
    split at hrun
    ·rename_i av hcell
     replace hrun:=F9 hrun
     obtain⟨hc,hrun⟩:=hrun
     simp only [Q1,Pg.run,Option.some.injEq,Prod.mk.injEq]at hrun
     obtain⟨rfl,_⟩:=hrun
     have hr0:r=0:=by simpa using hc
     have hoff:B.off r c=c:=by simp [Blk.off,hk,hr0]
     have hlt:=lt_of_getElem? hcell
     have hq:vs[c]?=some (vs[c]'(by omega)):=by rw[Array.getElem?_eq_getElem]
     refine .pure h hd (v:=vs[c]'(by omega)) ?_ (hp5 c av _ hcell hq)
     simp only [execOp,ho,he,hoff,Sem.run_bind]
     rw[A1u hT ht (by simpa using hag) (by rw[T4 w g' _ vs _ _ hp2];exact hq)]
     rfl
    ·simp [Pg.run]at hrun
  ·rename_i cells hk
   obtain⟨g',vs,hp1,hp2,hp3,hp4,hp5⟩:=h.arrCell hB hk
   rw[hp1]at hg
   simp only [blkOf,Option.some.injEq]at hg
   subst hg
   have hoff:B.off r c=r+c:=by simp [Blk.off,hk]
   split at hrun
   ·rename_i hag
    replace hrun:=F9 hrun
    obtain⟨hc,hrun⟩:=hrun
    simp only [Bool.and_eq_true,beq_iff_eq]at hc
    obtain⟨rfl,rfl⟩:=hc
    simp only [Pg.run,Option.some.injEq,Prod.mk.injEq]at hrun
    obtain⟨rfl,_⟩:=hrun
    have hsz:cells.length=ti.size:=hobl
    refine .pure h hd (v:=.agg vs.toList.toArray) ?_ (.pure _ _ (.agg _ _ (by simp [hp3]) hp4 (fun j av u ha hu=>hp5 j av u ha (by simpa using hu))))
    simp only [execOp,ho,he,hoff,Sem.run_bind]
    rw[A1v hT ht hag (vs:=vs.toList) (by simp [hp3,hsz]) (fun j v hj=>by rw[G2,T4 w g' _ vs _ _ hp2];simpa using hj)]
    rfl
   ·rename_i hag
    split at hrun
    ·rename_i av hrow
     simp only [Pg.run,Option.some.injEq,Prod.mk.injEq]at hrun
     obtain⟨rfl,_⟩:=hrun
     have hcell:cells[r+c]?=some av:=hobl
     have hlt:=lt_of_getElem? hcell
     have hq:vs[r+c]?=some (vs[r+c]'(by omega)):=by rw[Array.getElem?_eq_getElem]
     refine .pure h hd (v:=vs[r+c]'(by omega)) ?_ (.pure _ _ (hp5 _ av _ hcell hq))
     simp only [execOp,ho,he,hoff,Sem.run_bind]
     rw[A1u hT ht (by simpa using hag) (by rw[T4 w g' _ vs _ _ hp2];exact hq)]
     rfl
    ·simp [Pg.run]at hrun
  ·rename_i sz rows hk
   have hoff:B.off r c=r*sz+c:=by simp [Blk.off,hk]
   split at hrun
   ·rename_i hag
    injection hrun with hrun
    injection hrun with hrun _
    subst hrun
    have hat0:Go.E.rowAt B r ov.row:=hobl.1
    have hle:c+ti.size≤ov.row.length:=hobl.2
    have hat:rows[r]?=some ov.row:=by unfold Go.E.rowAt at hat0;rw[hk]at hat0;exact hat0
    obtain⟨hlen,g',cap,cur,hp1,hp2,hp3,hp4⟩:=h.rowAt hB hk hat
    rw[hp1]at hg
    simp only [blkOf,Option.some.injEq]at hg
    subst hg
    have key:∀ q,q < ti.size→∃ u,w.cell? ⟨g',r*sz+(c+q),none⟩=some u∧u.oneCell'=true∧∀ av,ov.row[c+q]?=some av→RelV0 (SS E (look σ.hp) pl w) w av u:=by
     intro q hq
     have hlt:c+q < ov.row.length:=by omega
     obtain⟨u,h1,h2,h3⟩:=hp4 (c+q) _ (List.getElem?_eq_getElem hlt)
     exact⟨u,h1,h2,fun av hav=>by rw[List.getElem?_eq_getElem hlt]at hav;simp only [Option.some.injEq]at hav;subst hav;exact h3⟩
    let vs:List Value:=(List.range ti.size).map fun q=>(w.cell? ⟨g',r*sz+(c+q),none⟩).getD .nilIface
    have hvs:∀ q u,vs[q]?=some u→w.cell? ⟨g',r*sz+(c+q),none⟩=some u∧q < ti.size:=by
     intro q u hu
     have hq:=lt_of_getElem? hu
     simp only [vs,List.length_map,List.length_range]at hq
     obtain⟨u',h1,_⟩:=key q hq
     simp only [vs,List.getElem?_map,List.getElem?_range hq,Option.map_some,h1,Option.getD_some,Option.some.injEq]at hu
     subst hu
     exact⟨h1,hq⟩
    refine .pure h hd (v:=.agg vs.toArray) ?_ (.pure _ _ (.agg _ _ (by simp [vs];omega) (fun u hu=>?_) (fun j av u ha hu=>?_)))
    ·simp only [execOp,ho,he,hoff,Sem.run_bind]
     rw[A1v hT ht hag (vs:=vs) (by simp [vs]) (fun j v hj=>by rw[G2,Nat.add_assoc];exact(hvs j v hj).1)]
     rfl
    ·obtain⟨q,hq⟩:=List.mem_iff_getElem?.1 hu
     obtain⟨h1,h2⟩:=hvs q u hq
     obtain⟨u',h3,h4,_⟩:=key q h2
     rw[h1]at h3
     simp only [Option.some.injEq]at h3
     rw[h3];exact h4
    ·obtain⟨h1,h2⟩:=hvs j u hu
     obtain⟨u',h3,_,h5⟩:=key j h2
     rw[h1]at h3
     simp only [Option.some.injEq]at h3
     subst h3
     rw[List.getElem?_take,if_pos h2,List.getElem?_drop]at ha
     exact h5 av ha
   ·rename_i hag
    split at hrun
    ·rename_i av hrow
     simp only [Pg.run,Option.some.injEq,Prod.mk.injEq]at hrun
     obtain⟨rfl,_⟩:=hrun
     have hat:rows[r]?=some ov.row:=by
      have hat0:Go.E.rowAt B r ov.row:=hobl
      unfold Go.E.rowAt at hat0;rw[hk]at hat0;exact hat0
     obtain⟨hlen,g',cap,cur,hp1,hp2,hp3,hp4⟩:=h.rowAt hB hk hat
     rw[hp1]at hg
     simp only [blkOf,Option.some.injEq]at hg
     subst hg
     obtain⟨u,h1,_,h3⟩:=hp4 c av hrow
     refine .pure h hd (v:=u) ?_ (.pure _ _ h3)
     simp only [execOp,ho,he,hoff,Sem.run_bind]
     rw[A1u hT ht (by simpa using hag) h1]
     rfl
    ·simp [Pg.run]at hrun
  ·simp [Pg.run]at hrun
 ·rename_i cs ti hx ht
  have hr:=A1t (h.ev hx)
  generalize hu:a.eval x=u0 at hr
  cases hr with
  | eptr _ ad u hS hA h1 hh =>
   split at hrun
   ·rename_i hag
    simp only [Pg.run,Option.some.injEq,Prod.mk.injEq]at hrun
    obtain⟨rfl,_⟩:=hrun
    have hle:ti.size≤cs.length:=hobl
    have hq:∀ j v,((List.range ti.size).map u)[j]?=some v→v=u j∧j < ti.size:=by
     intro j v hv
     have hlt:=lt_of_getElem? hv
     simp at hlt
     simp [List.getElem?_range hlt]at hv
     exact⟨hv.symm,hlt⟩
    refine .pure h hd (v:=.agg ((List.range ti.size).map u).toArray) ?_ (.pure _ _ (.agg _ _ (by simp;omega) (fun v hv=>?_) (fun j av v ha hv=>?_)))
    ·simp only [execOp,ho,hu,Sem.run_bind]
     rw[A1v hT ht hag (vs:=(List.range ti.size).map u) (by simp) (fun j v hj=>by obtain⟨rfl,hlt⟩:=hq j v hj;exact hA j (by omega))]
     rfl
    ·obtain⟨j,hj⟩:=List.mem_iff_getElem?.1 hv
     obtain⟨rfl,_⟩:=hq j v hj
     exact h1 j
    ·obtain⟨rfl,hlt⟩:=hq j v hv
     rw[List.getElem?_take,if_pos hlt]at ha
     exact hh j av ha
   ·rename_i hag
    have fin:∀ av,cs[0]?=some av→Ok P E o a w (σ.app o.dst { val:=av,ups:=[],obl:=[] }):=by
     intro av hcell
     have hlt:=lt_of_getElem? hcell
     refine .pure h hd (v:=u 0) ?_ (.pure _ _ (hh 0 av hcell))
     have hc:=hA 0 hlt
     have e:ad.add 0=ad:=by simp [Addr.add]
     rw[e]at hc
     simp only [execOp,ho,hu,Sem.run_bind]
     rw[A1u hT ht (by simpa using hag) hc]
     rfl
    split at hrun
    ·rename_i av hrow
     simp only [Pg.run,Option.some.injEq,Prod.mk.injEq]at hrun
     obtain⟨rfl,_⟩:=hrun
     exact fin av hobl
    ·split at hrun
     ·rename_i av hcell
      simp only [Q1,Pg.run,Option.some.injEq,Prod.mk.injEq]at hrun
      obtain⟨rfl,_⟩:=hrun
      exact fin av hcell
     ·simp [Pg.run]at hrun
 ·simp [Pg.run]at hrun
end
end Go.E
namespace Go.E
open Go.RowKit
section
variable {P : Program} {E : Env} {T : Tab} {ov : Ov} {o : Oper} {σ : St} {pl : Nat → Value} {a : Act} {w : World} {eff : Eff} {log : List Nat}
def R6(hp:List (Nat×Blk))(ups:List (Nat×Blk)):List (Nat×Blk):=ups.foldl (fun h p=>put h p.1 p.2) hp
theorem N4:∀(ups:List (Nat×Blk)) (hp:List (Nat×Blk)) (i:Nat),(∃ p∈ups,p.1=i∧look (R6 hp ups) i=some p.2)∨((∀ p∈ups,p.1≠i)∧look (R6 hp ups) i=look hp i)
 | [],hp,i=>.inr ⟨fun _ h=>absurd h (by simp),rfl⟩
 | p :: ups,hp,i=>by
  rcases N4 ups (put hp p.1 p.2) i with⟨q,hq,h1,h2⟩ | ⟨h1,h2⟩
  ·exact .inl ⟨q,List.mem_cons_of_mem _ hq,h1,h2⟩
  ·by_cases e:p.1=i
   ·refine .inl ⟨p,by simp,e,?_⟩
    show look (R6 (put hp p.1 p.2) ups) i=some p.2
    rw[h2,C8,if_pos e]
   ·refine .inr ⟨fun q hq=>?_,?_⟩
    ·rcases List.mem_cons.1 hq with rfl | hq
     ·exact e
     ·exact h1 q hq
    ·show look (R6 (put hp p.1 p.2) ups) i=look hp i
     rw[h2,C8,if_neg e]
def As3(σ:St)(ups:List (Nat×Blk)):Prop:=∀ p∈ups,p.2.live=false∧∃ B,look σ.hp p.1=some B∧B.ver=p.2.ver
theorem RelX.giveUps(h:RelX E σ pl a w)(ups:List (Nat×Blk))(hu:As3 σ ups) :
  RelX E ⟨σ.slots,R6 σ.hp ups⟩ pl a w∧(∀ k,SS E (look σ.hp) pl w k→SS E (look (R6 σ.hp ups)) pl w k)∧Al5 (look σ.hp) pl (look (R6 σ.hp ups)) pl ∧
   (∀ p∈ups,∀ B,look σ.hp p.1=some B→B.live=true→∀ k,blkOf (pl p.1)=some k→SS E (look (R6 σ.hp ups)) pl w k):=by
 have key:∀ i C,look (R6 σ.hp ups) i=some C→C.live=true→look σ.hp i=some C∧∀ p∈ups,p.1≠i:=by
  intro i C hC hl
  rcases N4 ups σ.hp i with⟨p,hp,h1,h2⟩ | ⟨h1,h2⟩
  ·rw[h2]at hC
   simp only [Option.some.injEq]at hC
   subst hC
   rw[(hu p hp).1]at hl
   cases hl
  ·exact⟨by rw[← h2];exact hC,h1⟩
 have hE:Al5 (look σ.hp) pl (look (R6 σ.hp ups)) pl:=by
  intro i C hC
  rcases N4 ups σ.hp i with⟨p,hp,h1,h2⟩ | ⟨h1,h2⟩
  ·obtain⟨hl,B,hB,hv⟩:=hu p hp
   rw[h1,hC]at hB
   simp only [Option.some.injEq]at hB
   subst hB
   exact⟨p.2,h2,.inr ⟨hv,fun e=>by rw[hl]at e;cases e⟩⟩
  ·exact⟨C,by rw[h2];exact hC,.inr ⟨rfl,fun e=>⟨e,rfl,rfl,Nat.le_refl _⟩⟩⟩
 have hS:∀ k,SS E (look σ.hp) pl w k→SS E (look (R6 σ.hp ups)) pl w k:=by
  rintro k (hk | ⟨h1,h2,h3⟩)
  ·exact .inl hk
  ·exact .inr ⟨h1,h2,fun i C hC hl=>h3 i C (key i C hC hl).1 hl⟩
 refine⟨h.mem _ hE hS (fun _ _=>rfl) (Nat.le_refl _) h.below (fun i C hC=>?_) (fun i i' C C' hC hC' hl hl' hne=>h.dist i i' C C' (key i C hC hl).1 (key i' C' hC' hl').1 hl hl' hne) (fun i C hC hl k hk hlt=>h.kept.2.2 i C (key i C hC hl).1 hl k hk hlt),hS,hE,fun p hp B hB hl k hk=>?_⟩
 ·by_cases hl:C.live=true
  ·exact(h.blks i C (key i C hC hl).1).keep hE hS (fun _ _=>rfl) (fun _ _ _=>rfl)
  ·have:C.k=.gone:=by
    unfold Blk.live at hl
    split at hl <;> simp_all
   simp [BlkRel,this]
 ·obtain⟨h1,h2⟩:=h.blk_lt hB hl hk
  refine .inr ⟨⟨h1,h.kept.2.2 p.1 B hB hl k hk⟩,h2,fun i C hC hl'=>?_⟩
  obtain⟨hC',hne⟩:=key i C hC hl'
  exact h.dist p.1 i B C hB hC' hl hl' (hne p hp) k hk
def W8(S:Nat→Prop)(w:World)(cs:List AV)(v:Value):Prop :=
 v.cells.size=cs.length∧(∀ u∈v.cells.toList,u.oneCell'=true)∧∀(j:Nat) (b:AV) (u:Value),cs[j]?=some b→v.cells[j]?=some u→RelV0 S w b u
theorem U9{S:Nat→Prop}{av:AV}{v:Value}(h:RelV0 S w av v)(hp:W6 av=true):W8 S w (E0 av) v:=by
 cases h with
 | agg cs vs hl h1 hh=>exact⟨by simp [Value.cells,E0,hl],by simpa [Value.cells]using h1,fun j b u hb hu=>hh j b u hb (by simpa [Value.cells]using hu)⟩
 | tup=>simp [W6]at hp
 | dead=>simp [W6]at hp
 | fn=>simp [W6]at hp
 | ifc=>simp [W6]at hp
 | b x=>exact⟨rfl,by simp [Value.cells,Value.oneCell'],fun j b u hb hu=>by cases j with | zero=>simp [E0,Value.cells]at hb hu;subst hb hu;exact .b _ | succ j=>simp [E0]at hb⟩
 | i k n=>exact⟨rfl,by simp [Value.cells,Value.oneCell'],fun j b u hb hu=>by cases j with | zero=>simp [E0,Value.cells]at hb hu;subst hb hu;exact .i _ _ | succ j=>simp [E0]at hb⟩
 | s x=>exact⟨rfl,by simp [Value.cells,Value.oneCell'],fun j b u hb hu=>by cases j with | zero=>simp [E0,Value.cells]at hb hu;subst hb hu;exact .s _ | succ j=>simp [E0]at hb⟩
 | sl rows A cap sz u hc hm hn hsz hA h1 hh=>exact⟨rfl,by simp [Value.cells,Value.oneCell'],fun j b u' hb hu=>by cases j with | zero=>simp [E0,Value.cells]at hb hu;subst hb hu;exact .sl rows A cap sz u hc hm hn hsz hA h1 hh | succ j=>simp [E0]at hb⟩
 | nl=>exact⟨rfl,by simp [Value.cells,Value.oneCell'],fun j b u hb hu=>by cases j with | zero=>simp [E0,Value.cells]at hb hu;subst hb hu;exact .nl | succ j=>simp [E0]at hb⟩
 | eptr cs ad u hS hA h1 hh=>exact⟨rfl,by simp [Value.cells,Value.oneCell'],fun j b u' hb hu=>by cases j with | zero=>simp [E0,Value.cells]at hb hu;subst hb hu;exact .eptr cs ad u hS hA h1 hh | succ j=>simp [E0]at hb⟩
 | np=>exact⟨rfl,by simp [Value.cells,Value.oneCell'],fun j b u hb hu=>by cases j with | zero=>simp [E0,Value.cells]at hb hu;subst hb hu;exact .np | succ j=>simp [E0]at hb⟩
 | nilf=>exact⟨rfl,by simp [Value.cells,Value.oneCell'],fun j b u hb hu=>by cases j with | zero=>simp [E0,Value.cells]at hb hu;subst hb hu;exact .nilf | succ j=>simp [E0]at hb⟩
 | nili=>exact⟨rfl,by simp [Value.cells,Value.oneCell'],fun j b u hb hu=>by cases j with | zero=>simp [E0,Value.cells]at hb hu;subst hb hu;exact .nili | succ j=>simp [E0]at hb⟩
theorem W8.mono{S S':Nat→Prop}{w w':World}{cs:List AV}{v:Value}(h:W8 S w cs v)(hS:∀ k,S k→S' k)(hw:∀ k,S k→w'.heap[k]?=w.heap[k]?):W8 S' w' cs v :=
 ⟨h.1,h.2.1,fun j b u hb hu=>(h.2.2 j b u hb hu).mono hS hw⟩
theorem A8m(h:RelX E σ pl a w){av:AV}{v:Value}(hv:RelV (look σ.hp) pl (SS E (look σ.hp) pl w) w av v){l:List Nat}{q:(List AV×List (Nat×Blk))×List Nat}(hrun:(Ac8 av).run (look σ.hp) l=some q) :
  As3 σ q.1.2∧∀(S':Nat→Prop),(∀ k,SS E (look σ.hp) pl w k→S' k)→(∀ p∈q.1.2,∀ B,look σ.hp p.1=some B→B.live=true→∀ k,blkOf (pl p.1)=some k→S' k)→W8 S' w q.1.1 v:=by
 unfold Ac8 at hrun
 split at hrun
 ·rename_i id ver
  replace hrun:=D4 hrun
  obtain⟨B,hB,hver,hl,hrun⟩:=hrun
  split at hrun
  ·rename_i sz rows hk
   simp only [Pg.run,Option.some.injEq]at hrun
   subst hrun
   have he:=F2 hv hB hver hl
   refine⟨fun p hp=>?_,fun S' hS' hg=>?_⟩
   ·simp only [List.mem_singleton]at hp
    subst hp
    exact⟨rfl,B,hB,rfl⟩
   ·have hr:=Bb0 (S':=S') (h.blks id B hB) hk hS' (hg (id,{ B with k:=.gone }) (by simp) B hB hl)
    rw[← he]at hr
    exact U9 hr rfl
  ·simp [Pg.run]at hrun
 ·replace hrun:=F9 hrun
  obtain⟨hc,hrun⟩:=hrun
  simp only [Pg.run,Option.some.injEq]at hrun
  subst hrun
  exact⟨fun p hp=>absurd hp (by simp),fun S' hS' _=>(U9 (L7 hv hc) hc).mono hS' (fun _ _=>rfl)⟩
theorem A0g{t:TypeId}{ti:TI}(hT:TabOk P T)(ht:look T t=some ti){g off:Nat}{v:Value}{cur:Array Value}{ty:TypeId}(hg:w.heap[g]?=some (.cells cur ty (0,0)))
  (hs:v.cells.size=ti.size) (hfit:off+ti.size≤cur.size) (h1:∀ u∈v.cells.toList,u.oneCell'=true) :
  (Instr.storeAt t (.pointer (some ⟨g,off,none⟩)) v).run P w=.ok () (w.setRow g (cur.toList.take off++v.cells.toList++cur.toList.drop (off+ti.size)).toArray):=by
 have hst:=run_storeCells_at P g off ty v.cells.toList 0 cur w hg (by simp [hs];exact hfit) h1
 simp only [Nat.add_zero,Array.length_toList,hs]at hst
 simp [Instr.storeAt,Instr.sureAddr,storeVar,Ac9 hT ht,hs,hst]
theorem A0h{σ':St}{w':World}{t:TypeId}{x y:Operand}(ho:o.op=.store t x y)(hr:(Instr.storeAt t (a.eval x) (a.eval y)).run P w=.ok () w')(h:Rel E σ' (a.put o.dst undef) w'):Ok P E o a w σ' :=
 .skip (by simp only [execOp,ho,Sem.run_bind,hr];rfl) h
theorem G4{α:Type}(cur:List α)(vs:List α)(off:Nat)(hfit:off+vs.length≤cur.length)(j:Nat) :
  (cur.take off++vs++cur.drop (off+vs.length))[j]?=if j < off then cur[j]? else if j < off+vs.length then vs[j-off]? else cur[j]?:=by
 have hlt:(cur.take off).length=off:=by simp;omega
 by_cases h1:j < off
 ·rw[if_pos h1,List.append_assoc,List.getElem?_append_left (by omega),List.getElem?_take,if_pos h1]
 ·rw[if_neg h1]
  by_cases h2:j < off+vs.length
  ·rw[if_pos h2,List.getElem?_append_left (by simp;omega),List.getElem?_append_right (by omega),hlt]
  ·rw[if_neg h2,List.getElem?_append_right (by simp;omega),List.getElem?_drop]
   congr 1
   simp
   omega
theorem G5{α:Type}(cur:List α)(vs:List α)(off:Nat)(hfit:off+vs.length≤cur.length):(cur.take off++vs++cur.drop (off+vs.length)).length=cur.length:=by simp;omega
theorem V0{S:Nat→Prop}:RelV0 S w A00 undef:=.tup [] [] rfl (fun j a u ha=>by simp at ha)
theorem RelX.upd(h:RelX E σ pl a w){id:Nat}{B B':Blk}(hB:look σ.hp id=some B)(hl:B.live=true)(hver:B'.ver=B.ver)(hoff:B'.off=B.off)(hlen:B.len≤B'.len){g:Nat}(hg:blkOf (pl id)=some g)(cs:Array Value)
  (hrel:BlkRel E.w0.heap.size (look σ.hp) pl (SS E (look σ.hp) pl w) (w.setRow g cs) (pl id) B') :
  RelX E ⟨σ.slots,Go.E.put σ.hp id B'⟩ pl a (w.setRow g cs):=by
 have:=(h.chg (w':=w.setRow g cs) id B' (pl id) (.inr ⟨B,hB,hl,hver.symm,hoff.symm,rfl,hlen⟩)
  (fun k hk hne=>by rw[setRow_other];intro e;subst e;exact hne B hB hl hg) rfl rfl rfl (by simp) (fun k hk=>.inr ⟨B,hB,hl,hk⟩) hrel).1
 have e:D8 pl id (pl id)=pl:=by funext i;unfold D8;split <;> simp_all
 rwa [e]at this
theorem RelX.setRow_keep(h:RelX E σ pl a w){id:Nat}{B:Blk}(hB:look σ.hp id=some B)(hl:B.live=true){g:Nat}(hg:blkOf (pl id)=some g)(cs:Array Value):∀ k,SS E (look σ.hp) pl w k→(w.setRow g cs).heap[k]?=w.heap[k]?:=by
 intro k hk
 rw[setRow_other]
 intro e
 subst e
 rcases hk with hk | ⟨_,_,h3⟩
 ·have:=(h.blk_lt hB hl hg).1
  have:=E.hS0 k hk
  omega
 ·exact h3 id B hB hl hg
theorem A3o{hp:Nat→Option Blk}{S:Nat→Prop}{av:AV}{v:Value}(hr:RelV hp pl S w av v)(hone:boxB av=true) :
  v.cells.size=(E0 av).length∧(∀ u∈v.cells.toList,u.oneCell'=true)∧∀(j:Nat) (b:AV) (u:Value),(E0 av)[j]?=some b→v.cells[j]?=some u→RelV hp pl S w b u:=by
 by_cases hag:∃ cs,av=.agg cs
 ·obtain⟨cs,rfl⟩:=hag
  obtain⟨h1,h2,h3⟩:=U9 (P3 hr) rfl
  exact⟨h1,h2,fun j b u hb hu=>.pure _ _ (h3 j b u hb hu)⟩
 ·have hone':Bf9 av=true:=by
   cases av <;> first | exact hone | exact absurd ⟨_,rfl⟩ hag
  have e1:E0 av=[av]:=by cases av <;> first | rfl | exact absurd ⟨_,rfl⟩ hag
  have ho1:=B6h hr hone'
  have e2:v.cells=#[v]:=by
   cases v <;> first | rfl | (simp [Value.oneCell']at ho1)
  rw[e1,e2]
  refine⟨rfl,by simpa using ho1,fun j b u hb hu=>?_⟩
  cases j with
  | zero=>simp at hb hu;subst hb;subst hu;exact hr
  | succ j=>simp at hb
theorem B6k(hT:TabOk P T)(h:RelX E σ pl a w)(hd:∀ q,o.dst=some q→q < E.nt)(t:TypeId)(x y:Operand)(ho:o.op=.store t x y)
  (hrun:(C4 P T ov o σ.ev).run (look σ.hp) []=some (eff,log)) (hobl:All eff.obl):Ok P E o a w (σ.app o.dst eff):=by
 simp only [C4,ho]at hrun
 split at hrun
 ·rename_i id ver r c ti av hx ht hy
  replace hrun:=D4 hrun
  obtain⟨B,hB,hv,hl,hrun⟩:=hrun
  obtain⟨g,hg,he⟩:=K1 (h.ev hx) hB hv hl
  have hry:=h.ev hy
  split at hrun
  ·-- a variable
   rename_i cells hk
   obtain⟨g',vs,hp1,hp2,hp3,hp4,hp5⟩:=h.varCell hB hk
   have hgg:g'=g:=by rw[hp1]at hg;simpa [blkOf]using hg
   subst hgg
   replace hrun:=F9 hrun
   obtain⟨hc,hrun⟩:=hrun
   simp only [Bool.and_eq_true,beq_iff_eq]at hc
   obtain⟨⟨⟨hr0,hone⟩,hlen⟩,hfit⟩:=hc
   have hfit:=Nat.le_of_ble_eq_true hfit
   simp only [Pg.run,Option.some.injEq,Prod.mk.injEq]at hrun
   obtain⟨rfl,_⟩:=hrun
   have hoff:B.off r c=c:=by simp [Blk.off,hk,hr0]
   have hcv:=A3o hry hone
   obtain⟨c1,c2,c3⟩:=hcv
   have hfit':c+(a.eval y).cells.toList.length≤vs.toList.length:=by simp [hp3];omega
   have hrow:(Instr.storeAt t (a.eval x) (a.eval y)).run P w=.ok () (w.setRow g' (vs.toList.take c++(a.eval y).cells.toList++vs.toList.drop (c+ti.size)).toArray):=by
    rw[he,hoff]
    exact A0g hT ht hp2 (by omega) (by omega) c2
   have hsize:ti.size=(a.eval y).cells.toList.length:=by simp;omega
   have hk':∀ k,SS E (look σ.hp) pl w k→(w.setRow g' (vs.toList.take c++(a.eval y).cells.toList++vs.toList.drop (c+ti.size)).toArray).heap[k]?=w.heap[k]?:=h.setRow_keep hB hl hg _
   have hu:=h.upd (B':={ B with k:=.var (cells.take c++E0 av++cells.drop (c+ti.size)) }) hB hl rfl (by funext r c;simp [Blk.off,hk]) (by simp [Blk.len,hk];omega) hg
    (vs.toList.take c++(a.eval y).cells.toList++vs.toList.drop (c+ti.size)).toArray (by
     have hlc:(E0 av).length=(a.eval y).cells.toList.length:=by simp;omega
     refine⟨g',_,hp1,(h.blk_lt hB hl hg).1,setRow_heap w g' vs _ B.ty (0,0) hp2,?_,?_,fun j b u hb hu=>?_⟩
     ·simp only [List.size_toArray]
      rw[hsize,G5 _ _ _ hfit',← hlc,G5 _ _ _ (by rw[hlc];omega)]
      simp [hp3]
     ·intro u hu
      simp only [List.mem_append]at hu
      rcases hu with(hu | hu) | hu
      ·exact hp4 u (List.mem_of_mem_take hu)
      ·exact c2 u hu
      ·exact hp4 u (List.mem_of_mem_drop hu)
     ·simp only [List.getElem?_toArray]at hu
      rw[hsize,G4 _ _ _ hfit']at hu
      rw[hsize,← hlc,G4 _ _ _ (by rw[hlc];omega),hlc]at hb
      have hmono:∀ b u,RelV (look σ.hp) pl (SS E (look σ.hp) pl w) w b u→RelV (look σ.hp) pl (SS E (look σ.hp) pl w) _ b u:=fun b u hr=>hr.mono (Al5.refl _ _) (fun _ hk=>hk) hk'
      by_cases h1:j < c
      ·rw[if_pos h1]at hb hu
       exact hmono _ _ (hp5 j b u hb (by simpa using hu))
      ·rw[if_neg h1]at hb hu
       by_cases h2:j < c+(a.eval y).cells.toList.length
       ·rw[if_pos h2]at hb hu
        exact hmono _ _ (c3 _ b u hb (by simpa using hu))
       ·rw[if_neg h2]at hb hu
        exact hmono _ _ (hp5 j b u hb (by simpa using hu)))
   exact A0h ho hrow ⟨pl,hu.put o.dst hd (.pure _ _ V0)⟩
  ·-- an array
   rename_i cells hk
   split at hrun
   ·rename_i cs
    replace hrun:=F9 hrun
    obtain⟨hc,hrun⟩:=hrun
    simp only [Bool.and_eq_true,beq_iff_eq]at hc
    obtain⟨rfl,rfl⟩:=hc
    simp only [Pg.run,Option.some.injEq,Prod.mk.injEq]at hrun
    obtain⟨rfl,_⟩:=hrun
    have hl1:cs.length=cells.length:=hobl.1
    have hl2:cs.length=ti.size:=hobl.2
    obtain⟨g',vs,hp1,hp2,hp3,hp4,hp5⟩:=h.arrCell hB hk
    have hgg:g'=g:=by rw[hp1]at hg;simpa [blkOf]using hg
    subst hgg
    obtain⟨c1,c2,c3⟩:=U9 (P3 hry) rfl
    simp only [E0]at c1 c3
    have hoff:B.off 0 0=0:=by simp [Blk.off,hk]
    have hall:vs.toList.take 0++(a.eval y).cells.toList++vs.toList.drop (0+ti.size)=(a.eval y).cells.toList:=by
     rw[List.take_zero,List.nil_append,List.drop_of_length_le (by simp;omega),List.append_nil]
    have hrow:(Instr.storeAt t (a.eval x) (a.eval y)).run P w=.ok () (w.setRow g' (a.eval y).cells.toList.toArray):=by
     rw[he,hoff]
     rw[A0g hT ht hp2 (by omega) (by omega) c2,hall]
    have hk':=h.setRow_keep hB hl hg (a.eval y).cells.toList.toArray
    have hu:=h.upd (B':={ B with k:=.arr cs }) hB hl rfl (by funext r c;simp [Blk.off,hk]) (by simp [Blk.len,hk,hl1]) hg (a.eval y).cells.toList.toArray
     ⟨g',_,hp1,(h.blk_lt hB hl hg).1,setRow_heap w g' vs _ B.ty (0,0) hp2,by simp;omega,by simpa using c2,fun j b u hb hu=>(c3 j b u hb (by simpa using hu)).mono (fun _ hk=>hk) hk'⟩
    exact A0h ho hrow ⟨pl,hu.put o.dst hd (.pure _ _ V0)⟩
   ·replace hrun:=F9 hrun
    obtain⟨hs1,hrun⟩:=hrun
    have hs1:ti.size=1:=by simpa using hs1
    rw[Pg.run_bind]at hrun
    cases hp:(Ac8 av).run (look σ.hp) [id]with
    | none=>rw[hp]at hrun;simp at hrun
    | some q =>
     rw[hp]at hrun
     simp only [Option.bind_some]at hrun
     replace hrun:=F9 hrun
     obtain⟨hne,hrun⟩:=hrun
     simp only [Pg.run,Option.some.injEq,Prod.mk.injEq]at hrun
     obtain⟨rfl,_⟩:=hrun
     obtain⟨hgone,hcr⟩:=A8m h hry hp
     obtain⟨h',hSS,hE',hfree⟩:=h.giveUps _ hgone
     obtain⟨c1,c2,c3⟩:=hcr _ hSS hfree
     have hB':look (R6 σ.hp q.1.2) id=some B:=by
      rcases N4 q.1.2 σ.hp id with⟨p,hp',h1,_⟩ | ⟨_,h2⟩
      ·have:=List.all_eq_true.1 hne p hp'
       simp [h1]at this
      ·rw[h2];exact hB
     obtain⟨g',vs,hp1,hp2,hp3,hp4,hp5⟩:=h'.arrCell hB' hk
     have hgg:g'=g:=by rw[hp1]at hg;simpa [blkOf]using hg
     subst hgg
     have ho1:r+c < cells.length:=All.mem hobl _ (by simp)
     have ho2:q.1.1=[q.1.1.headD .dead]:=All.mem hobl _ (by simp)
     have hcs':=B1v (ov:=ov) (d:=cells.set (r+c) (q.1.1.headD .dead)) (fun p hp=>All.mem hobl p (List.mem_append_right _ hp))
     generalize As0 ov (cells.set (r+c) (q.1.1.headD .dead))=cs' at *
     have hoff:B.off r c=r+c:=by simp [Blk.off,hk]
     have hfit':r+c+(a.eval y).cells.toList.length≤vs.toList.length:=by simp;rw[ho2]at c1;simp at c1;omega
     have hsize:ti.size=(a.eval y).cells.toList.length:=by rw[ho2]at c1;simp at c1;simp;omega
     have hrow:(Instr.storeAt t (a.eval x) (a.eval y)).run P w=.ok () (w.setRow g' (vs.toList.take (r+c)++(a.eval y).cells.toList++vs.toList.drop (r+c+ti.size)).toArray):=by
      rw[he,hoff]
      exact A0g hT ht hp2 (by simpa using hsize.symm) (by omega) c2
     have hk':=h'.setRow_keep hB' hl hg (vs.toList.take (r+c)++(a.eval y).cells.toList++vs.toList.drop (r+c+ti.size)).toArray
     have hu:=h'.upd (B':={ B with k:=.arr cs' }) hB' hl rfl (by funext r c;simp [Blk.off,hk]) (by simp [Blk.len,hk,hcs']) hg (vs.toList.take (r+c)++(a.eval y).cells.toList++vs.toList.drop (r+c+ti.size)).toArray (by
      refine⟨g',_,hp1,(h.blk_lt hB hl hg).1,setRow_heap w g' vs _ B.ty (0,0) hp2,?_,?_,fun j b u hb hu=>?_⟩
      ·simp only [List.size_toArray]
       rw[hsize,G5 _ _ _ hfit',hcs']
       simp [hp3]
      ·intro u hu
       simp only [List.mem_append]at hu
       rcases hu with(hu | hu) | hu
       ·exact hp4 u (List.mem_of_mem_take hu)
       ·exact c2 u hu
       ·exact hp4 u (List.mem_of_mem_drop hu)
      ·simp only [List.getElem?_toArray]at hu
       rw[hsize,G4 _ _ _ hfit']at hu
       have hl1:(a.eval y).cells.toList.length=1:=by omega
       rw[hcs',List.getElem?_set]at hb
       by_cases h1:j < r+c
       ·rw[if_pos h1]at hu
        rw[if_neg (by omega)]at hb
        exact(hp5 j b u hb (by simpa using hu)).mono (fun _ hk=>hk) hk'
       ·rw[if_neg h1,hl1]at hu
        by_cases h2:j < r+c+1
        ·rw[if_pos h2]at hu
         have e:j=r+c:=by omega
         subst e
         rw[if_pos rfl,if_pos ho1]at hb
         rw[ho2]at c3
         exact(c3 0 b u (by simpa using hb) (by simpa using hu)).mono (fun _ hk=>hk) hk'
        ·rw[if_neg h2]at hu
         rw[if_neg (by omega)]at hb
         exact(hp5 j b u hb (by simpa using hu)).mono (fun _ hk=>hk) hk')
     refine A0h ho hrow ⟨pl,?_⟩
     have:=hu.put o.dst hd (av:=A00) (v:=undef) (.pure _ _ V0)
     unfold St.app
     have e:(q.1.2++[(id,({ B with k:=.arr cs' }:Blk))]).foldl (fun h p=>Go.E.put h p.1 p.2) σ.hp=Go.E.put (R6 σ.hp q.1.2) id { B with k:=.arr cs' }:=by
      rw[List.foldl_append];rfl
     rw[e]
     exact this
  ·-- a row
   rename_i sz rows hk
   rw[Pg.run_bind]at hrun
   cases hp:(Ac8 av).run (look σ.hp) [id]with
   | none=>rw[hp]at hrun;simp at hrun
   | some q =>
    rw[hp]at hrun
    simp only [Option.bind_some]at hrun
    replace hrun:=F9 hrun
    obtain⟨hne,hrun⟩:=hrun
    simp only [Pg.run,Option.some.injEq,Prod.mk.injEq]at hrun
    obtain⟨rfl,_⟩:=hrun
    obtain⟨hgone,hcr⟩:=A8m h hry hp
    obtain⟨h',hSS,hE',hfree⟩:=h.giveUps _ hgone
    obtain⟨c1,c2,c3⟩:=hcr _ hSS hfree
    have hB':look (R6 σ.hp q.1.2) id=some B:=by
     rcases N4 q.1.2 σ.hp id with⟨p,hp',h1,_⟩ | ⟨_,h2⟩
     ·have:=List.all_eq_true.1 hne p hp'
      simp [h1]at this
     ·rw[h2];exact hB
    obtain⟨hsz,xs,hown,hx1,hx2⟩:=h'.rowCell hB' hk
    have ho1:rows[r]?=some ov.row:=All.mem hobl _ (by simp)
    have ho2:q.1.1.length=ti.size:=All.mem hobl _ (by simp)
    have ho3:c+ti.size≤sz:=All.mem hobl _ (by simp)
    have hcs':=J4 (ov:=ov) (d:=rows.set r (ov.row.take c++q.1.1++ov.row.drop (c+ti.size))) (fun p hp=>All.mem hobl p (List.mem_append_right _ hp))
    generalize K3 ov (rows.set r (ov.row.take c++q.1.1++ov.row.drop (c+ti.size)))=rows' at *
    have hoff:B.off r c=r*sz+c:=by simp [Blk.off,hk]
    have hrlt:=lt_of_getElem? ho1
    have hrl:=hsz _ (List.mem_of_getElem? ho1)
    have hmul:(r+1)*sz≤rows.length*sz:=Nat.mul_le_mul_right _ hrlt
    rw[Nat.add_mul,Nat.one_mul]at hmul
    rcases hown.2 with⟨e0,h0⟩ | ⟨g',cap,cur,epl,hgb,hheap,hnc,hcm,hcs,hcur⟩
    ·omega
    ·have hgg:g'=g:=by rw[epl]at hg;simpa [blkOf]using hg
     subst hgg
     have hcapm:rows.length*sz≤cap*sz:=Nat.mul_le_mul_right _ hnc
     have hvl:(a.eval y).cells.toList.length=ti.size:=by simp;omega
     have hfit':r*sz+c+(a.eval y).cells.toList.length≤cur.toList.length:=by simp only [Array.length_toList];rw[hcs];simp only [Array.length_toList]at hvl;omega
     have hrow:(Instr.storeAt t (a.eval x) (a.eval y)).run P w=.ok () (w.setRow g' (cur.toList.take (r*sz+c)++(a.eval y).cells.toList++cur.toList.drop (r*sz+c+ti.size)).toArray):=by
      rw[he,hoff]
      exact A0g hT ht hheap (by simpa using hvl) (by rw[hcs];omega) c2
     have hk':=h'.setRow_keep hB' hl hg (cur.toList.take (r*sz+c)++(a.eval y).cells.toList++cur.toList.drop (r*sz+c+ti.size)).toArray
     have hrow'l:∀ z∈rows',z.length=sz:=by
      intro z hz
      rw[hcs']at hz
      rcases List.mem_or_eq_of_mem_set hz with hz | rfl
      ·exact hsz z hz
      ·simp only [List.length_append,List.length_take,List.length_drop]
       omega
     have hxsl:=hown.1
     have hxcur:∀ j,j < rows.length*sz→cur.toList[j]?=xs[j]?:=fun j hj=>by rw[← hcur,List.getElem?_take,if_pos hj]
     have hu:=h'.upd (B':={ B with k:=.row sz rows' }) hB' hl rfl (by funext r c;simp [Blk.off,hk]) (by simp [Blk.len,hk,hcs']) hg (cur.toList.take (r*sz+c)++(a.eval y).cells.toList++cur.toList.drop (r*sz+c+ti.size)).toArray (by
      rw[← hvl]at hk' ⊢
      have hlen':rows'.length=rows.length:=by rw[hcs'];simp
      refine⟨hrow'l,(cur.toList.take (r*sz+c)++(a.eval y).cells.toList++cur.toList.drop (r*sz+c+(a.eval y).cells.toList.length)).take (rows.length*sz),⟨?_,.inr ⟨g',cap,_,?_,hgb,setRow_heap w g' cur _ B.ty (0,0) hheap,?_,hcm,?_,?_⟩⟩,fun u hu=>?_,fun j b u hb hu=>?_⟩
      ·rw[hlen',List.length_take,G5 _ _ _ hfit'];simp only [Array.length_toList];rw[hcs];omega
      ·rw[hlen'];exact epl
      ·rw[hlen'];exact hnc
      ·simp only [List.size_toArray];rw[G5 _ _ _ hfit'];simpa using hcs
      ·rw[hlen']
      ·obtain⟨j,hj⟩:=List.mem_iff_getElem?.1 hu
       rw[List.getElem?_take]at hj
       split at hj
       ·rename_i hjlt
        rw[G4 _ _ _ hfit']at hj
        split at hj
        ·rw[hxcur j hjlt]at hj;exact hx1 u (List.mem_of_getElem? hj)
        ·split at hj
         ·exact c2 u (List.mem_of_getElem? hj)
         ·rw[hxcur j hjlt]at hj;exact hx1 u (List.mem_of_getElem? hj)
       ·cases hj
      ·have hjlt:j < rows.length*sz:=by
        have:=lt_of_getElem? hb
        rw[C5 hrow'l,hlen']at this
        exact this
       rw[List.getElem?_take,if_pos hjlt,G4 _ _ _ hfit']at hu
       have hs0:0 < sz:=by
        rcases Nat.eq_zero_or_pos sz with e | e
        ·rw[e]at hjlt;omega
        ·exact e
       have hj1:j / sz < rows.length:=by rw[Nat.div_lt_iff_lt_mul hs0];exact hjlt
       have hj2:j % sz < sz:=Nat.mod_lt _ hs0
       have hj3:j=j / sz*sz+j % sz:=by rw[Nat.mul_comm,Nat.div_add_mod]
       have hr':rows'[j / sz]?=some rows'[j / sz]:=List.getElem?_eq_getElem (by omega)
       have hget:=F5 hrow'l hr' hj2
       rw[← hj3,hb]at hget
       have hold:∀(z:List AV),rows[j / sz]?=some z→z[j % sz]?=some b→∀ u,xs[j]?=some u→RelV0 (SS E (look (R6 σ.hp q.1.2)) pl w) w b u:=by
        intro z hz hzb u hu
        have h2:=F5 hsz hz hj2
        rw[← hj3,hzb]at h2
        exact hx2 j b u h2 hu
       have hrw:rows'[j / sz]?=if r=j / sz then some (ov.row.take c++q.1.1++ov.row.drop (c+ti.size))else rows[j / sz]?:=by
        rw[hcs',List.getElem?_set]
        by_cases e:r=j / sz
        ·rw[if_pos e,if_pos e,if_pos hrlt]
        ·rw[if_neg e,if_neg e]
       rw[hrw]at hr'
       by_cases e:r=j / sz
       ·rw[if_pos e]at hr'
        simp only [Option.some.injEq]at hr'
        rw[← hr',← ho2,G4 _ _ _ (by omega)]at hget
        have hj4:r*sz+j % sz=j:=by rw[e];exact hj3.symm
        by_cases h1:j % sz < c
        ·rw[if_pos h1]at hget
         rw[if_pos (by omega),hxcur j hjlt]at hu
         exact(hold ov.row (by rw[← e];exact ho1) hget.symm u hu).mono (fun _ hk=>hk) hk'
        ·rw[if_neg h1]at hget
         rw[if_neg (by omega)]at hu
         by_cases h2:j % sz < c+q.1.1.length
         ·rw[if_pos h2]at hget
          rw[if_pos (by omega)]at hu
          refine(c3 (j % sz-c) b u hget.symm ?_).mono (fun _ hk=>hk) hk'
          have e5:j-(r*sz+c)=j % sz-c:=by omega
          rw[e5]at hu
          simpa using hu
         ·rw[if_neg h2]at hget
          rw[if_neg (by omega),hxcur j hjlt]at hu
          exact(hold ov.row (by rw[← e];exact ho1) hget.symm u hu).mono (fun _ hk=>hk) hk'
       ·rw[if_neg e]at hr'
        have hout:j < r*sz+c∨r*sz+c+(a.eval y).cells.toList.length≤j:=by
         rcases Nat.lt_or_gt_of_ne e with hlt | hgt
         ·right
          have:(r+1)*sz≤j / sz*sz:=Nat.mul_le_mul_right _ hlt
          rw[Nat.add_mul]at this
          omega
         ·left
          have:(j / sz+1)*sz≤r*sz:=Nat.mul_le_mul_right _ hgt
          rw[Nat.add_mul]at this
          omega
        have hu':xs[j]?=some u:=by
         rw[← hxcur j hjlt]
         rcases hout with ho | ho
         ·rw[if_pos ho]at hu;exact hu
         ·rw[if_neg (by omega),if_neg (by omega)]at hu;exact hu
        exact(hold _ hr' hget.symm u hu').mono (fun _ hk=>hk) hk')
     refine A0h ho hrow ⟨pl,?_⟩
     have:=hu.put o.dst hd (av:=A00) (v:=undef) (.pure _ _ V0)
     unfold St.app
     have e:(q.1.2++[(id,({ B with k:=.row sz rows' }:Blk))]).foldl (fun h p=>Go.E.put h p.1 p.2) σ.hp=Go.E.put (R6 σ.hp q.1.2) id { B with k:=.row sz rows' }:=by
      rw[List.foldl_append];rfl
     rw[e]
     exact this
  ·simp [Pg.run]at hrun
 ·simp [Pg.run]at hrun
end
end Go.E
namespace Go.E
open Go.RowKit
section
variable {P : Program} {E : Env} {T : Tab} {ov : Ov} {o : Oper} {σ : St} {pl : Nat → Value} {a : Act} {w : World} {eff : Eff} {log : List Nat}
theorem Q3{d ty:Nat}{k:BK}{v:Nat→AV}{obl:List Prop}{hp:Nat→Option Blk}{l:List Nat}{r:Eff×List Nat}(h:(mkB d ty k v obl).run hp l=some r) :
  ∃ ver,(∀ C,hp d=some C→C.ver < ver)∧r.1={ val:=v ver,ups:=[(d,⟨ver,ty,k⟩)],obl:=obl }:=by
 simp only [mkB,Pg.run]at h
 cases hd:hp d with
 | none =>
  simp only [hd,Pg.run,Option.some.injEq]at h
  exact⟨0,⟨fun C hC=>absurd hC (by simp),by rw[← h]⟩⟩
 | some B =>
  simp only [hd,Pg.run,Option.some.injEq]at h
  exact⟨B.ver+1,⟨fun C hC=>by simp only [Option.some.injEq]at hC;subst hC;omega,by rw[← h]⟩⟩
theorem Ok.new{v u:Value}{w':World}{av:AV}{obl:List Prop}{ver ty d:Nat}{k:BK}(h:RelX E σ pl a w)(hd:∀ q,o.dst=some q→q < E.nt)(hdst:o.dst=some d)
  (hr:(execOp a.eval o).run P w=.ok (.value v) w') (hb:Below w.heap.size w w') (hver:∀ C,look σ.hp d=some C→C.ver < ver)
  (hv:∀ k,blkOf u=some k→w.heap.size≤k∧k < w'.heap.size) (hB:BlkRel E.w0.heap.size (look σ.hp) pl (SS E (look σ.hp) pl w) w' u ⟨ver,ty,k⟩)
  (hval:RelV (look (Go.E.put σ.hp d ⟨ver,ty,k⟩)) (D8 pl d u) (SS E (look (Go.E.put σ.hp d ⟨ver,ty,k⟩)) (D8 pl d u) w') w' av v) :
  Ok P E o a w (σ.app o.dst { val:=av,ups:=[(d,⟨ver,ty,k⟩)],obl:=obl }):=by
 have hn:=(h.new hb d ⟨ver,ty,k⟩ u hver hv hB).1
 exact .value hr ⟨D8 pl d u,hn.put o.dst hd hval⟩
theorem R9(w:World)(ob:Obj):Below w.heap.size w (w.alloc ob):=(Below.refl _ _).alloc (Nat.le_refl _) ob
theorem Ok.newVar{d t:Nat}{k:BK}{cells:List AV}{vs:Array Value}{ver:Nat}{obl:List Prop}(h:RelX E σ pl a w)(hd:∀ q,o.dst=some q→q < E.nt)(hdst:o.dst=some d)
  (hr:(execOp a.eval o).run P w=.ok (.value (.pointer (some ⟨w.heap.size,0,none⟩))) (w.alloc (.cells vs t))) (hver:∀ C,look σ.hp d=some C→C.ver < ver)
  (hk:k=.var cells∨k=.arr cells) (hl:vs.size=cells.length) (h1:∀ u∈vs.toList,u.oneCell'=true)
  (hvar:k=.var cells→∀(j:Nat) (b:AV) (u:Value),cells[j]?=some b→vs[j]?=some u→RelV (look σ.hp) pl (SS E (look σ.hp) pl w) w b u)
  (harr:k=.arr cells→∀(j:Nat) (b:AV) (u:Value),cells[j]?=some b→vs[j]?=some u→RelV0 (SS E (look σ.hp) pl w) w b u) :
  Ok P E o a w (σ.app o.dst { val:=.ptr d ver 0 0,ups:=[(d,⟨ver,t,k⟩)],obl:=obl }):=by
 have hb:=R9 w (.cells vs t)
 refine .new (u:=.pointer (some ⟨w.heap.size,0,none⟩)) h hd hdst hr hb hver (fun q hq=>?_) ?_ (.ptr d ver 0 0 _ ⟨ver,t,k⟩ (by simp [C8]) (Nat.le_refl _) rfl fun _ _=>⟨w.heap.size,by simp [D8,blkOf],?_⟩)
 ·simp [blkOf]at hq;subst hq;simp
 ·rcases hk with rfl | rfl
  ·exact⟨w.heap.size,vs,rfl,h.below.size,heap_alloc_new w _,hl,h1,fun j b u hb' hu=>(hvar rfl j b u hb' hu).mono (Al5.refl _ _) (fun _ hk=>hk) (fun k hk=>hb.block k (hk.lt h.below))⟩
  ·exact⟨w.heap.size,vs,rfl,h.below.size,heap_alloc_new w _,hl,h1,fun j b u hb' hu=>(harr rfl j b u hb' hu).mono (fun _ hk=>hk) (fun k hk=>hb.block k (hk.lt h.below))⟩
 ·rcases hk with rfl | rfl <;> simp [Blk.off]
theorem B1y{t:TypeId}{ti:TI}(hT:TabOk P T)(ht:look T t=some ti)(w:World):∃ z:Value,(Instr.alloc t true (.tuple #[])).run P w=.ok (.pointer (some ⟨w.heap.size,0,none⟩)) (w.alloc (.cells z.cells t)) ∧
  z.cells.toList.map avC=ti.zero.map some:=by
 obtain⟨i,z,h1,h2,h3,h4,h5⟩:=inf hT ht
 refine⟨z,?_,h5⟩
 simp [Instr.alloc,zeroValue,typeInfo,h1,h4,newVar,newRow,newObj,Sem.run]
theorem B6l(hT:TabOk P T)(h:RelX E σ pl a w)(hd:∀ q,o.dst=some q→q < E.nt)(t:TypeId)(ho:o.op=.alloc t)
  (hrun:(C4 P T ov o σ.ev).run (look σ.hp) []=some (eff,log)):Ok P E o a w (σ.app o.dst eff):=by
 simp only [C4,ho]at hrun
 split at hrun
 ·rename_i d ti hdst ht
  obtain⟨z,hr,hz⟩:=B1y hT ht w
  obtain⟨z1,z2,z3⟩:=A0f hz (SS E (look σ.hp) pl w) w
  have hr':(execOp a.eval o).run P w=.ok (.value (.pointer (some ⟨w.heap.size,0,none⟩))) (w.alloc (.cells z.cells t)):=by simp [execOp,ho,hr]
  split at hrun
  ·obtain⟨ver,hver,e⟩:=Q3 hrun
   simp only at e
   subst e
   exact .newVar (cells:=ti.zero) h hd hdst hr' hver (.inr rfl) z1 z2 (fun e=>by cases e) (fun _=>z3)
  ·obtain⟨ver,hver,e⟩:=Q3 hrun
   simp only at e
   subst e
   exact .newVar (cells:=ti.zero) h hd hdst hr' hver (.inl rfl) z1 z2 (fun _ j b u hb hu=>.pure _ _ (z3 j b u hb hu)) (fun e=>by cases e)
 ·simp [Pg.run]at hrun
theorem ok_box(h:RelX E σ pl a w)(hd:∀ q,o.dst=some q→q < E.nt)(t:TypeId)(x:Operand)(ho:o.op=.box t x)
  (hrun:(C4 P T ov o σ.ev).run (look σ.hp) []=some (eff,log)):Ok P E o a w (σ.app o.dst eff):=by
 simp only [C4,ho]at hrun
 split at hrun
 ·rename_i d ti av hdst ht hx
  have hr':(execOp a.eval o).run P w=.ok (.value (.pointer (some ⟨w.heap.size,0,none⟩))) (w.alloc (.cells (a.eval x).cells t)):=by
   simp [execOp,ho,Instr.box,newVar,newRow,newObj,Sem.run]
  have hrx:=h.ev hx
  split at hrun
  ·split at hrun
   ·rename_i cs
    obtain⟨ver,hver,e⟩:=Q3 hrun
    simp only at e
    subst e
    obtain⟨h1,h2,h3⟩:=U9 (P3 hrx) rfl
    exact .newVar (cells:=cs) h hd hdst hr' hver (.inr rfl) h1 h2 (fun e=>by cases e) (fun _=>h3)
   ·simp [Pg.run]at hrun
  ·replace hrun:=F9 hrun
   obtain⟨hc,hrun⟩:=hrun
   obtain⟨ver,hver,e⟩:=Q3 hrun
   simp only at e
   subst e
   obtain⟨h1,h2,h3⟩:=A3o hrx hc
   exact .newVar (cells:=E0 av) h hd hdst hr' hver (.inl rfl) h1 h2 (fun _=>h3) (fun e=>by cases e)
 ·simp [Pg.run]at hrun
theorem M6{t e:TypeId}{ti te:TI}(hT:TabOk P T)(ht:look T t=some ti)(hd:ti.desc=.slice e)(he:look T e=some te){k:IntKind}{n:Int}{ad:Addr}{len cap:Nat}(h0:0≤n)(h1:n < len)(w:World) :
  (Instr.indexAt t (.slice (some ad) len cap) (.int k n)).run P w=.ok (.pointer (some (ad.add (n.toNat*te.size)))) w:=by
 have u:=und hT ht w
 rw[hd]at u
 have h2:0≤n∧n <(len:Int):=⟨h0,h1⟩
 simp [Instr.indexAt,asIntOf,u,h2,Ac9 hT he]
theorem M7{t e:TypeId}{ti te:TI}{len:Nat}(hT:TabOk P T)(ht:look T t=some ti)(hd:ti.desc=.array len e)(he:look T e=some te){k:IntKind}{n:Int}{ad:Addr}(h0:0≤n)(h1:n < len)(w:World) :
  (Instr.indexAt t (.pointer (some ad)) (.int k n)).run P w=.ok (.pointer (some (ad.add (n.toNat*te.size)))) w:=by
 have u:=und hT ht w
 rw[hd]at u
 have h2:0≤n∧n <(len:Int):=⟨h0,h1⟩
 simp [Instr.indexAt,asIntOf,Instr.sureAddr,u,h2,Ac9 hT he]
theorem Ad2(hT:TabOk P T)(h:RelX E σ pl a w)(hd:∀ q,o.dst=some q→q < E.nt)(t:TypeId)(x ix:Operand)(ho:o.op=.indexAddr t x ix)
  (hrun:(C4 P T ov o σ.ev).run (look σ.hp) []=some (eff,log)) (hobl:All eff.obl):Ok P E o a w (σ.app o.dst eff):=by
 simp only [C4,ho]at hrun
 split at hrun
 ·rename_i ti av k n ht hx hix
  have ei:=E3 (h.ev hix) rfl
  split at hrun
  ·rename_i e rows hdesc
   split at hrun
   ·rename_i te hte
    simp only [Pg.run,Option.some.injEq,Prod.mk.injEq]at hrun
    obtain⟨rfl,_⟩:=hrun
    obtain⟨o1,o2,o3⟩:0≤n∧rows[n.toNat]?=some ov.row∧ov.row.length=te.size:=hobl
    have hr:=Am1 (h.ev hx)
    generalize hu:a.eval x=u0 at hr
    cases hr with
    | sl _ A cap sz u hc hm hn hsz hA h1 hh =>
     have hlt:=lt_of_getElem? o2
     obtain⟨ad,rfl,hS,hcell⟩:=hA (by omega)
     have hsz':sz=te.size:=by rw[← o3];exact(hsz _ (List.mem_of_getElem? o2)).symm
     refine .pure h hd (v:=.pointer (some (ad.add (n.toNat*te.size)))) ?_ (.pure _ _ (.eptr _ _ (fun q=>u n.toNat q) (by rw[Q0];exact hS) (fun q hq=>?_) (fun q=>h1 _ q) (fun q b hb=>hh _ q _ b o2 hb)))
     ·simp only [execOp,ho,hu,ei,Sem.run_bind]
      rw[M6 hT ht hdesc hte o1 (by omega)]
      rfl
     ·rw[A49,← hsz']
      exact hcell _ q hlt (by omega)
   ·simp [Pg.run]at hrun
  ·rename_i e id ver hdesc
   replace hrun:=D4 hrun
   obtain⟨B,hB,hv,hl,hrun⟩:=hrun
   split at hrun
   ·rename_i sz rows te hk hte
    simp only [Pg.run,Option.some.injEq,Prod.mk.injEq]at hrun
    obtain⟨rfl,_⟩:=hrun
    obtain⟨o1,o2,o3⟩:0≤n∧n.toNat < rows.length∧te.size=sz:=hobl
    obtain⟨hsz,xs,hown,_⟩:=h.rowCell hB hk
    have he:=F2 (h.ev hx) hB hv hl
    rcases hown.2 with⟨_,h0⟩ | ⟨g,cap,cur,e1,_⟩
    ·omega
    ·refine .pure h hd (v:=.pointer (some ⟨g,n.toNat*te.size,none⟩)) ?_ (.ptr id ver n.toNat 0 _ B hB (by omega) rfl fun _ _=>⟨g,by rw[e1];rfl,by simp [Blk.off,hk,o3]⟩)
     simp only [execOp,ho,he,e1,ei,Sem.run_bind]
     rw[M6 hT ht hdesc hte o1 (by omega)]
     simp [G2]
   ·simp [Pg.run]at hrun
  ·rename_i e id ver lo m hdesc
   replace hrun:=D4 hrun
   obtain⟨B,hB,hv,hl,hrun⟩:=hrun
   split at hrun
   ·rename_i sz rows te hk hte
    simp only [Pg.run,Option.some.injEq,Prod.mk.injEq]at hrun
    obtain⟨rfl,_⟩:=hrun
    obtain⟨o1,o2,o3⟩:0≤n∧n.toNat < m∧te.size=sz:=hobl
    obtain⟨g,cap,hg,_,_,_,he⟩:=A8l (h.ev hx) hB hv hl
    refine .pure h hd (v:=.pointer (some ⟨g,lo*sz+n.toNat*te.size,none⟩)) ?_ (.ptr id ver (lo+n.toNat) 0 _ B hB (by omega) rfl fun _ _=>⟨g,hg,by simp [Blk.off,hk,o3,Nat.add_mul]⟩)
    simp only [execOp,ho,he,ei,Sem.run_bind]
    rw[M6 hT ht hdesc hte o1 (by omega)]
    simp [G2,Blk.off,hk]
   ·simp [Pg.run]at hrun
  ·rename_i len e id ver r c hdesc
   replace hrun:=D4 hrun
   obtain⟨B,hB,hv,hl,hrun⟩:=hrun
   split at hrun
   ·rename_i cells te hk hte
    replace hrun:=F9 hrun
    obtain⟨hc,hrun⟩:=hrun
    simp only [Bool.and_eq_true,beq_iff_eq]at hc
    obtain⟨rfl,rfl⟩:=hc
    simp only [Pg.run,Option.some.injEq,Prod.mk.injEq]at hrun
    obtain⟨rfl,_⟩:=hrun
    obtain⟨o1,o2⟩:0≤n∧n < len:=hobl
    obtain⟨g,hg,he⟩:=K1 (h.ev hx) hB hv hl
    refine .pure h hd (v:=.pointer (some ⟨g,n.toNat*te.size,none⟩)) ?_ (.ptr id ver (n.toNat*te.size) 0 _ B hB (by omega) rfl fun _ _=>⟨g,hg,by simp [Blk.off,hk]⟩)
    simp only [execOp,ho,he,ei,Sem.run_bind]
    rw[M7 hT ht hdesc hte o1 o2]
    simp [G2,Blk.off,hk]
   ·rename_i cells te hk hte
    replace hrun:=F9 hrun
    obtain⟨hc,hrun⟩:=hrun
    simp only [Bool.and_eq_true,beq_iff_eq]at hc
    obtain⟨rfl,rfl⟩:=hc
    simp only [Pg.run,Option.some.injEq,Prod.mk.injEq]at hrun
    obtain⟨rfl,_⟩:=hrun
    obtain⟨o1,o2⟩:0≤n∧n < len:=hobl
    obtain⟨g,hg,he⟩:=K1 (h.ev hx) hB hv hl
    refine .pure h hd (v:=.pointer (some ⟨g,n.toNat*te.size,none⟩)) ?_ (.ptr id ver 0 (n.toNat*te.size) _ B hB (by omega) rfl fun _ _=>⟨g,hg,by simp [Blk.off,hk]⟩)
    simp only [execOp,ho,he,ei,Sem.run_bind]
    rw[M7 hT ht hdesc hte o1 o2]
    simp [G2,Blk.off,hk]
   ·simp [Pg.run]at hrun
  ·rename_i len e cs hdesc
   split at hrun
   ·rename_i te hte
    simp only [Pg.run,Option.some.injEq,Prod.mk.injEq]at hrun
    obtain⟨rfl,_⟩:=hrun
    obtain⟨o1,o2⟩:0≤n∧n < len:=hobl
    have hr:=A1t (h.ev hx)
    generalize hu:a.eval x=u0 at hr
    cases hr with
    | eptr _ ad u hS hA h1 hh =>
     refine .pure h hd (v:=.pointer (some (ad.add (n.toNat*te.size)))) ?_ (.pure _ _ (.eptr _ _ (fun q=>u (n.toNat*te.size+q)) (by rw[Q0];exact hS) (fun q hq=>?_) (fun q=>h1 _) (fun q b hb=>?_)))
     ·simp only [execOp,ho,hu,ei,Sem.run_bind]
      rw[M7 hT ht hdesc hte o1 o2]
      rfl
     ·rw[A49]
      exact hA _ (by simp at hq;omega)
     ·rw[List.getElem?_drop]at hb
      exact hh _ b hb
   ·simp [Pg.run]at hrun
  ·simp [Pg.run]at hrun
 ·simp [Pg.run]at hrun
theorem B6m(hT:TabOk P T)(h:RelX E σ pl a w)(hd:∀ q,o.dst=some q→q < E.nt)(t:TypeId)(x ix:Operand)(ho:o.op=.index t x ix)
  (hrun:(C4 P T ov o σ.ev).run (look σ.hp) []=some (eff,log)) (hobl:All eff.obl):Ok P E o a w (σ.app o.dst eff):=by
 simp only [C4,ho]at hrun
 split at hrun
 ·rename_i ti av k n ht hx hix
  have ei:=E3 (h.ev hix) rfl
  have u:=und hT ht w
  split at hrun
  ·rename_i z hdesc
   split at hrun
   ·rename_i m hov
    simp only [Pg.run,Option.some.injEq,Prod.mk.injEq]at hrun
    obtain⟨rfl,_⟩:=hrun
    obtain⟨o1,o2⟩:0≤n∧(z[n.toNat]?.map fun b=>(b.toNat:Int))=some m:=hobl
    have ez:=E3 (h.ev hx) rfl
    cases hb:z[n.toNat]? with
    | none=>rw[hb]at o2;simp at o2
    | some b =>
     rw[hb]at o2
     simp only [Option.map_some,Option.some.injEq]at o2
     subst o2
     refine .pure h hd (v:=.int .u8 b.toNat) ?_ (.pure _ _ (.i _ _))
     rw[hdesc]at u
     simp [execOp,ho,ez,ei,Instr.index,asIntOf,u,o1,hb]
   ·simp [Pg.run]at hrun
  ·rename_i len e cs hdesc
   split at hrun
   ·rename_i te q hte hrow
    replace hrun:=F9 hrun
    obtain⟨hc,hrun⟩:=hrun
    have hag:te.isAgg=false:=by simpa using hc
    simp only [Pg.run,Option.some.injEq,Prod.mk.injEq]at hrun
    obtain⟨rfl,_⟩:=hrun
    obtain⟨o1,o2,o3⟩:0≤n∧n < len∧cs[n.toNat*te.size]?=some q:=hobl
    have hr:=P3 (h.ev hx)
    generalize hu:a.eval x=u0 at hr
    cases hr with
    | agg _ vs hl h1 hh =>
     have hlt:=lt_of_getElem? o3
     have hlt':n.toNat*te.size < vs.length:=by omega
     refine .pure h hd (v:=vs[n.toNat*te.size]) ?_ (.pure _ _ (hh _ q _ o3 (List.getElem?_eq_getElem hlt')))
     rw[hdesc]at u
     have h2:0≤n∧n <(len:Int):=⟨o1,o2⟩
     simp [execOp,ho,hu,ei,Instr.index,asIntOf,u,h2,Ac9 hT hte,part,A4r hT hte,hag,List.getElem?_eq_getElem hlt']
   ·simp [Pg.run]at hrun
  ·simp [Pg.run]at hrun
 ·simp [Pg.run]at hrun
end
end Go.E
namespace Go.E
open Go.RowKit
section
variable {P : Program} {E : Env} {T : Tab} {ov : Ov} {o : Oper} {σ : St} {pl : Nat → Value} {a : Act} {w : World} {eff : Eff} {log : List Nat}
theorem Ad3:∀(vs:List Value) (i off:Nat) (cells:Array Value),off+i+vs.length≤cells.size →
  ((vs.zipIdx i).foldl (fun cs (p:Value×Nat)=>cs.setIfInBounds (off+p.2) p.1) cells).toList=cells.toList.take (off+i)++vs++cells.toList.drop (off+i+vs.length)
 | [],i,off,cells,_=>by simp
 | v :: vs,i,off,cells,h=>by
  simp only [List.length_cons]at h
  rw[List.zipIdx_cons,List.foldl_cons,Ad3 vs (i+1) off _ (by simp;omega)]
  have e:=list_seg_step cells.toList (off+i) v vs (by simp;omega)
  simpa [Array.toList_setIfInBounds,Nat.add_assoc]using e
def A4t(S:Nat→Prop)(w:World)(cs:List AV)(vs:Array Value):Prop :=
 vs.size=cs.length∧(∀ u∈vs.toList,u.oneCell'=true)∧∀(j:Nat) (b:AV) (u:Value),cs[j]?=some b→vs[j]?=some u→RelV0 S w b u
theorem A8n{S:Nat→Prop}(place:Nat→Option (Nat×Nat)):∀(l:List (Nat×List AV)) (m:List (Nat×Value)) (cs cs':List AV) (vs:Array Value),A4t S w cs vs →
  l.length=m.length→(∀(j:Nat) (p:Nat×List AV) (q:Nat×Value),l[j]?=some p→m[j]?=some q→p.1=q.1∧W8 S w p.2 q.2)→A4n place cs l=some cs' →
  ∃ vs',Instr.fill place vs m=some vs'∧A4t S w cs' vs'∧cs'.length=cs.length
 | [],[],cs,cs',vs,hr,_,_,hf=>by
  simp only [A4n,Option.some.injEq]at hf
  subst hf
  exact⟨vs,rfl,hr,rfl⟩
 | [],_ :: _,_,_,_,_,hl,_,_=>by simp at hl
 | _ :: _,[],_,_,_,_,hl,_,_=>by simp at hl
 | p :: l,q :: m,cs,cs',vs,hr,hl,hp,hf=>by
  obtain⟨i,pc⟩:=p
  obtain⟨i',v⟩:=q
  obtain⟨e,hc⟩:=hp 0 _ _ rfl rfl
  simp only at e hc
  subst e
  simp only [A4n]at hf
  cases hpl:place i with
  | none=>simp [hpl]at hf
  | some os =>
   obtain⟨off,size⟩:=os
   simp only [hpl]at hf
   split at hf
   ·rename_i hcond
    simp only [Bool.and_eq_true,beq_iff_eq]at hcond
    have h1:=hcond.1
    have h2:=Nat.le_of_ble_eq_true hcond.2
    obtain⟨c1,c2,c3⟩:=hc
    obtain⟨r1,r2,r3⟩:=hr
    have hsz:v.cells.size=size:=by omega
    have hfit:off+v.cells.toList.length≤vs.toList.length:=by simp;omega
    have hnew:(v.cells.zipIdx.foldl (fun cs (p:Value×Nat)=>cs.setIfInBounds (off+p.2) p.1) vs).toList=vs.toList.take off++v.cells.toList++vs.toList.drop (off+v.cells.toList.length):=by
     have:=Ad3 v.cells.toList 0 off vs (by simpa using hfit)
     rw[← Array.foldl_toList]
     simpa using this
    have hr':A4t S w (cs.take off++pc++cs.drop (off+size)) (v.cells.zipIdx.foldl (fun cs (p:Value×Nat)=>cs.setIfInBounds (off+p.2) p.1) vs):=by
     have hpc:pc.length=v.cells.toList.length:=by simp;omega
     have hso:size=pc.length:=h1.symm
     refine⟨?_,fun u hu=>?_,fun j b u hb hu=>?_⟩
     ·rw[← Array.length_toList,hnew,G5 _ _ _ hfit,hso,G5 _ _ _ (by omega)]
      simpa using r1
     ·rw[hnew]at hu
      simp only [List.mem_append]at hu
      rcases hu with(hu | hu) | hu
      ·exact r2 u (List.mem_of_mem_take hu)
      ·exact c2 u hu
      ·exact r2 u (List.mem_of_mem_drop hu)
     ·rw[← Array.getElem?_toList,hnew,G4 _ _ _ hfit]at hu
      rw[hso,G4 _ _ _ (by omega),hpc]at hb
      by_cases h3:j < off
      ·rw[if_pos h3]at hb hu
       exact r3 j b u hb (by simpa using hu)
      ·rw[if_neg h3]at hb hu
       by_cases h4:j < off+v.cells.toList.length
       ·rw[if_pos h4]at hb hu
        exact c3 _ b u hb (by simpa using hu)
       ·rw[if_neg h4]at hb hu
        exact r3 j b u hb (by simpa using hu)
    obtain⟨vs',g1,g2,g3⟩:=A8n place l m _ cs' _ hr' (by simpa using hl) (fun j p q h5 h6=>hp (j+1) p q (by simpa using h5) (by simpa using h6)) hf
    refine⟨vs',?_,g2,by rw[g3,h1.symm,G5 _ _ _ (by omega)]⟩
    have hne:¬(v.cells.size≠size∨off+v.cells.size > vs.size):=by omega
    have hne':(decide (v.cells.size≠size) || decide (off+v.cells.size > vs.size))=false:=by simp;omega
    simp only [Instr.fill,hpl]
    rw[if_neg (by simpa using hne)]
    exact g1
   ·cases hf
theorem A8o(h:RelX E σ pl a w):∀(parts:List (Nat×Operand)) (l:List Nat) (r:List (Nat×(List AV×List (Nat×Blk)))×List Nat),
  (I4 (A1s σ.ev) parts).run (look σ.hp) l=some r →
  As3 σ (r.1.flatMap fun p=>p.2.2)∧r.1.length=parts.length∧∀(S':Nat→Prop),(∀ k,SS E (look σ.hp) pl w k→S' k) →
   (∀ p∈r.1.flatMap (fun p=>p.2.2),∀ B,look σ.hp p.1=some B→B.live=true→∀ k,blkOf (pl p.1)=some k→S' k) →
   ∀(j:Nat) (p:Nat×(List AV×List (Nat×Blk))) (q:Nat×Operand),r.1[j]?=some p→parts[j]?=some q→p.1=q.1∧W8 S' w p.2.1 (a.eval q.2)
 | [],l,r,hr=>by
  simp only [I4,Pg.run,Option.some.injEq]at hr
  subst hr
  exact⟨fun p hp=>absurd hp (by simp),rfl,fun S' _ _ j p q hp=>by simp at hp⟩
 | x :: parts,l,r,hr=>by
  simp only [I4,A1s,Pg.run_bind]at hr
  cases hx:σ.ev x.2 with
  | none=>simp [hx,Pg.run]at hr
  | some av =>
   simp only [hx,Pg.run_bind]at hr
   cases hp:(Ac8 av).run (look σ.hp) l with
   | none=>simp [hp]at hr
   | some q =>
    simp only [hp,Option.bind_some,Pg.run]at hr
    cases hm:(I4 (A1s σ.ev) parts).run (look σ.hp) q.2 with
    | none=>simp [A1s,hm]at hr
    | some r' =>
     simp only [hm,Option.bind_some,Option.some.injEq]at hr
     subst hr
     obtain⟨g1,g2⟩:=A8m h (h.ev hx) hp
     obtain⟨i1,i2,i3⟩:=A8o h parts q.2 r' hm
     refine⟨fun p hp'=>?_,by simp [i2],fun S' hS' hf j p y hj hy=>?_⟩
     ·simp only [List.flatMap_cons,List.mem_append]at hp'
      rcases hp' with hp' | hp'
      ·exact g1 p hp'
      ·exact i1 p hp'
     ·cases j with
      | zero =>
       simp at hj hy
       subst hj
       subst hy
       exact⟨rfl,g2 S' hS' fun p hp'=>hf p (by simp [hp'])⟩
      | succ j=>exact i3 S' hS' (fun p hp'=>hf p (by simp only [List.flatMap_cons,List.mem_append];exact .inr hp')) j p y (by simpa using hj) (by simpa using hy)
theorem Ad4(hT:TabOk P T):∀(fs:List Field) (pl:List (Nat×Nat)),A1r T fs=some pl→fs.mapM (fun f=>(P.info? f.type).map fun i=>(f.offset,i.size))=some pl
 | [],pl,h=>by simp [A1r]at h;subst h;rfl
 | f :: fs,pl,h=>by
  simp only [A1r]at h
  split at h
  ·rename_i ti l h1 h2
   simp only [Option.some.injEq]at h
   subst h
   obtain⟨i,z,e1,e2,_⟩:=inf hT h1
   simp [List.mapM_cons,e1,e2,Ad4 hT fs l h2]
  ·cases h
theorem B6n(hT:TabOk P T)(h:RelX E σ pl a w)(hd:∀ q,o.dst=some q→q < E.nt)(t:TypeId)(parts:Array (Nat×Operand))(ho:o.op=.build t parts)
  (hrun:(C4 P T ov o σ.ev).run (look σ.hp) []=some (eff,log)):Ok P E o a w (σ.app o.dst eff):=by
 simp only [C4,ho]at hrun
 split at hrun
 ·rename_i ti ht
  rw[Pg.run_bind]at hrun
  cases hm:(I4 (A1s σ.ev) parts.toList).run (look σ.hp) []with
  | none=>rw[hm]at hrun;simp at hrun
  | some r =>
   rw[hm]at hrun
   simp only [Option.bind_some]at hrun
   obtain⟨g1,g2,g3⟩:=A8o h parts.toList [] r hm
   obtain⟨h',hSS,hE',hfree⟩:=h.giveUps _ g1
   have g3':=g3 _ hSS hfree
   obtain⟨i,z,i1,i2,i3,i4,i5⟩:=inf hT ht
   have hz:=A0f i5 (SS E (look (R6 σ.hp (r.1.flatMap fun p=>p.2.2))) pl w) w
   have hmap:(parts.map fun(i,x)=>(i,a.eval x)).toList=parts.toList.map fun p=>(p.1,a.eval p.2):=by simp
   have fin:∀(place:Nat→Option (Nat×Nat)) (cells:List AV),A4n place ti.zero (r.1.map fun p=>(p.1,p.2.1))=some cells →
     (∀ vs,Instr.fill place z.cells (parts.toList.map fun p=>(p.1,a.eval p.2))=some vs→P.built t (parts.toList.map fun p=>(p.1,a.eval p.2))=some vs) →
     eff={ val:=.agg cells,ups:=r.1.flatMap fun p=>p.2.2 }→Ok P E o a w (σ.app o.dst eff):=by
    intro place cells hf hb he
    obtain⟨vs,f1,f2,f3⟩:=A8n (w:=w) place (r.1.map fun p=>(p.1,p.2.1)) (parts.toList.map fun p=>(p.1,a.eval p.2)) ti.zero cells z.cells hz (by simp [g2]) (fun j p q hp hq=>by
     simp only [List.getElem?_map,Option.map_eq_some_iff]at hp hq
     obtain⟨p',hp',rfl⟩:=hp
     obtain⟨q',hq',rfl⟩:=hq
     exact g3' j p' q' hp' hq') hf
    have hbd:=hb vs f1
    subst he
    refine .value (v:=.agg vs) (w':=w) ?_ ⟨pl,?_⟩
    ·have:=run_build (P:=P) w t (parts.map fun(i,x)=>(i,a.eval x)) vs (by rw[hmap];exact hbd)
     simp only [execOp,ho,Sem.run_bind,this]
     rfl
    ·have hv:RelV (look (R6 σ.hp (r.1.flatMap fun p=>p.2.2))) pl (SS E (look (R6 σ.hp (r.1.flatMap fun p=>p.2.2))) pl w) w (.agg cells) (.agg vs):=by
      have:=RelV0.agg (S:=SS E (look (R6 σ.hp (r.1.flatMap fun p=>p.2.2))) pl w) (w:=w) cells vs.toList (by simpa using f2.1) f2.2.1 (fun j b u hb hu=>f2.2.2 j b u hb (by simpa using hu))
      exact .pure _ _ (by simpa using this)
     exact h'.put o.dst hd hv
   split at hrun
   ·rename_i fs hfs
    split at hrun
    ·rename_i pls hpls
     split at hrun
     ·rename_i cells hcells
      simp only [Pg.run,Option.some.injEq,Prod.mk.injEq]at hrun
      refine fin _ cells hcells (fun vs hv=>?_) hrun.1.symm
      have hu:=(hT t ti ht).1
      rw[hfs]at hu
      unfold Program.built
      simp only [i1,hu,i4,Ad4 hT _ _ hpls]
      simpa using hv
     ·simp [Pg.run]at hrun
    ·simp [Pg.run]at hrun
   ·rename_i len e hfs
    split at hrun
    ·rename_i te hte
     split at hrun
     ·rename_i cells hcells
      simp only [Pg.run,Option.some.injEq,Prod.mk.injEq]at hrun
      refine fin _ cells hcells (fun vs hv=>?_) hrun.1.symm
      have hu:=(hT t ti ht).1
      rw[hfs]at hu
      obtain⟨ie,ze,j1,j2,_⟩:=inf hT hte
      unfold Program.built
      simp only [i1,hu,i4,j1,j2]
      exact hv
     ·simp [Pg.run]at hrun
    ·simp [Pg.run]at hrun
   ·simp [Pg.run]at hrun
 ·simp [Pg.run]at hrun
end
end Go.E
namespace Go.E
open Go.RowKit
section
variable {P : Program} {E : Env} {T : Tab} {ov : Ov} {o : Oper} {σ : St} {pl : Nat → Value} {a : Act} {w : World} {eff : Eff} {log : List Nat}
theorem A7f(size:Nat):∀(n:Nat) (l:List AV),(Q2 size n l).length=n
 | 0,_=>rfl
 | n+1,l=>by simp [Q2,A7f size n]
theorem A7g(size:Nat):∀(n:Nat) (l:List AV),l.length=n*size→∀ r∈Q2 size n l,r.length=size
 | 0,_,_,r,h=>by simp [Q2]at h
 | n+1,l,hl,r,h=>by
  rw[Nat.add_mul]at hl
  simp only [Q2,List.mem_cons]at h
  rcases h with rfl | h
  ·simp;omega
  ·exact A7g size n (l.drop size) (by simp;omega) r h
theorem A4u(size:Nat):∀(n:Nat) (l:List AV),l.length=n*size→(Q2 size n l).flatten=l
 | 0,l,h=>by simp at h;subst h;rfl
 | n+1,l,hl=>by
  rw[Nat.add_mul]at hl
  simp only [Q2,List.flatten_cons]
  rw[A4u size n (l.drop size) (by simp;omega),List.take_append_drop]
theorem Am2{S:Nat→Prop}{z:Value}{ti:TI}(hz:A4t S w ti.zero z.cells)(n:Nat):A4t S w (List.replicate n ti.zero).flatten (madeCells z.cells (n*ti.zero.length)):=by
 have hl:∀ r∈List.replicate n ti.zero,r.length=ti.zero.length:=fun r hr=>by rw[(List.mem_replicate.1 hr).2]
 have hget:∀(j:Nat) (u:Value),(madeCells z.cells (n*ti.zero.length))[j]?=some u→z.cells[j % z.cells.size]?=some u∧j < n*ti.zero.length:=by
  intro j u hu
  unfold madeCells at hu
  simp only [Array.getElem?_map]at hu
  have hj:j < n*ti.zero.length:=by
   rcases Nat.lt_or_ge j (n*ti.zero.length)with h | h
   ·exact h
   ·rw[Array.getElem?_eq_none (by simpa using h)]at hu;simp at hu
  rw[Array.getElem?_eq_getElem (by simpa using hj)]at hu
  simp only [Array.getElem_range,Option.map_some,Option.some.injEq]at hu
  have hp:0 < z.cells.size:=by
   rw[hz.1]
   rcases Nat.eq_zero_or_pos ti.zero.length with e | e
   ·rw[e]at hj;omega
   ·exact e
  have hm:=Nat.mod_lt j hp
  refine⟨?_,hj⟩
  rw[← hu,Array.getElem?_eq_getElem hm]
  simp [hm]
 refine⟨by rw[size_madeCells,C5 hl];simp,fun u hu=>?_,fun j b u hb hu=>?_⟩
 ·obtain⟨j,hj⟩:=List.mem_iff_getElem?.1 hu
  have:=(hget j u (by simpa using hj)).1
  exact hz.2.1 u (List.mem_of_getElem? (by simpa using this))
 ·obtain⟨h1,h2⟩:=hget j u hu
  have hs0:0 < ti.zero.length:=by
   rcases Nat.eq_zero_or_pos ti.zero.length with e | e
   ·rw[e]at h2;omega
   ·exact e
  have hj1:j / ti.zero.length < n:=by rw[Nat.div_lt_iff_lt_mul hs0];exact h2
  have hj2:j % ti.zero.length < ti.zero.length:=Nat.mod_lt _ hs0
  have hr:(List.replicate n ti.zero)[j / ti.zero.length]?=some ti.zero:=by rw[List.getElem?_replicate,if_pos hj1]
  have hg:=F5 hl hr hj2
  rw[show j / ti.zero.length*ti.zero.length+j % ti.zero.length=j from by rw[Nat.mul_comm,Nat.div_add_mod],hb]at hg
  rw[hz.1]at h1
  exact hz.2.2 _ b u hg.symm h1
theorem Ad5(place:Nat→Option (Nat×Nat)):∀(l:List (Nat×List AV)) (cs cs':List AV),A4n place cs l=some cs'→cs'.length=cs.length
 | [],cs,cs',h=>by simp [A4n]at h;rw[h]
 | (i,pc) :: l,cs,cs',h=>by
  simp only [A4n]at h
  split at h
  ·cases h
  ·split at h
   ·rename_i hc
    simp only [Bool.and_eq_true,beq_iff_eq]at hc
    have h2:=Nat.le_of_ble_eq_true hc.2
    rw[Ad5 place l _ cs' h,← hc.1,G5 _ _ _ (by omega)]
   ·cases h
theorem A8p(hT:TabOk P T)(h:RelX E σ pl a w)(hd:∀ q,o.dst=some q→q < E.nt)(t:TypeId)(len:Nat)(parts:Array (Nat×Operand))(ho:o.op=.buildSlice t len parts)
  (hrun:(C4 P T ov o σ.ev).run (look σ.hp) []=some (eff,log)) (hobl:All eff.obl):Ok P E o a w (σ.app o.dst eff):=by
 simp only [C4,ho]at hrun
 split at hrun
 ·rename_i d ti hdst ht
  split at hrun
  ·rename_i e hdesc
   split at hrun
   ·rename_i te hte
    rw[Pg.run_bind]at hrun
    cases hm:(I4 (A1s σ.ev) parts.toList).run (look σ.hp) []with
    | none=>rw[hm]at hrun;simp at hrun
    | some r =>
     rw[hm]at hrun
     simp only [Option.bind_some]at hrun
     obtain⟨g1,g2,g3⟩:=A8o h parts.toList [] r hm
     obtain⟨h',hSS,hE',hfree⟩:=h.giveUps _ g1
     have g3':=g3 _ hSS hfree
     split at hrun
     ·rename_i cells hcells
      replace hrun:=F9 hrun
      obtain⟨hc,hrun⟩:=hrun
      simp only [Bool.and_eq_true,beq_iff_eq]at hc
      obtain⟨⟨hc1,hc2⟩,hc3⟩:=hc
      have hc1:=Nat.le_of_ble_eq_true hc1
      have hc2:=Nat.le_of_ble_eq_true hc2
      rw[Pg.run_bind]at hrun
      cases hk:(mkB d e (.row te.size (K3 ov (Q2 te.size len cells))) (fun v=>.own d v) (L6 ov (Q2 te.size len cells))).run (look σ.hp) r.2 with
      | none=>rw[hk]at hrun;simp at hrun
      | some q =>
       rw[hk]at hrun
       simp only [Option.bind_some,Pg.run,Option.some.injEq,Prod.mk.injEq]at hrun
       obtain⟨ver,hver,he⟩:=Q3 hk
       obtain⟨rfl,_⟩:=hrun
       rw[he]at hobl
       rw[he,J4 (fun p hp=>hobl.mem p hp)]
       simp only
       obtain⟨i,z,i1,i2,i3,i4,i5⟩:=inf hT hte
       have hz:=A0f i5 (SS E (look (R6 σ.hp (r.1.flatMap fun p=>p.2.2))) pl w) w
       have hzl:ti.zero.length=ti.zero.length:=rfl
       have htz:te.size=te.zero.length∨te.size≠te.zero.length:=by omega
       have hrep:=Am2 hz len
       have hlen0:cells.length=(List.replicate len te.zero).flatten.length:=Ad5 _ _ _ _ hcells
       have hlz:len*te.zero.length=len*te.size:=by
        rw[C5 (sz:=te.zero.length) (fun x hx=>by rw[(List.mem_replicate.1 hx).2])]at hlen0
        simp only [List.length_replicate]at hlen0
        omega
       have hmap:(parts.map fun(i,x)=>(i,a.eval x)).toList=parts.toList.map fun p=>(p.1,a.eval p.2):=by simp
       obtain⟨vs,f1,f2,f3⟩:=A8n (w:=w) _ (r.1.map fun p=>(p.1,p.2.1)) (parts.toList.map fun p=>(p.1,a.eval p.2)) _ cells _ hrep (by simp [g2]) (fun j p q hp hq=>by
        simp only [List.getElem?_map,Option.map_eq_some_iff]at hp hq
        obtain⟨p',hp',rfl⟩:=hp
        obtain⟨q',hq',rfl⟩:=hq
        exact g3' j p' q' hp' hq') hcells
       have hb:=R9 w (.cells vs e)
       have hu:=und hT ht w
       rw[hdesc]at hu
       have hrunS:(Instr.buildSlice t len (parts.map fun(i,x)=>(i,a.eval x))).run P w=.ok (.slice (some ⟨w.heap.size,0,none⟩) len len) (w.alloc (.cells vs e)):=by
        have hn:¬ len*te.size > 2 ^ 24:=by omega
        have hfill:Instr.fill (fun i=>some (i*te.size,te.size)) ((Array.range (len*te.size)).map (z.cells[· % z.cells.size]!)) (parts.toList.map fun p=>(p.1,a.eval p.2))=some vs:=by
         rw[← hlz];exact f1
        by_cases h0:len*te.size=0
        ·have hempty:(Array.range (len*te.size)).map (fun x=>(#[]:Array Value)[x % (#[]:Array Value).size]!)=(Array.range (len*te.size)).map (z.cells[· % z.cells.size]!):=by rw[h0];apply Array.ext <;> simp
         simp only [Instr.buildSlice,Sem.run_bind,hu,Result.andThen_ok,Ac9 hT hte,Sem.run_ite,if_neg hn,if_pos h0,Sem.run_pure,hempty,hmap,hfill]
         simp [newRow,newObj,Sem.run]
        ·simp only [Instr.buildSlice,Sem.run_bind,hu,Result.andThen_ok,Ac9 hT hte,Sem.run_ite,if_neg hn,if_neg h0,zeroValue,typeInfo,i1,i4,Sem.run_pure,hmap,program,Sem.run,hfill]
         simp [newRow,newObj,Sem.run]
       have hml:len≤maxLen:=by
        have:len≤len*te.size:=Nat.le_mul_of_pos_right _ hc2
        unfold maxLen;omega
       have hn':∀ C,look (R6 σ.hp (r.1.flatMap fun p=>p.2.2)) d=some C→C.ver < ver:=by
        intro C hC
        rcases N4 (r.1.flatMap fun p=>p.2.2) σ.hp d with⟨p,hp',e1,e2⟩ | ⟨_,e2⟩
        ·obtain⟨_,B,hB,hv⟩:=g1 p hp'
         rw[e2]at hC
         simp only [Option.some.injEq]at hC
         rw[e1]at hB
         rw[← hC,← hv]
         exact hver B hB
        ·rw[e2]at hC;exact hver C hC
       have hrel:BlkRel E.w0.heap.size (look (R6 σ.hp (r.1.flatMap fun p=>p.2.2))) pl (SS E (look (R6 σ.hp (r.1.flatMap fun p=>p.2.2))) pl w) (w.alloc (.cells vs e)) (.slice (some ⟨w.heap.size,0,none⟩) len len) ⟨ver,e,.row te.size (Q2 te.size len cells)⟩:=by
        refine⟨A7g _ _ _ hc3,vs.toList,?_,f2.2.1,fun j b u hb' hu'=>?_⟩
        ·rw[A7f]
         exact World.ownsRow_lit w vs len h.below.size hml (by rw[f2.1,hc3])
        ·rw[A4u _ _ _ hc3]at hb'
         exact(f2.2.2 j b u hb' (by simpa using hu')).mono (fun _ hk=>hk) (fun k hk=>hb.block k (hk.lt h.below))
       have hnew:=(h'.new hb d ⟨ver,e,.row te.size (Q2 te.size len cells)⟩ (.slice (some ⟨w.heap.size,0,none⟩) len len) hn' (fun k hk=>by simp [blkOf]at hk;subst hk;simp) hrel).1
       refine .value (by simp only [execOp,ho,Sem.run_bind,hrunS];rfl) ⟨D8 pl d (.slice (some ⟨w.heap.size,0,none⟩) len len),?_⟩
       have:=hnew.put o.dst hd (av:=.own d ver) (v:=.slice (some ⟨w.heap.size,0,none⟩) len len) (.own d ver _ ⟨ver,e,.row te.size (Q2 te.size len cells)⟩ (by simp [C8]) (Nat.le_refl _) rfl (fun _ _=>by simp [D8]))
       unfold St.app
       simp only [List.foldl_append]
       exact this
     ·simp [Pg.run]at hrun
   ·simp [Pg.run]at hrun
  ·simp [Pg.run]at hrun
 ·simp [Pg.run]at hrun
end
end Go.E
namespace Go.E
open Go.RowKit
section
variable {P : Program} {E : Env} {T : Tab} {ov : Ov} {o : Oper} {σ : St} {pl : Nat → Value} {a : Act} {w : World} {eff : Eff} {log : List Nat}
theorem A15{w w':World}(h:w.grownBy w' none):Below w.heap.size w w':=⟨h.os,h.tape,h.output,h.size,fun k hk=>h.block k hk (by simp)⟩
theorem Ad6(hT:TabOk P T)(h:RelX E σ pl a w)(hd:∀ q,o.dst=some q→q < E.nt)(t:TypeId)(x y:Operand)(ho:o.op=.makeSlice t x y)
  (hrun:(C4 P T ov o σ.ev).run (look σ.hp) []=some (eff,log)) (hobl:All eff.obl):Ok P E o a w (σ.app o.dst eff):=by
 simp only [C4,ho]at hrun
 split at hrun
 ·rename_i d ti k1 n k2 m hdst ht hx hy
  have ex:=E3 (h.ev hx) rfl
  have ey:=E3 (h.ev hy) rfl
  split at hrun
  ·rename_i e hdesc
   split at hrun
   ·rename_i te hte
    have hu:=(hT t ti ht).1
    rw[hdesc]at hu
    obtain⟨i,z,i1,i2,i3,i4,i5⟩:=inf hT hte
    have hz:=A0f i5 (SS E (look σ.hp) pl w) w
    split at hrun
    ·obtain⟨ver,hver,he⟩:=Q3 hrun
     simp only at he
     subst he
     obtain⟨rfl,rfl,o3,o4⟩:n=0∧m=(ov.n:Int)∧te.bytes*ov.n≤281474976710656∧ov.n≤maxLen:=hobl
     obtain⟨w',hr,hown,hg⟩:=run_make_own (P:=P) w E.w0.heap.size t e i z te.size hu i1 i4 i2 k1 k2 ov.n (by rw[i3];exact o3) o4 h.below.size
     have hb:=A15 hg
     have hlt:w.heap.size < w'.heap.size:=by
      rcases hown.2 with⟨e0,_⟩ | ⟨g,cap,cur,e0,_,hh,_⟩
      ·simp at e0
      ·simp only [Value.slice.injEq,Option.some.injEq,Addr.mk.injEq]at e0
       rw[← e0.1.1]at hh
       exact(Array.getElem?_eq_some_iff.1 hh).1
     refine .new h hd hdst (by simp only [execOp,ho,ex,ey,Sem.run_bind,hr];rfl) hb hver (fun k hk=>by simp [blkOf]at hk;subst hk;exact⟨Nat.le_refl _,hlt⟩) ⟨fun r hr=>absurd hr (by simp),[],hown,fun u hu=>absurd hu (by simp),fun j b u hb=>by simp at hb⟩
      (.own d ver _ ⟨ver,e,.row te.size []⟩ (by simp [C8]) (Nat.le_refl _) rfl (fun _ _=>by simp [D8]))
    ·obtain⟨ver,hver,he⟩:=Q3 hrun
     simp only at he
     subst he
     have o1:n=(ov.n:Int):=All.mem hobl _ (by simp)
     have o2:m=(ov.n:Int):=All.mem hobl _ (by simp)
     have o3:te.bytes*ov.n≤281474976710656:=All.mem hobl _ (by simp)
     have o4:ov.n≤maxLen:=All.mem hobl _ (by simp)
     have o5:(Ac3 ov te.zero).length=te.size:=All.mem hobl _ (by simp)
     have o6:ZLe te.zero (Ac3 ov te.zero):=All.mem hobl _ (by simp)
     have o7:=J4 (ov:=ov) (d:=List.replicate ov.n (Ac3 ov te.zero)) (fun p hp=>All.mem hobl p (List.mem_append_right _ hp))
     clear hobl
     subst o1
     subst o2
     rw[o7]
     obtain⟨w',hr,hown,hg⟩:=run_make_full (P:=P) w E.w0.heap.size t e i z te.size hu i1 i4 i2 k1 k2 ov.n (by rw[i3];exact o3) o4 h.below.size
     have hb:=A15 hg
     have hlt:w.heap.size < w'.heap.size:=by
      rcases hown.2 with⟨e0,_⟩ | ⟨g,cap,cur,e0,_,hh,_⟩
      ·simp at e0
      ·simp only [Value.slice.injEq,Option.some.injEq,Addr.mk.injEq]at e0
       rw[← e0.1.1]at hh
       exact(Array.getElem?_eq_some_iff.1 hh).1
     have hz':A4t (SS E (look σ.hp) pl w) w (Ac3 ov te.zero) z.cells:=⟨by rw[hz.1,o6.1],hz.2.1,fun j b u hb hu=>by
      have hj:j < te.zero.length:=by
       have:=lt_of_getElem? hb
       rw[o6.1];exact this
      exact o6.2 j _ b (List.getElem?_eq_getElem hj) hb _ _ _ (hz.2.2 j _ u (List.getElem?_eq_getElem hj) hu)⟩
     have hrep:=Am2 (ti:={ te with zero:=Ac3 ov te.zero }) hz' ov.n
     simp only at hrep
     rw[o5]at hrep
     refine .new (u:=.slice (some ⟨w.heap.size,0,none⟩) ov.n ov.n) h hd hdst (by simp only [execOp,ho,ex,ey,Sem.run_bind,hr];rfl) hb hver (fun k hk=>by simp [blkOf]at hk;subst hk;exact⟨Nat.le_refl _,hlt⟩)
      ⟨fun r hr=>by rw[(List.mem_replicate.1 hr).2];exact o5,_,by rw[List.length_replicate];exact hown,hrep.2.1,fun j b u hb' hu'=>(hrep.2.2 j b u hb' (by simpa using hu')).mono (fun _ hk=>hk) (fun k hk=>hb.block k (hk.lt h.below))⟩
      (.own d ver _ ⟨ver,e,.row te.size (List.replicate ov.n (Ac3 ov te.zero))⟩ (by simp [C8]) (Nat.le_refl _) rfl (fun _ _=>by simp [D8]))
   ·simp [Pg.run]at hrun
  ·simp [Pg.run]at hrun
 ·simp [Pg.run]at hrun
def Am3(S:Nat→Prop)(w:World)(rows:List (List AV))(v:Value):Prop :=
 ∃(A:Option Addr) (cap sz:Nat) (u:Nat→Nat→Value),v=.slice A rows.length cap∧rows.length≤maxLen∧(A=none→cap=0∧rows.length=0)∧(∀ r∈rows,r.length=sz) ∧
  (0 < rows.length→∃ ad,A=some ad∧∀(j q:Nat),j < rows.length→q < sz→w.cell? (ad.add (j*sz+q))=some (u j q))∧(∀ j q,(u j q).oneCell'=true) ∧
  ∀(j q:Nat) (r:List AV) (b:AV),rows[j]?=some r→r[q]?=some b→RelV0 S w b (u j q)
theorem As4{S:Nat→Prop}{rows:List (List AV)}{v:Value}(h:RelV0 S w (.sl rows) v):Am3 S w rows v:=by
 cases h with
 | sl _ A cap sz u hc hm hn hsz hA h1 hh =>
  exact⟨A,cap,sz,u,rfl,hm,fun e=>⟨hn e,by have:=hn e;omega⟩,hsz,fun h0=>by obtain⟨ad,e,_,hcell⟩:=hA h0;exact⟨ad,e,hcell⟩,h1,hh⟩
theorem Am3.flat{S:Nat→Prop}{rows:List (List AV)}{v:Value}{sz:Nat}(h:Am3 S w rows v)(hs:∀ r∈rows,r.length=sz) :
  (v=.slice none 0 0∧rows=[])∨∃(ad:Addr) (cap:Nat) (xs:List Value),v=.slice (some ad) rows.length cap∧xs.length=rows.length*sz∧(∀(j:Nat) (u:Value),xs[j]?=some u→w.cell? (ad.add j)=some u)∧(∀ u∈xs,u.oneCell'=true) ∧
   ∀(j:Nat) (b:AV) (u:Value),rows.flatten[j]?=some b→xs[j]?=some u→RelV0 S w b u:=by
 obtain⟨A,cap,sz',u,rfl,hm,hn,hsz,hA,h1,hh⟩:=h
 cases A with
 | none =>
  obtain⟨e1,e2⟩:=hn rfl
  have:rows=[]:=List.eq_nil_of_length_eq_zero e2
  subst this
  subst e1
  exact .inl ⟨rfl,rfl⟩
 | some ad =>
  refine .inr ⟨ad,cap,(List.range (rows.length*sz)).map fun j=>u (j / sz) (j % sz),rfl,by simp,fun j v hv=>?_,fun v hv=>?_,fun j b v hb hv=>?_⟩
  ·have hj:=lt_of_getElem? hv
   simp only [List.length_map,List.length_range]at hj
   simp only [List.getElem?_map,List.getElem?_range hj,Option.map_some,Option.some.injEq]at hv
   subst hv
   have hs0:0 < sz:=by
    rcases Nat.eq_zero_or_pos sz with e | e
    ·rw[e]at hj;omega
    ·exact e
   have hj1:j / sz < rows.length:=by rw[Nat.div_lt_iff_lt_mul hs0];exact hj
   have hl:0 < rows.length:=Nat.lt_of_le_of_lt (Nat.zero_le _) hj1
   obtain⟨ad',e,hc⟩:=hA hl
   simp only [Option.some.injEq]at e
   subst e
   have hse:sz'=sz:=by
    have hm:=List.getElem_mem hl
    rw[← hsz _ hm,hs _ hm]
   subst hse
   have:=hc (j / sz') (j % sz') hj1 (Nat.mod_lt _ hs0)
   rwa [show j / sz'*sz'+j % sz'=j from by rw[Nat.mul_comm,Nat.div_add_mod]]at this
  ·obtain⟨j,_,rfl⟩:=List.mem_map.1 hv
   exact h1 _ _
  ·have hj:=lt_of_getElem? hv
   simp only [List.length_map,List.length_range]at hj
   simp only [List.getElem?_map,List.getElem?_range hj,Option.map_some,Option.some.injEq]at hv
   subst hv
   have hs0:0 < sz:=by
    rcases Nat.eq_zero_or_pos sz with e | e
    ·rw[e]at hj;omega
    ·exact e
   have hj1:j / sz < rows.length:=by rw[Nat.div_lt_iff_lt_mul hs0];exact hj
   have hr:rows[j / sz]?=some rows[j / sz]:=List.getElem?_eq_getElem hj1
   have hg:=F5 hs hr (Nat.mod_lt j hs0)
   rw[show j / sz*sz+j % sz=j from by rw[Nat.mul_comm,Nat.div_add_mod],hb]at hg
   exact hh _ _ _ b hr hg.symm
theorem A02(h:RelX E σ pl a w){av:AV}{v:Value}(hv:RelV (look σ.hp) pl (SS E (look σ.hp) pl w) w av v){k:List (List AV)→Pg Eff}{l:List Nat}{r:Eff×List Nat}(hrun:(A14 av k).run (look σ.hp) l=some r) :
  ∃ rows l',(k rows).run (look σ.hp) l'=some r∧Am3 (SS E (look σ.hp) pl w) w rows v:=by
 unfold A14 at hrun
 split at hrun
 ·rename_i rows
  exact⟨rows,l,hrun,As4 (Am1 hv)⟩
 ·refine⟨[],l,hrun,?_⟩
  have:RelV0 (SS E (look σ.hp) pl w) w .nl v:=L7 hv rfl
  cases this
  exact⟨none,0,0,fun _ _=>.nilIface,rfl,Nat.zero_le _,fun _=>⟨rfl,rfl⟩,fun r hr=>absurd hr (by simp),fun h0=>absurd h0 (by simp),fun _ _=>rfl,fun j q r b hr=>by simp at hr⟩
 ·rename_i id ver
  replace hrun:=D4 hrun
  obtain⟨B,hB,hver,hl,hrun⟩:=hrun
  split at hrun
  ·rename_i sz rows hk
   have he:=F2 hv hB hver hl
   refine⟨rows,_,hrun,?_⟩
   obtain⟨hsz,xs,hown,h1,hh⟩:=h.rowCell hB hk
   have hl1:=hown.1
   rw[he]
   rcases hown.2 with⟨e0,h0⟩ | ⟨g,cap,cur,e0,hg,hheap,hnc,hcm,hcs,hcur⟩
   ·have:rows=[]:=List.eq_nil_of_length_eq_zero h0
    subst this
    rw[e0]
    exact⟨none,0,0,fun _ _=>.nilIface,rfl,Nat.zero_le _,fun _=>⟨rfl,rfl⟩,fun r hr=>absurd hr (by simp),fun h0=>absurd h0 (by simp),fun _ _=>rfl,fun j q r b hr=>by simp at hr⟩
   ·refine⟨some ⟨g,0,none⟩,cap,sz,fun j q=>(xs[j*sz+q]?).getD .nilIface,e0,by omega,(fun e=>by cases e),hsz,fun h0=>⟨_,rfl,fun j q hj hq=>?_⟩,fun j q=>?_,fun j q r b hr hb=>?_⟩
    ·have hlt:j*sz+q < rows.length*sz:=by
      have:(j+1)*sz≤rows.length*sz:=Nat.mul_le_mul_right _ hj
      rw[Nat.add_mul]at this
      omega
     rw[e0]at hown
     have hc:=World.ownsRow.cellAt hown (j*sz+q) hlt
     have hx:j*sz+q < xs.length:=by omega
     rw[G2,Nat.zero_add,hc]
     simp only [List.getElem?_eq_getElem hx,Option.getD_some]
    ·show((xs[j*sz+q]?).getD .nilIface).oneCell'=true
     cases hx:xs[j*sz+q]? with
     | none=>rfl
     | some u=>exact h1 u (List.mem_of_getElem? hx)
    ·have hq:q < sz:=by
      have:=hsz r (List.mem_of_getElem? hr)
      have:=lt_of_getElem? hb
      omega
     have hf:=F5 hsz hr hq
     rw[hb]at hf
     have hlt:j*sz+q < xs.length:=by
      have:=lt_of_getElem? hf
      rw[C5 hsz]at this
      omega
     simp only [List.getElem?_eq_getElem hlt,Option.getD_some]
     exact hh _ b _ hf (List.getElem?_eq_getElem hlt)
  ·simp [Pg.run]at hrun
 ·rename_i id ver lo n
  replace hrun:=D4 hrun
  obtain⟨B,hB,hver,hl,hrun⟩:=hrun
  obtain⟨g,cap,hg,hnc,hnm,hlen,he⟩:=A8l hv hB hver hl
  split at hrun
  ·rename_i sz rows hk
   refine⟨_,_,hrun,?_⟩
   have hlen:lo+n≤rows.length:=by simpa [Blk.len,hk]using hlen
   have hll:((rows.drop lo).take n).length=n:=by simp;omega
   obtain⟨hsz,xs,hown,h1,hh⟩:=h.rowCell hB hk
   have hl1:=hown.1
   rcases hown.2 with⟨e0,h0⟩ | ⟨g',cap',cur,e0,hgb,hheap,hnc',hcm,hcs,hcur⟩
   ·rw[e0]at hg;simp [blkOf]at hg
   ·have hgg:g'=g:=by rw[e0]at hg;simpa [blkOf]using hg
    subst hgg
    have hoff:B.off lo 0=lo*sz:=by simp [Blk.off,hk]
    refine⟨some ⟨g',lo*sz,none⟩,cap,sz,fun j q=>(xs[(lo+j)*sz+q]?).getD .nilIface,by rw[hll,he,hoff],by omega,(fun e=>by cases e),fun r hr=>hsz r (List.mem_of_mem_drop (List.mem_of_mem_take hr)),fun h0=>⟨_,rfl,fun j q hj hq=>?_⟩,fun j q=>?_,fun j q r b hr hb=>?_⟩
    ·rw[hll]at hj
     have hlt:(lo+j)*sz+q < rows.length*sz:=by
      have:(lo+j+1)*sz≤rows.length*sz:=Nat.mul_le_mul_right _ (by omega)
      rw[Nat.add_mul _ 1]at this
      omega
     rw[e0]at hown
     have hc:=World.ownsRow.cellAt hown ((lo+j)*sz+q) hlt
     rw[G2,show lo*sz+(j*sz+q)=(lo+j)*sz+q from by rw[Nat.add_mul,Nat.add_assoc],hc]
     have hx:(lo+j)*sz+q < xs.length:=by omega
     simp only [List.getElem?_eq_getElem hx,Option.getD_some]
    ·show((xs[(lo+j)*sz+q]?).getD .nilIface).oneCell'=true
     cases hx:xs[(lo+j)*sz+q]? with
     | none=>rfl
     | some u=>exact h1 u (List.mem_of_getElem? hx)
    ·rw[List.getElem?_take]at hr
     split at hr
     ·rw[List.getElem?_drop]at hr
      have hq:q < sz:=by
       have:=hsz r (List.mem_of_getElem? hr)
       have:=lt_of_getElem? hb
       omega
      have hf:=F5 hsz hr hq
      rw[hb]at hf
      have hlt:(lo+j)*sz+q < xs.length:=by
       have:=lt_of_getElem? hf
       rw[C5 hsz]at this
       omega
      simp only [List.getElem?_eq_getElem hlt,Option.getD_some]
      exact hh _ b _ hf (List.getElem?_eq_getElem hlt)
     ·cases hr
  ·rename_i cells hk
   refine⟨_,_,hrun,?_⟩
   have hlen:lo+n≤cells.length:=by simpa [Blk.len,hk]using hlen
   have hll:(((cells.drop lo).take n).map fun c=>[c]).length=n:=by simp;omega
   obtain⟨g',vs,hp1,hp2,hp3,hp4,hp5⟩:=h.arrCell hB hk
   have hgg:g'=g:=by rw[hp1]at hg;simpa [blkOf]using hg
   subst hgg
   have hoff:B.off lo 0=lo:=by simp [Blk.off,hk]
   refine⟨some ⟨g',lo,none⟩,cap,1,fun j q=>(vs[lo+j]?).getD .nilIface,by rw[hll,he,hoff],by omega,(fun e=>by cases e),fun r hr=>?_,fun h0=>⟨_,rfl,fun j q hj hq=>?_⟩,fun j q=>?_,fun j q r b hr hb=>?_⟩
   ·obtain⟨c,_,rfl⟩:=List.mem_map.1 hr
    rfl
   ·rw[hll]at hj
    have:q=0:=by omega
    subst this
    rw[G2,T4 w g' _ vs _ _ hp2,Nat.mul_one,Nat.add_zero]
    have hx:lo+j < vs.size:=by omega
    simp only [Array.getElem?_eq_getElem hx,Option.getD_some]
   ·show((vs[lo+j]?).getD .nilIface).oneCell'=true
    cases hx:vs[lo+j]? with
    | none=>rfl
    | some u=>exact hp4 u (List.mem_of_getElem? (by simpa using hx))
   ·simp only [List.getElem?_map,Option.map_eq_some_iff]at hr
    obtain⟨c,hc,rfl⟩:=hr
    rw[List.getElem?_take]at hc
    split at hc
    ·rw[List.getElem?_drop]at hc
     cases q with
     | zero =>
      simp at hb
      subst hb
      have hlt:=lt_of_getElem? hc
      have hv:vs[lo+j]?=some (vs[lo+j]'(by omega)):=Array.getElem?_eq_getElem (by omega)
      show RelV0 _ w c ((vs[lo+j]?).getD .nilIface)
      rw[hv]
      exact hp5 _ c _ hc hv
     | succ q=>simp at hb
    ·cases hc
  ·simp [Pg.run]at hrun
 ·simp [Pg.run]at hrun
end
end Go.E
namespace Go.E
open Go.RowKit
section
variable {P : Program} {E : Env} {T : Tab} {ov : Ov} {o : Oper} {σ : St} {pl : Nat → Value} {a : Act} {w : World} {eff : Eff} {log : List Nat}
theorem K4{b:Builtin}{args:Array Operand}{ts:Array TypeId}(ho:o.op=.call { callee:=.builtin b,args:=args,argTypes:=ts }) :
  ∃ cs,(execOp a.eval o).run P w=(builtin b ts o.type cs (args.map a.eval)).run P w:=by
 refine⟨args.map fun | .const _=>true | _=>false,?_⟩
 simp only [execOp,ho,resolve,Sem.run_bind,Sem.run_pure,Result.andThen_ok,invoke]
 rfl
theorem A1w{α β:Type}{f:α→Option β}{l:List α}{b:β}(h:l.mapM f=some [b]):∃ a,l=[a]∧f a=some b:=by
 obtain⟨h1,h2⟩:=P1 h
 match l,h1 with
 | [a],_=>exact⟨a,rfl,h2 0 a b rfl rfl⟩
theorem As5{α β:Type}{f:α→Option β}{l:List α}{b c:β}(h:l.mapM f=some [b,c]):∃ x y,l=[x,y]∧f x=some b∧f y=some c:=by
 obtain⟨h1,h2⟩:=P1 h
 match l,h1 with
 | [x,y],_=>exact⟨x,y,rfl,h2 0 x b rfl rfl,h2 1 y c rfl rfl⟩
theorem H6{α:Type}{xs:Array α}{l:List α}(h:xs.toList=l):xs=l.toArray:=by rw[← h,Array.toArray_toList]
theorem ok_len(hT:TabOk P T)(h:RelX E σ pl a w)(hd:∀ q,o.dst=some q→q < E.nt)(args:Array Operand)(ts:Array TypeId)(ho:o.op=.call { callee:=.builtin .len,args:=args,argTypes:=ts })
  (hrun:(C4 P T ov o σ.ev).run (look σ.hp) []=some (eff,log)):Ok P E o a w (σ.app o.dst eff):=by
 simp only [C4,ho]at hrun
 split at hrun
 ·rename_i av ti h1 h2
  obtain⟨x,e1,hx⟩:=A1w h1
  obtain⟨t,e2,ht⟩:=A1w h2
  have e1:=H6 e1
  have e2:=H6 e2
  subst e1
  subst e2
  obtain⟨cs,hr⟩:=K4 (P:=P) (a:=a) (w:=w) ho
  have u:=und hT ht w
  have hrx:=h.ev hx
  split at hrun
  ·rename_i hdesc
   rw[hdesc]at u
   split at hrun
   ·rename_i z
    simp only [lenE,Q1,Pg.run,Option.some.injEq,Prod.mk.injEq]at hrun
    obtain⟨rfl,_⟩:=hrun
    have e:=E3 hrx rfl
    refine .pure h hd (v:=.int .i64 z.size) ?_ (.pure _ _ (.i _ _))
    rw[hr]
    simp [builtin,Builtin.len_,u,e,goInt]
   ·simp [Pg.run]at hrun
  ·rename_i e hdesc
   rw[hdesc]at u
   split at hrun
   ·simp [Pg.run]at hrun
   ·rename_i hne
    have:lenE av=A14 av fun rows=>Q1 (.i .i64 rows.length):=by
     cases av <;> first | rfl | exact absurd rfl (hne _)
    rw[this]at hrun
    obtain⟨rows,l',hk,hs⟩:=A02 h hrx hrun
    simp only [Q1,Pg.run,Option.some.injEq,Prod.mk.injEq]at hk
    obtain⟨rfl,_⟩:=hk
    obtain⟨A,cap,sz,us,hv,_⟩:=hs
    refine .pure h hd (v:=.int .i64 rows.length) ?_ (.pure _ _ (.i _ _))
    rw[hr]
    simp [builtin,Builtin.len_,u,hv,goInt]
  ·rename_i n e hdesc
   rw[hdesc]at u
   simp only [Q1,Pg.run,Option.some.injEq,Prod.mk.injEq]at hrun
   obtain⟨rfl,_⟩:=hrun
   refine .pure h hd (v:=.int .i64 n) ?_ (.pure _ _ (.i _ _))
   rw[hr]
   simp [builtin,Builtin.len_,u,goInt]
  ·rename_i kt et hdesc
   rw[hdesc]at u
   split at hrun
   ·rename_i id ver
    replace hrun:=D4 hrun
    obtain⟨B,hB,hv,hl,hrun⟩:=hrun
    split at hrun
    ·rename_i rows hk
     simp only [Q1,Pg.run,Option.some.injEq,Prod.mk.injEq]at hrun
     obtain⟨rfl,_⟩:=hrun
     have he:=F2 hrx hB hv hl
     have hb:=h.blks id B hB
     unfold BlkRel at hb
     rw[hk]at hb
     obtain⟨g,es,e1,_,e2,e3,_⟩:=hb
     rw[e1]at he
     refine .pure h hd (v:=.int .i64 rows.length) ?_ (.pure _ _ (.i _ _))
     rw[hr]
     simp [builtin,Builtin.len_,u,he,getObj,Sem.run,e2,e3,goInt]
    ·simp [Pg.run]at hrun
   ·simp [Pg.run]at hrun
  ·simp [Pg.run]at hrun
 ·simp [Pg.run]at hrun
theorem ok_cap(hT:TabOk P T)(h:RelX E σ pl a w)(hd:∀ q,o.dst=some q→q < E.nt)(args:Array Operand)(ts:Array TypeId)(ho:o.op=.call { callee:=.builtin .cap,args:=args,argTypes:=ts })
  (hrun:(C4 P T ov o σ.ev).run (look σ.hp) []=some (eff,log)):Ok P E o a w (σ.app o.dst eff):=by
 simp only [C4,ho]at hrun
 split at hrun
 ·rename_i ti h1 h2
  obtain⟨x,e1,hx⟩:=A1w h1
  obtain⟨t,e2,ht⟩:=A1w h2
  have e1:=H6 e1
  have e2:=H6 e2
  subst e1
  subst e2
  obtain⟨cs,hr⟩:=K4 (P:=P) (a:=a) (w:=w) ho
  have u:=und hT ht w
  have hrx:=h.ev hx
  split at hrun
  ·rename_i e hdesc
   rw[hdesc]at u
   simp only [Q1,Pg.run,Option.some.injEq,Prod.mk.injEq]at hrun
   obtain⟨rfl,_⟩:=hrun
   have e0:a.eval x=.slice none 0 0:=A3b hrx
   refine .pure h hd (v:=.int .i64 0) ?_ (.pure _ _ (.i _ _))
   rw[hr]
   simp [builtin,Builtin.cap_,u,e0,goInt]
  ·simp [Pg.run]at hrun
 ·simp [Pg.run]at hrun
theorem As6(h:RelX E σ pl a w){args:Array Operand}{vs:List Value}(hv:(args.toList.mapM σ.ev).bind (·.mapM toV)=some vs):args.map a.eval=vs.toArray:=by
 cases h1:args.toList.mapM σ.ev with
 | none=>rw[h1]at hv;cases hv
 | some l =>
  rw[h1]at hv
  simp only [Option.bind_some]at hv
  obtain⟨n1,g1⟩:=P1 h1
  obtain⟨n2,g2⟩:=P1 hv
  have:(args.map a.eval).toList=vs:=by
   apply List.ext_getElem?
   intro j
   simp only [Array.toList_map,List.getElem?_map]
   cases hj:args.toList[j]? with
   | none =>
    rw[List.getElem?_eq_none_iff]at hj
    rw[Option.map_none,List.getElem?_eq_none (by omega)]
   | some x =>
    have hlt:=lt_of_getElem? hj
    have hl:l[j]?=some l[j]:=List.getElem?_eq_getElem (by omega)
    have hq:vs[j]?=some vs[j]:=List.getElem?_eq_getElem (by omega)
    rw[hq,Option.map_some,E3 (h.ev (g1 j x _ hj hl)) (g2 j _ _ hl hq)]
  exact H6 this
theorem ok_min(h:RelX E σ pl a w)(hd:∀ q,o.dst=some q→q < E.nt)(args:Array Operand)(ts:Array TypeId)(ho:o.op=.call { callee:=.builtin .min,args:=args,argTypes:=ts })
  (hrun:(C4 P T ov o σ.ev).run (look σ.hp) []=some (eff,log)):Ok P E o a w (σ.app o.dst eff):=by
 simp only [C4,ho]at hrun
 split at hrun
 ·rename_i vs hvs
  split at hrun
  ·rename_i v hv
   obtain⟨av,hav,rfl⟩:=P2 hrun
   refine .pure h hd (v:=v) ?_ (.pure _ _ (A8i hav))
   obtain⟨cs,hr⟩:=K4 (P:=P) (a:=a) (w:=w) ho
   rw[hr,As6 h hvs]
   simp [builtin,W7 hv]
  ·simp [Pg.run]at hrun
 ·simp [Pg.run]at hrun
theorem ok_max(h:RelX E σ pl a w)(hd:∀ q,o.dst=some q→q < E.nt)(args:Array Operand)(ts:Array TypeId)(ho:o.op=.call { callee:=.builtin .max,args:=args,argTypes:=ts })
  (hrun:(C4 P T ov o σ.ev).run (look σ.hp) []=some (eff,log)):Ok P E o a w (σ.app o.dst eff):=by
 simp only [C4,ho]at hrun
 split at hrun
 ·rename_i vs hvs
  split at hrun
  ·rename_i v hv
   obtain⟨av,hav,rfl⟩:=P2 hrun
   refine .pure h hd (v:=v) ?_ (.pure _ _ (A8i hav))
   obtain⟨cs,hr⟩:=K4 (P:=P) (a:=a) (w:=w) ho
   rw[hr,As6 h hvs]
   simp [builtin,W7 hv]
  ·simp [Pg.run]at hrun
 ·simp [Pg.run]at hrun
theorem B1z{t e:TypeId}{i:TypeInfo}{z:Value}{size bytes base:Nat}(ht:P.underlying t=some (.slice e))(hi:P.info? e=some i)(hz:i.zero=some z)
  (hsize:i.size=size) (hby:i.bytes=bytes) (hzs:z.cells.size=size) (hsz:0 < size) (ty:TypeId) {v:Value} {n:Nat} {xs:List Value} (hown:w.ownsRow base e size v n xs)
  {ad:Addr} {m c:Nat} {news:List Value} (hl:news.length=m*size) (hnews:∀ j u,news[j]?=some u→w.cell? (ad.add j)=some u) (h1:∀ u∈news,u.oneCell'=true)
  (h63:n+m≤maxLen) (hbytes:(n+m)*bytes≤140737488355328) (hbase:base≤w.heap.size) :
  ∃ v' w',(Builtin.append_ #[t,t] ty #[v,.slice (some ad) m c]).run P w=.ok v' w'∧w'.ownsRow base e size v' (n+m) (xs++news)∧w.grownBy w' (blkOf v) ∧
   (blkOf v'=blkOf v∨(blkOf v'=some w.heap.size∧w.heap.size < w'.heap.size)):=by
 obtain⟨v',w',hr,ho,hg,_⟩:=run_append_own (P:=P) w base t ty e i z size bytes ht hi hz hsize hby hzs hsz v n xs hown ad m c news hl hnews h1 h63 hbytes hbase
 have hob:v.ownBlock=blkOf v:=by
  rcases hown.2 with⟨e0,_⟩ | ⟨g,cap,cur,e0,_⟩ <;> rw[e0] <;> rfl
 rw[hob]at hg
 refine⟨v',w',hr,ho,hg,?_⟩
 subst hsize
 subst hby
 have hsmall:n+m≤9223372036854775807:=by unfold maxLen at h63;omega
 rcases hown.2 with⟨rfl,rfl⟩ | ⟨g,cap,cur,rfl,hbg,hgc,hnc,hcm,hcs,htake⟩
 ·by_cases hm:m=0
  ·subst hm
   have hn:news=[]:=List.eq_nil_of_length_eq_zero (by simpa using hl)
   subst hn
   have hr2:(Builtin.append_ #[t,t] ty #[.slice none 0 0,.slice (some ad) 0 c]).run P w=.ok (.slice none 0 0) w:=by
    simp [Builtin.append_,run_underlying ht,sizeOf,typeInfo,hi,Builtin.lenOf,Builtin.firstCells,loadCells,loadCellsFrom]
   rw[hr]at hr2
   injection hr2 with e1 e2
   rw[e1]
   exact .inl rfl
  ·have hr2:=run_append_nil (P:=P) w t ty e i z ht hi hz ad m c news hl hnews (by omega) (by omega) (by have hb:=hbytes;simp only [Nat.zero_add]at hb;omega)
   rw[hr]at hr2
   injection hr2 with e1 e2
   rw[e1,e2]
   exact .inr ⟨rfl,by simp⟩
 ·by_cases hroom:n+m≤cap
  ·have hfit:n*i.size+news.length≤cur.size:=by rw[hl,hcs,← Nat.add_mul];exact Nat.mul_le_mul_right _ hroom
   have hr2:=run_append_room (P:=P) w t ty e i ht hi g n cap cur hgc ad m c news hl hnews h1 hroom hfit
   rw[hr]at hr2
   injection hr2 with e1 e2
   rw[e1]
   exact .inl rfl
  ·have holds:∀ j u,xs[j]?=some u→w.cell? ((⟨g,0,none⟩:Addr).add j)=some u:=hown.cells (g:=g) rfl
   have hr2:=run_append_grow (P:=P) w t ty e i z ht hi hz ⟨g,0,none⟩ n cap xs hown.1 holds ad m c news hl hnews (by omega) (by omega) (growslice_fits (by omega) hbytes)
   rw[hr]at hr2
   injection hr2 with e1 e2
   rw[e1,e2]
   exact .inr ⟨rfl,by simp⟩
theorem Ok.append{id e sz:Nat}{rows rows2 rs:List (List AV)}{bytes:Nat}{t:TypeId}{i:TypeInfo}{z:Value}{v x:Value}{obl:List Prop}{ver':Nat}
  (h:RelX E σ pl a w) (hd:∀ q,o.dst=some q→q < E.nt) (ht:P.underlying t=some (.slice e)) (hi:P.info? e=some i) (hz:i.zero=some z) (hsize:i.size=sz) (hby:i.bytes=bytes) (hzs:z.cells.size=sz) (hsz:0 < sz)
  (hro:(execOp a.eval o).run P w=((Builtin.append_ #[t,t] o.type #[v,x]).run P w).andThen fun u w'=>.ok (.value u) w')
  (hrows:∀ r∈rows,r.length=sz) {xs:List Value} (hown:w.ownsRow E.w0.heap.size e sz v rows.length xs) (hx1:∀ u∈xs,u.oneCell'=true)
  (hxr:∀(j:Nat) (b:AV) (u:Value),rows.flatten[j]?=some b→xs[j]?=some u→RelV0 (SS E (look σ.hp) pl w) w b u)
  (hver:∀ C,look σ.hp id=some C→C.ver < ver') (hpl:∀ k,blkOf v=some k→∃ C,look σ.hp id=some C∧C.live=true∧blkOf (pl id)=some k)
  (hrows2:∀ r∈rows2,r.length=sz) (hs:Am3 (SS E (look σ.hp) pl w) w rows2 x) (h63:rows.length+rows2.length≤maxLen) (hbytes:(rows.length+rows2.length)*bytes≤140737488355328) (hrs:rs=rows++rows2) :
  Ok P E o a w (σ.app o.dst { val:=.own id ver',ups:=[(id,⟨ver',e,.row sz rs⟩)],obl:=obl }):=by
 subst hrs
 have main:∀(v':Value) (w':World) (ys:List Value),(Builtin.append_ #[t,t] o.type #[v,x]).run P w=.ok v' w'→w'.ownsRow E.w0.heap.size e sz v' (rows.length+rows2.length) (xs++ys)→w.grownBy w' (blkOf v) →
   (blkOf v'=blkOf v∨(blkOf v'=some w.heap.size∧w.heap.size < w'.heap.size))→(∀ u∈ys,u.oneCell'=true) →
   (∀(j:Nat) (b:AV) (u:Value),rows2.flatten[j]?=some b→ys[j]?=some u→RelV0 (SS E (look σ.hp) pl w) w b u) →
   Ok P E o a w (σ.app o.dst { val:=.own id ver',ups:=[(id,⟨ver',e,.row sz (rows++rows2)⟩)],obl:=obl }):=by
  intro v' w' ys hr ho hg hat hy1 hyr
  have hheap:∀ k,k < w.heap.size→(∀ C,look σ.hp id=some C→C.live=true→blkOf (pl id)≠some k)→w'.heap[k]?=w.heap[k]?:=by
   intro k hk hne
   refine hg.block k hk fun e=>?_
   obtain⟨C,hC,hl,hk'⟩:=hpl k e.symm
   exact hne C hC hl hk'
  have hw:∀ k,SS E (look σ.hp) pl w k→w'.heap[k]?=w.heap[k]?:=by
   intro k hk
   refine hheap k (hk.lt h.below) fun C hC hl=>?_
   rcases hk with hk | ⟨_,_,h3⟩
   ·intro e
    have:=(h.blk_lt hC hl e).1
    have:=E.hS0 k hk
    omega
   ·exact h3 id C hC hl
  have hrel:BlkRel E.w0.heap.size (look σ.hp) pl (SS E (look σ.hp) pl w) w' v' ⟨ver',e,.row sz (rows++rows2)⟩:=by
   refine⟨fun r hr=>?_,xs++ys,by rw[List.length_append];exact ho,fun u hu=>?_,fun j b u hb hu=>?_⟩
   ·rcases List.mem_append.1 hr with hr | hr
    ·exact hrows r hr
    ·exact hrows2 r hr
   ·rcases List.mem_append.1 hu with hu | hu
    ·exact hx1 u hu
    ·exact hy1 u hu
   ·rw[List.flatten_append]at hb
    have hl1:=C5 hrows
    have hl2:xs.length=rows.length*sz:=hown.1
    by_cases hj:j < rows.length*sz
    ·rw[List.getElem?_append_left (by omega)]at hb hu
     exact(hxr j b u hb hu).mono (fun _ hk=>hk) hw
    ·rw[List.getElem?_append_right (by omega)]at hb hu
     rw[hl1]at hb
     rw[hl2]at hu
     exact(hyr _ b u hb hu).mono (fun _ hk=>hk) hw
  have hc:=(h.chg id ⟨ver',e,.row sz (rows++rows2)⟩ v' (.inl hver) hheap hg.os hg.tape hg.output hg.size (fun k hk=>by
   rcases hat with hat | ⟨hat,hlt⟩
   ·rw[hat]at hk
    exact .inr (hpl k hk)
   ·rw[hat]at hk
    simp only [Option.some.injEq]at hk
    subst hk
    exact .inl ⟨Nat.le_refl _,hlt⟩) hrel).1
  have h1:v'.oneCell'=true:=by
   rcases ho.2 with⟨e0,_⟩ | ⟨g,cap,cur,e0,_⟩ <;> rw[e0] <;> rfl
  refine .value (v:=v') (w':=w') (by rw[hro,hr];rfl) ⟨D8 pl id v',hc.put o.dst hd (.own id ver' _ ⟨ver',e,.row sz (rows++rows2)⟩ (by simp [C8]) (Nat.le_refl _) h1 (fun _ _=>by simp [D8]))⟩
 rcases hs.flat hrows2 with⟨rfl,rfl⟩ | ⟨ad,cap,ys,rfl,hl,hcell,hy1,hyr⟩
 ·have hr:=run_append_owned_none (P:=P) (w:=w) E.w0.heap.size t o.type e i sz ht hi v rows.length xs hown
  exact main v w [] hr (by simpa using hown) ⟨rfl,rfl,rfl,Nat.le_refl _,fun _ _ _=>rfl⟩ (.inl rfl) (fun u hu=>absurd hu (by simp)) (fun j b u hb=>by simp at hb)
 ·obtain⟨v',w',hr,ho,hg,hat⟩:=B1z (P:=P) ht hi hz hsize hby hzs hsz o.type hown hl hcell hy1 h63 hbytes h.below.size (c:=cap)
  exact main v' w' ys hr ho hg hat hy1 hyr
theorem B20(hT:TabOk P T)(h:RelX E σ pl a w)(hd:∀ q,o.dst=some q→q < E.nt)(args:Array Operand)(ts:Array TypeId)(ho:o.op=.call { callee:=.builtin .append,args:=args,argTypes:=ts })
  (hrun:(C4 P T ov o σ.ev).run (look σ.hp) []=some (eff,log)) (hobl:All eff.obl):Ok P E o a w (σ.app o.dst eff):=by
 simp only [C4,ho]at hrun
 split at hrun
 ·rename_i av bv t t' h1 h2
  obtain⟨x,y,e1,hx,hy⟩:=As5 h1
  have e1:=H6 e1
  have e2:=H6 h2
  subst e1
  subst e2
  replace hrun:=F9 hrun
  obtain⟨htt,hrun⟩:=hrun
  have htt:t=t':=by simpa using htt
  subst htt
  split at hrun
  ·rename_i ti ht
   split at hrun
   ·rename_i e hdesc
    split at hrun
    ·rename_i te hte
     replace hrun:=F9 hrun
     obtain⟨hs1,hrun⟩:=hrun
     have hs1:=Nat.le_of_ble_eq_true hs1
     have hu:=(hT t ti ht).1
     rw[hdesc]at hu
     obtain⟨i,z,i1,i2,i3,i4,i5⟩:=inf hT hte
     have hz:=A0f i5 (SS E (look σ.hp) pl w) w
     obtain⟨rows2,l',hk,hsh⟩:=A02 h (h.ev hy) hrun
     have hro:(execOp a.eval o).run P w=((Builtin.append_ #[t,t] o.type #[a.eval x,a.eval y]).run P w).andThen fun u w'=>.ok (.value u) w':=by
      obtain⟨cs,hr⟩:=K4 (P:=P) (a:=a) (w:=w) ho
      rw[hr]
      simp [builtin]
     split at hk
     ·rename_i id ver
      replace hk:=D4 hk
      obtain⟨B,hB,hver,hl,hk⟩:=hk
      split at hk
      ·rename_i sz rows hbk
       simp only [Pg.run,Option.some.injEq,Prod.mk.injEq]at hk
       obtain⟨rfl,_⟩:=hk
       have o1:B.ty=e:=All.mem hobl _ (by simp)
       have o2:te.size=sz:=All.mem hobl _ (by simp)
       have o3:∀ r∈rows2,r.length=sz:=All.mem hobl _ (by simp)
       have o4:rows.length+rows2.length≤maxLen:=All.mem hobl _ (by simp)
       have o5:(rows.length+rows2.length)*te.bytes≤140737488355328:=All.mem hobl _ (by simp)
       have o6:=J4 (ov:=ov) (d:=rows++rows2) (fun p hp=>All.mem hobl p (List.mem_append_right _ hp))
       obtain⟨hrl,xs,hown,hx1,hxr⟩:=h.rowCell hB hbk
       have he:=F2 (h.ev hx) hB hver hl
       rw[← he,o1]at hown
       have hzsz:z.cells.size=sz:=by
        have hok:te.zero.length=te.size:=All.mem hobl _ (by simp)
        rw[hz.1,hok,o2]
       rw[o1]
       exact Ok.append (P:=P) h hd hu i1 i4 (by omega) i3 hzsz (by omega) hro hrl hown hx1 hxr (fun C hC=>by rw[hB]at hC;simp only [Option.some.injEq]at hC;subst hC;omega)
        (fun k hk=>⟨B,hB,hl,by rw[← he];exact hk⟩) o3 hsh o4 o5 o6
      ·simp [Pg.run]at hk
     ·split at hk
      ·rename_i d hdst
       obtain⟨ver,hver,hef⟩:=Q3 hk
       simp only at hef
       subst hef
       have o3:∀ r∈rows2,r.length=te.size:=All.mem hobl _ (by simp)
       have o4:rows2.length≤maxLen:=All.mem hobl _ (by simp)
       have o5:rows2.length*te.bytes≤140737488355328:=All.mem hobl _ (by simp)
       have hzsz:z.cells.size=te.size:=by
        have hok:te.zero.length=te.size:=All.mem hobl _ (by simp)
        rw[hz.1,hok]
       have o6:=J4 (ov:=ov) (d:=rows2) (fun p hp=>All.mem hobl p (List.mem_append_right _ hp))
       have hnl:a.eval x=.slice none 0 0:=by
        have:=L7 (h.ev hx) rfl
        generalize a.eval x=v at this ⊢
        cases this
        rfl
       exact Ok.append (P:=P) (rows:=[]) h hd hu i1 i4 i2 i3 hzsz (by omega) hro (fun r hr=>absurd hr (by simp)) (by rw[hnl];exact World.ownsRow_nil _ _ _ _) (fun u hu=>absurd hu (by simp)) (fun j b u hb=>by simp at hb) hver
        (fun k hk=>by rw[hnl]at hk;simp [blkOf]at hk) o3 hsh (by simpa using o4) (by simpa using o5) (by simpa using o6)
      ·simp [Pg.run]at hk
     ·simp [Pg.run]at hk
    ·simp [Pg.run]at hrun
   ·simp [Pg.run]at hrun
  ·simp [Pg.run]at hrun
 ·simp [Pg.run]at hrun
end
end Go.E
namespace Go.E
open Go.RowKit
section
variable {P : Program} {E : Env} {T : Tab} {ov : Ov} {o : Oper} {σ : St} {pl : Nat → Value} {a : Act} {w : World} {eff : Eff} {log : List Nat}
def A4v(v:Option Value)(n:Option Int):Prop:=match n with | none=>v=none | some n=>∃ k,v=some (.int k n)
theorem M8(isS:Bool)(len cap:Nat)(lo hi:Option Value)(l:Int)(h:Option Int)(hlo:A4v lo (some l)∨(lo=none∧l=0))(hhi:A4v hi h)(h0:0≤l)(h1:l≤h.getD len)(h2:h.getD len≤cap)(h3:len≤cap) :
  (Instr.sliceBounds isS len cap lo hi none).run P w=.ok (l.toNat,(h.getD len).toNat,cap) w:=by
 cases h with
 | none =>
  simp only [A4v]at hhi
  subst hhi
  simp only [Option.getD_none]at h1 h2
  rcases hlo with⟨k,rfl⟩ | ⟨rfl,rfl⟩
  ·simp [Instr.sliceBounds,Instr.sliceBound,asIntOf,h0,h1]
  ·simp [Instr.sliceBounds]
 | some n =>
  obtain⟨k',rfl⟩:=hhi
  simp only [Option.getD_some]at h1 h2
  have hn:0≤n:=by omega
  have e:((n.toNat:Nat):Int)=n:=by omega
  rcases hlo with⟨k,rfl⟩ | ⟨rfl,rfl⟩
  ·simp [Instr.sliceBounds,Instr.sliceBound,asIntOf,h0,h1,h2,hn,e]
  ·simp [Instr.sliceBounds,Instr.sliceBound,asIntOf,h2,hn]
theorem W9(h:RelX E σ pl a w){lo:Option Operand}{l:Int}(hl:(match lo with | none=>some 0 | some q=>(match σ.ev q with | some (.i _ n)=>some n | _=>none))=some l):A4v (lo.map a.eval) (some l)∨(lo.map a.eval=none∧l=0):=by
 cases lo with
 | none =>
  simp only [Option.some.injEq]at hl
  exact .inr ⟨rfl,hl.symm⟩
 | some q =>
  simp only at hl
  split at hl
  ·rename_i k n hq
   simp only [Option.some.injEq]at hl
   subst hl
   exact .inl ⟨k,by simp [E3 (h.ev hq) rfl]⟩
  ·cases hl
theorem X0(h:RelX E σ pl a w){hi:Option Operand}{n:Option Int}(hl:(match hi with | none=>some none | some q=>(match σ.ev q with | some (.i _ n)=>some (some n) | _=>none))=some n):A4v (hi.map a.eval) n:=by
 cases hi with
 | none =>
  simp only [Option.some.injEq]at hl
  subst hl
  rfl
 | some q =>
  simp only at hl
  split at hl
  ·rename_i k m hq
   simp only [Option.some.injEq]at hl
   subst hl
   exact⟨k,by simp [E3 (h.ev hq) rfl]⟩
  ·cases hl
theorem Ad7{α:Type}{sz:Nat}{rows:List (List α)}(h:∀ r∈rows,r.length=sz)(m:Nat)(hm:m≤rows.length):(rows.take m).flatten=rows.flatten.take (m*sz):=by
 have e2:=C5 (sz:=sz) (rows:=rows.take m) (fun r hr=>h r (List.mem_of_mem_take hr))
 rw[List.length_take,Nat.min_eq_left hm]at e2
 have e3:rows.flatten=(rows.take m).flatten++(rows.drop m).flatten:=by rw[← List.flatten_append,List.take_append_drop]
 rw[e3,← e2,List.take_left]
theorem B6o(hT:TabOk P T)(h:RelX E σ pl a w)(hd:∀ q,o.dst=some q→q < E.nt)(t:TypeId)(x:Operand)(lo hi mx:Option Operand)(ho:o.op=.slice t x lo hi mx)
  (hrun:(C4 P T ov o σ.ev).run (look σ.hp) []=some (eff,log)) (hobl:All eff.obl):Ok P E o a w (σ.app o.dst eff):=by
 simp only [C4,ho]at hrun
 split at hrun
 ·rename_i ti av ht hx
  have u:=und hT ht w
  have hrx:=h.ev hx
  split at hrun
  ·-- a text
   rename_i l n z hl hn hdesc
   simp only [Pg.run,Option.some.injEq,Prod.mk.injEq]at hrun
   obtain⟨rfl,_⟩:=hrun
   obtain⟨o1,o2,o3⟩:0≤l∧l≤n.getD z.size∧n.getD z.size≤z.size:=hobl
   have hb:=M8 (P:=P) (w:=w) false z.size z.size _ _ l n (W9 h hl) (X0 h hn) o1 o2 o3 (Nat.le_refl _)
   have e:=E3 hrx rfl
   rw[hdesc]at u
   refine .pure h hd (v:=.string (z.extract l.toNat (n.getD z.size).toNat)) ?_ (.pure _ _ (.s _))
   simp [execOp,ho,Instr.sliceAt,Instr.slice,u,e,hb]
  ·-- a slice that nobody writes
   rename_i l n e rows hl hn hdesc
   split at hrun
   ·rename_i te hte
    simp only [Pg.run,Option.some.injEq,Prod.mk.injEq]at hrun
    obtain⟨rfl,_⟩:=hrun
    obtain⟨o1,o2,o3,o4⟩:0≤l∧l≤n.getD rows.length∧n.getD rows.length≤rows.length∧∀ r∈rows,r.length=te.size:=hobl
    have hr:=Am1 hrx
    generalize hu:a.eval x=u0 at hr
    cases hr with
    | sl _ A cap sz us hc hm hnn hsz hA h1 hh =>
     have hb:=M8 (P:=P) (w:=w) true rows.length cap _ _ l n (W9 h hl) (X0 h hn) o1 o2 (by omega) hc
     rw[hdesc]at u
     have hlen:((rows.take (n.getD rows.length).toNat).drop l.toNat).length=(n.getD rows.length).toNat-l.toNat:=by simp;omega
     have hgetr:∀(j:Nat) (r:List AV),((rows.take (n.getD rows.length).toNat).drop l.toNat)[j]?=some r→rows[l.toNat+j]?=some r:=by
      intro j r hr
      rw[List.getElem?_drop,List.getElem?_take]at hr
      split at hr
      ·exact hr
      ·cases hr
     refine .pure h hd (v:=.slice (if cap=l.toNat then A else A.map (·.add (l.toNat*te.size))) ((rows.take (n.getD rows.length).toNat).drop l.toNat).length (cap-l.toNat)) ?_ (.pure _ _ ?_)
     ·rw[hlen]
      simp [execOp,ho,Instr.sliceAt,Instr.slice,u,hu,hb,Ac9 hT hte]
     ·refine .sl _ _ _ sz (fun j q=>us (l.toNat+j) q) (by rw[hlen];omega) (by rw[hlen];omega) (fun e=>?_) (fun r hr=>hsz r (List.mem_of_mem_take (List.mem_of_mem_drop hr))) (fun h0=>?_) (fun j q=>h1 _ _) (fun j q r b hr hb=>hh _ q r b (hgetr j r hr) hb)
      ·split at e
       ·omega
       ·cases A with
        | none=>have:=hnn rfl;omega
        | some ad=>cases e
      ·rw[hlen]at h0
       have hne:¬ cap=l.toNat:=by omega
       obtain⟨ad,rfl,hS,hcell⟩:=hA (by omega)
       refine⟨ad.add (l.toNat*te.size),by rw[if_neg hne];rfl,by rw[Q0];exact hS,fun j q hj hq=>?_⟩
       rw[hlen]at hj
       have h0':0 < rows.length:=by omega
       have hm:=List.getElem_mem h0'
       have hse:sz=te.size:=by rw[← hsz _ hm,o4 _ hm]
       rw[A49,← hse,show l.toNat*sz+(j*sz+q)=(l.toNat+j)*sz+q from by rw[Nat.add_mul,Nat.add_assoc]]
       exact hcell _ q (by omega) hq
   ·simp [Pg.run]at hrun
  ·-- the nil slice
   rename_i l n e hl hn hdesc
   simp only [Pg.run,Option.some.injEq,Prod.mk.injEq]at hrun
   obtain⟨rfl,_⟩:=hrun
   obtain⟨rfl,o2,o3⟩:l=0∧n.getD 0=0∧(look T e).isSome=true:=hobl
   obtain⟨te,hte⟩:=Option.isSome_iff_exists.1 o3
   have e0:a.eval x=.slice none 0 0:=A3b hrx
   have hb:=M8 (P:=P) (w:=w) true 0 0 _ _ 0 n (W9 h hl) (X0 h hn) (Int.le_refl _) (by simp only [Int.ofNat_eq_natCast,Int.natCast_zero]at *;omega) (by simp only [Int.natCast_zero]at *;omega) (Nat.le_refl _)
   rw[hdesc]at u
   refine .pure h hd (v:=.slice none 0 0) ?_ (.pure _ _ .nl)
   have e1:(n.getD ((0:Nat):Int)).toNat=0:=by simp only [Int.natCast_zero]at *;omega
   rw[e1]at hb
   simp [execOp,ho,Instr.sliceAt,Instr.slice,u,e0,hb,Ac9 hT hte]
  ·-- a row of one's own
   rename_i l n e id ver hl hn hdesc
   split at hrun
   ·replace hrun:=D4 hrun
    obtain⟨B,hB,hver,hlv,hrun⟩:=hrun
    split at hrun
    ·rename_i sz rows hk
     simp only [Pg.run,Option.some.injEq,Prod.mk.injEq]at hrun
     obtain⟨rfl,_⟩:=hrun
     have o1:l=0:=hobl.mem _ (by simp)
     have o2:0≤n.getD rows.length:=hobl.mem _ (by simp)
     have o3:n.getD rows.length≤rows.length:=hobl.mem _ (by simp)
     have o5:((look T e).map TI.size)=some sz:=hobl.mem _ (by simp)
     obtain⟨te,hte,hts⟩:=Option.map_eq_some_iff.1 o5
     have o4:K3 ov (rows.take (n.getD rows.length).toNat)=rows.take (n.getD rows.length).toNat:=J4 fun p hp=>hobl.mem p (by simp [hp])
     simp only [o4]
     subst o1
     obtain⟨hsz,xs,hown,hx1,hxr⟩:=h.rowCell hB hk
     have he:=F2 hrx hB hver hlv
     have hm:(rows.take (n.getD rows.length).toNat).length=(n.getD rows.length).toNat:=by rw[List.length_take];omega
     rw[hdesc]at u
     have hfl:=Ad7 hsz (n.getD rows.length).toNat (by omega)
     have fin:∀ v':Value,(Instr.sliceAt t (pl id) (lo.map a.eval) (hi.map a.eval) none).run P w=.ok v' w→blkOf v'=blkOf (pl id)→w.ownsRow E.w0.heap.size B.ty sz v' (n.getD rows.length).toNat (xs.take ((n.getD rows.length).toNat*sz))→v'.oneCell'=true →
       Ok P E o a w (σ.app o.dst { val:=.own id (ver+1),ups:=[(id,⟨ver+1,B.ty,.row sz (rows.take (n.getD rows.length).toNat)⟩)],obl:=[(0:Int)=0,0≤n.getD rows.length,n.getD rows.length≤rows.length,((look T e).map TI.size)=some sz]++L6 ov (rows.take (n.getD rows.length).toNat) }):=by
      intro v' hrun' hblk hown' hone
      have hch:=h.chg (w':=w) id ⟨ver+1,B.ty,.row sz (rows.take (n.getD rows.length).toNat)⟩ v' (.inl fun C hC=>by rw[hB]at hC;simp only [Option.some.injEq]at hC;subst hC;simp;omega)
       (fun _ _ _=>rfl) rfl rfl rfl (Nat.le_refl _) (fun k hk=>.inr ⟨B,hB,hlv,by rw[← hblk];exact hk⟩)
       ⟨fun r hr=>hsz r (List.mem_of_mem_take hr),_,by rw[hm];exact hown',fun u hu=>hx1 u (List.mem_of_mem_take hu),fun j b u hb hu=>by
        rw[hfl,List.getElem?_take]at hb
        rw[List.getElem?_take]at hu
        split at hb
        ·rename_i hj
         rw[if_pos hj]at hu
         exact hxr j b u hb hu
        ·cases hb⟩
      refine .value (v:=v') ?_ ⟨D8 pl id v',hch.1.put o.dst hd (.own id (ver+1) v' ⟨ver+1,B.ty,.row sz (rows.take (n.getD rows.length).toNat)⟩ (by simp [C8]) (Nat.le_refl _) hone fun _ _=>by simp [D8])⟩
      simp only [execOp,ho,he,Sem.run_bind,Option.map_none,hrun']
      rfl
     rcases hown.2 with⟨e1,h0⟩ | ⟨g,cap,cur,e1,hg,hheap,hnc,hcm,hcs,hcx⟩
     ·have hz:(n.getD rows.length).toNat=0:=by omega
      have hb:=M8 (P:=P) (w:=w) true 0 0 _ _ 0 n (W9 h hl) (X0 h hn) (Int.le_refl _) (by rw[h0]at o2;exact o2) (by rw[h0]at o3;exact o3) (Nat.le_refl _)
      refine fin (.slice none 0 0) ?_ (by rw[e1]) ?_ rfl
      ·have hz0:(n.getD ((0:Nat):Int)).toNat=0:=by have:=o3;rw[h0]at this;omega
       rw[hz0]at hb
       simp [Instr.sliceAt,Instr.slice,u,e1,hb,Ac9 hT hte]
      ·rw[hz];simpa using World.ownsRow_nil w E.w0.heap.size B.ty sz
     ·have hb:=M8 (P:=P) (w:=w) true rows.length cap _ _ 0 n (W9 h hl) (X0 h hn) (Int.le_refl _) o2 (by omega) hnc
      refine fin (.slice (some ⟨g,0,none⟩) (n.getD rows.length).toNat cap) ?_ (by rw[e1];rfl) ⟨?_,.inr ⟨g,cap,cur,rfl,hg,hheap,by omega,hcm,hcs,?_⟩⟩ rfl
      ·simp [Instr.sliceAt,Instr.slice,u,e1,hb,Ac9 hT hte,G2]
      ·rw[List.length_take,hown.1]
       have:(n.getD rows.length).toNat*sz≤rows.length*sz:=Nat.mul_le_mul_right _ (by omega)
       omega
      ·rw[← hcx,List.take_take]
       have:(n.getD rows.length).toNat*sz≤rows.length*sz:=Nat.mul_le_mul_right _ (by omega)
       rw[Nat.min_eq_left this]
    ·simp [Pg.run]at hrun
   replace hrun:=D4 hrun
   obtain⟨B,hB,hver,hlv,hrun⟩:=hrun
   split at hrun
   ·rename_i sz rows hk
    simp only [Pg.run,Option.some.injEq,Prod.mk.injEq]at hrun
    obtain⟨rfl,_⟩:=hrun
    obtain⟨o1,o2,o3,o4,o5⟩:0≤l∧l≤n.getD rows.length∧n.getD rows.length≤rows.length∧l < rows.length∧((look T e).map TI.size)=some sz:=hobl
    obtain⟨te,hte,hts⟩:=Option.map_eq_some_iff.1 o5
    obtain⟨hsz,xs,hown,_⟩:=h.rowCell hB hk
    have he:=F2 hrx hB hver hlv
    rcases hown.2 with⟨_,h0⟩ | ⟨g,cap,cur,e1,_,_,hnc,hcm,_⟩
    ·omega
    ·have hb:=M8 (P:=P) (w:=w) true rows.length cap _ _ l n (W9 h hl) (X0 h hn) o1 o2 (by omega) hnc
     rw[hdesc]at u
     have hne:¬ cap=l.toNat:=by omega
     refine .pure h hd (v:=.slice (some ⟨g,l.toNat*sz,none⟩) ((n.getD rows.length).toNat-l.toNat) (cap-l.toNat)) ?_
      (.vw id ver _ _ _ B hB (by omega) rfl fun _ _=>⟨g,cap-l.toNat,by rw[e1];rfl,by omega,by unfold maxLen at *;omega,by simp [Blk.len,hk];omega,?_⟩)
     ·simp [execOp,ho,Instr.sliceAt,Instr.slice,u,he,e1,hb,Ac9 hT hte,hne,hts,G2]
     ·have:(n.getD ↑rows.length-l).toNat=(n.getD ↑rows.length).toNat-l.toNat:=by omega
      simp [Blk.off,hk,this]
   ·simp [Pg.run]at hrun
  ·-- an array of one's own
   rename_i l n len e id ver r c hl hn hdesc
   replace hrun:=D4 hrun
   obtain⟨B,hB,hver,hlv,hrun⟩:=hrun
   split at hrun
   ·rename_i cells hk
    replace hrun:=F9 hrun
    obtain⟨hc,hrun⟩:=hrun
    simp only [Bool.and_eq_true,beq_iff_eq]at hc
    obtain⟨rfl,rfl⟩:=hc
    simp only [Pg.run,Option.some.injEq,Prod.mk.injEq]at hrun
    obtain⟨rfl,_⟩:=hrun
    obtain⟨o1,o2,o3,o4,o5,o6,o7⟩:0≤l∧l≤n.getD len∧n.getD len≤len∧l < len∧cells.length=len∧((look T e).map TI.size)=some 1∧len≤maxLen:=hobl
    obtain⟨te,hte,hts⟩:=Option.map_eq_some_iff.1 o6
    obtain⟨g,hg,he⟩:=K1 hrx hB hver hlv
    have hb:=M8 (P:=P) (w:=w) false len len _ _ l n (W9 h hl) (X0 h hn) o1 o2 (by omega) (Nat.le_refl _)
    rw[hdesc]at u
    have hne:¬ len=l.toNat:=by omega
    have hoff:B.off 0 0=0:=by simp [Blk.off,hk]
    refine .pure h hd (v:=.slice (some ⟨g,l.toNat,none⟩) ((n.getD len).toNat-l.toNat) (len-l.toNat)) ?_
     (.vw id ver _ _ _ B hB (by omega) rfl fun _ _=>⟨g,len-l.toNat,hg,by omega,by omega,by simp [Blk.len,hk];omega,?_⟩)
    ·simp [execOp,ho,Instr.sliceAt,Instr.sureAddr,u,he,hoff,hb,Ac9 hT hte,hne,hts,G2]
    ·have:(n.getD ↑len-l).toNat=(n.getD ↑len).toNat-l.toNat:=by omega
     simp [Blk.off,hk,this]
   ·simp [Pg.run]at hrun
  ·simp [Pg.run]at hrun
 ·simp [Pg.run]at hrun
theorem RelX.congr{hp':List (Nat×Blk)}(h:RelX E σ pl a w)(he:look hp'=look σ.hp):RelX E ⟨σ.slots,hp'⟩ pl a w:=by
 obtain⟨h1,h2,h3,h4,h5,h6,h7⟩:=h
 exact⟨h1,h2,h3,by rw[he];exact h4,by rw[he];exact h5,by rw[he];exact h6,by rw[he];exact h7⟩
theorem A1x{α:Type}:∀ {rows:List (List α)} (j:Nat),(∀ r∈rows,r.length=1)→rows.flatten[j]?=(rows[j]?).bind fun r=>r[0]?
 | [],j,_=>by simp
 | r :: rows,j,h=>by
  have hl:=h r (by simp)
  rw[List.flatten_cons]
  cases j with
  | zero=>rw[List.getElem?_append_left (by omega)];rfl
  | succ j =>
   rw[List.getElem?_append_right (by omega),hl]
   exact A1x j fun x hx=>h x (List.mem_cons_of_mem _ hx)
theorem Bg5(hT:TabOk P T)(h:RelX E σ pl a w)(hd:∀ q,o.dst=some q→q < E.nt)(args:Array Operand)(ts:Array TypeId)(ho:o.op=.call { callee:=.builtin .copy,args:=args,argTypes:=ts })
  (hrun:(C4 P T ov o σ.ev).run (look σ.hp) []=some (eff,log)) (hobl:All eff.obl):Ok P E o a w (σ.app o.dst eff):=by
 simp only [C4,ho]at hrun
 split at hrun
 ·rename_i av bv t rest h1 h2
  obtain⟨x,y,e1,hx,hy⟩:=As5 h1
  have e1:=H6 e1
  have e2:=H6 h2
  subst e1
  subst e2
  split at hrun
  ·rename_i ti ht
   split at hrun
   ·rename_i e hdesc
    split at hrun
    ·rename_i te hte
     replace hrun:=F9 hrun
     obtain⟨hs1,hrun⟩:=hrun
     have hs1:te.size=1:=by simpa using hs1
     have hu:=(hT t ti ht).1
     rw[hdesc]at hu
     obtain⟨i,z,i1,i2,i3,i4,i5⟩:=inf hT hte
     obtain⟨rows2,l',hk,hsh⟩:=A02 h (h.ev hy) hrun
     have hro:∀ ts':Array TypeId,(execOp a.eval o).run P w=((Builtin.copy_ (t :: rest).toArray o.type #[a.eval x,a.eval y]).run P w).andThen fun u w'=>.ok (.value u) w':=by
      intro _
      obtain⟨cs,hr⟩:=K4 (P:=P) (a:=a) (w:=w) ho
      rw[hr]
      simp [builtin]
     split at hk
     ·rename_i id ver
      replace hk:=D4 hk
      obtain⟨B,hB,hver,hl,hk⟩:=hk
      split at hk
      ·rename_i sz rows hbk
       simp only [Pg.run,Option.some.injEq,Prod.mk.injEq]at hk
       obtain⟨rfl,_⟩:=hk
       have o2:te.size=sz:=All.mem hobl _ (by simp)
       have o3:∀ r∈rows2,r.length=sz:=All.mem hobl _ (by simp)
       have o6:=J4 (ov:=ov) (d:=rows2.take rows.length++rows.drop rows2.length) (fun p hp=>All.mem hobl p (List.mem_append_right _ hp))
       have hs1':sz=1:=by omega
       subst hs1'
       obtain⟨hrl,xs,hown,hx1,hxr⟩:=h.rowCell hB hbk
       have he:=F2 (h.ev hx) hB hver hl
       rw[o6]
       have ho2:=hown
       rcases hown.2 with⟨e0,h0⟩ | ⟨g,cap,cur,e0,hgb,hheap,hnc,hcm,hcs,hcur⟩
       ·have hr0:rows=[]:=List.eq_nil_of_length_eq_zero h0
        subst hr0
        obtain⟨A,cap2,sz2,us,hv2,_⟩:=hsh
        have hrun2:(Builtin.copy_ (t :: rest).toArray o.type #[a.eval x,a.eval y]).run P w=.ok (goInt 0) w:=by
         rw[he,e0,hv2]
         cases A <;> simp [Builtin.copy_,run_underlying hu,Builtin.lenOf,Builtin.firstCells,sizeOf,typeInfo,i1,Nat.min_def,loadCells,loadCellsFrom]
        have hB0:({ ver:=ver,ty:=B.ty,k:=BK.row 1 (List.take ([]:List (List AV)).length rows2++List.drop rows2.length []) }:Blk)=B:=by
         cases B
         simp at hbk hver ⊢
         exact⟨hver.symm,hbk.symm⟩
        refine .value (v:=.int .i64 0) (w':=w) (by rw[hro #[],hrun2];rfl) ⟨pl,?_⟩
        have hc:=h.congr (hp':=Go.E.put σ.hp id ({ ver:=ver,ty:=B.ty,k:=BK.row 1 (List.take ([]:List (List AV)).length rows2++List.drop rows2.length []) }:Blk)) (by
         funext j;rw[C8,hB0];split
         ·rename_i e;subst e;exact hB.symm
         ·rfl)
        have:=hc.put o.dst hd (av:=.i .i64 (min rows2.length ([]:List (List AV)).length:Nat)) (v:=.int .i64 0) (.pure _ _ (by simp;exact .i _ _))
        exact this
       ·rcases hsh.flat o3 with⟨ev,er⟩ | ⟨ad,cap2,ys,ev,hyl,hcell,hy1,hyr⟩
        ·subst er
         have hrun2:(Builtin.copy_ (t :: rest).toArray o.type #[a.eval x,a.eval y]).run P w=.ok (goInt 0) w:=by
          rw[he,e0,ev]
          simp [Builtin.copy_,run_underlying hu,Builtin.lenOf,Builtin.firstCells,sizeOf,typeInfo,i1,storeCells]
         have hB0:({ ver:=ver,ty:=B.ty,k:=BK.row 1 (List.take rows.length []++List.drop ([]:List (List AV)).length rows) }:Blk)=B:=by
          cases B
          simp at hbk hver ⊢
          exact⟨hver.symm,hbk.symm⟩
         refine .value (v:=.int .i64 0) (w':=w) (by rw[hro #[],hrun2];rfl) ⟨pl,?_⟩
         have hc:=h.congr (hp':=Go.E.put σ.hp id ({ ver:=ver,ty:=B.ty,k:=BK.row 1 (List.take rows.length []++List.drop ([]:List (List AV)).length rows) }:Blk)) (by
          funext j;rw[C8,hB0];split
          ·rename_i e;subst e;exact hB.symm
          ·rfl)
         have:=hc.put o.dst hd (av:=.i .i64 (min ([]:List (List AV)).length rows.length:Nat)) (v:=.int .i64 0) (.pure _ _ (by simp;exact .i _ _))
         exact this
        ·simp only [Nat.mul_one]at hyl hcs hcur
         have hxl:xs.length=rows.length:=by have:=hown.1;simpa using this
         have hcl:(ys.take rows.length).length=Nat.min rows2.length rows.length:=by rw[List.length_take,hyl,Nat.min_comm]
         have hg:blkOf (pl id)=some g:=by rw[e0];rfl
         have hcl2:(ys.take rows.length).length=min rows2.length rows.length:=hcl
         have hfit:0+(ys.take rows.length).length≤cur.toList.length:=by rw[hcl2];simp;omega
         have hrun2:(Builtin.copy_ (t :: rest).toArray o.type #[a.eval x,a.eval y]).run P w=.ok (goInt (ys.take rows.length).length) (w.setRow g (cur.toList.take 0++ys.take rows.length++cur.toList.drop (0+(ys.take rows.length).length)).toArray):=by
          rw[he,e0,ev]
          have:=run_copy_row P w t t o.type e g 0 rows.length cap ad rows2.length cap2 cur B.ty (ys.take rows.length) hu (by rw[i1];simp [i2,o2]) hheap hcl (fun j v hv=>hcell j v (by rw[List.getElem?_take]at hv;split at hv;exact hv;cases hv)) (by simpa using hfit) (fun v hv=>hy1 v (List.mem_of_mem_take hv))
          rw[← this]
          rfl
         have hrl':∀ r∈rows2.take rows.length++rows.drop rows2.length,r.length=1:=by
          intro r hr
          rcases List.mem_append.1 hr with hr | hr
          ·exact o3 r (List.mem_of_mem_take hr)
          ·exact hrl r (List.mem_of_mem_drop hr)
         have hrlen:(rows2.take rows.length++rows.drop rows2.length).length=rows.length:=by simp;omega
         have hk':=h.setRow_keep hB hl hg (cur.toList.take 0++ys.take rows.length++cur.toList.drop (0+(ys.take rows.length).length)).toArray
         have hup:=h.upd (B':=⟨ver,B.ty,.row 1 (rows2.take rows.length++rows.drop rows2.length)⟩) hB hl hver.symm (by funext r c;simp [Blk.off,hbk]) (by simp only [Blk.len,hbk];omega) hg (cur.toList.take 0++ys.take rows.length++cur.toList.drop (0+(ys.take rows.length).length)).toArray (by
          refine⟨hrl',(cur.toList.take 0++ys.take rows.length++cur.toList.drop (0+(ys.take rows.length).length)).take rows.length,⟨?_,.inr ⟨g,cap,_,?_,hgb,setRow_heap w g cur _ B.ty (0,0) hheap,?_,hcm,?_,?_⟩⟩,fun u hu=>?_,fun j b u hb hu=>?_⟩
          ·rw[hrlen,List.length_take,G5 _ _ _ hfit];simp;omega
          ·rw[hrlen];exact e0
          ·rw[hrlen];exact hnc
          ·simp only [List.size_toArray];rw[G5 _ _ _ hfit];simpa using hcs
          ·rw[hrlen];simp
          ·obtain⟨j,hj⟩:=List.mem_iff_getElem?.1 hu
           rw[List.getElem?_take]at hj
           split at hj
           ·rename_i hjl
            rw[G4 _ _ _ hfit,if_neg (by omega)]at hj
            split at hj
            ·exact hy1 u (List.mem_of_mem_take (List.mem_of_getElem? hj))
            ·refine hx1 u (List.mem_of_getElem? (i:=j) ?_)
             rw[← hcur,List.getElem?_take,if_pos hjl];exact hj
           ·cases hj
          ·have hjl:j < rows.length:=by
            have:=lt_of_getElem? hb
            rw[C5 hrl',hrlen]at this
            omega
           rw[List.getElem?_take,if_pos hjl,G4 _ _ _ hfit,if_neg (by omega)]at hu
           rw[A1x j hrl']at hb
           by_cases h3:j < rows2.length
           ·rw[List.getElem?_append_left (by simp;omega),List.getElem?_take,if_pos hjl,← A1x j o3]at hb
            rw[if_pos (by rw[hcl2];omega),List.getElem?_take]at hu
            simp only [Nat.sub_zero,hjl,if_true]at hu
            exact(hyr j b u hb hu).mono (fun _ hk=>hk) hk'
           ·rw[List.getElem?_append_right (by simp;omega),List.getElem?_drop]at hb
            have ej:rows2.length+(j-(rows2.take rows.length).length)=j:=by simp;omega
            rw[ej,← A1x j hrl]at hb
            rw[if_neg (by rw[hcl2];omega)]at hu
            refine(hxr j b u hb ?_).mono (fun _ hk=>hk) hk'
            rw[← hcur,List.getElem?_take,if_pos hjl];exact hu)
         refine .value (v:=goInt (ys.take rows.length).length) (by rw[hro #[],hrun2];rfl) ⟨pl,?_⟩
         have:=hup.put o.dst hd (av:=.i .i64 (min rows2.length rows.length:Nat)) (v:=goInt (ys.take rows.length).length) (.pure _ _ (by rw[hcl2];exact .i _ _))
         exact this
      ·simp [Pg.run]at hk
     ·simp [Pg.run]at hk
    ·simp [Pg.run]at hrun
   ·simp [Pg.run]at hrun
  ·simp [Pg.run]at hrun
 ·simp [Pg.run]at hrun
theorem B21{α:Type}{sz:Nat}{rows:List (List α)}(h:∀ r∈rows,r.length=sz)(m:Nat)(hm:m≤rows.length):(rows.drop m).flatten=rows.flatten.drop (m*sz):=by
 have e:rows.flatten=(rows.take m).flatten++(rows.drop m).flatten:=by rw[← List.flatten_append,List.take_append_drop]
 have l:(rows.take m).flatten.length=m*sz:=by
  rw[C5 (fun r hr=>h r (List.mem_of_mem_take hr)),List.length_take,Nat.min_eq_left hm]
 rw[e,← l,List.drop_left]
theorem B6p(hT:TabOk P T)(h:RelX E σ pl a w)(hd:∀ q,o.dst=some q→q < E.nt)(args:Array Operand)(ts:Array TypeId)(ho:o.op=.call { callee:=.builtin .clear,args:=args,argTypes:=ts })
  (hrun:(C4 P T ov o σ.ev).run (look σ.hp) []=some (eff,log)) (hobl:All eff.obl):Ok P E o a w (σ.app o.dst eff):=by
 simp only [C4,ho]at hrun
 split at hrun
 ·rename_i id ver lo n t rest h1 h2
  obtain⟨x,e1,hx⟩:=A1w h1
  have e1:=H6 e1
  have e2:=H6 h2
  subst e1
  subst e2
  split at hrun
  ·rename_i ti ht
   split at hrun
   ·rename_i e hdesc
    split at hrun
    ·rename_i te hte
     have hu:=(hT t ti ht).1
     rw[hdesc]at hu
     obtain⟨i,z,i1,i2,i3,i4,i5⟩:=inf hT hte
     have hz:=A0f i5 (SS E (look σ.hp) pl w) w
     replace hk:=D4 hrun
     obtain⟨B,hB,hver,hl,hk⟩:=hk
     split at hk
     ·rename_i sz rows hbk
      simp only [Pg.run,Option.some.injEq,Prod.mk.injEq]at hk
      obtain⟨rfl,_⟩:=hk
      have o1:te.size=sz:=All.mem hobl _ (by simp)
      have o2:(Ac3 ov te.zero).length=te.size:=All.mem hobl _ (by simp)
      have o3:ZLe te.zero (Ac3 ov te.zero):=All.mem hobl _ (by simp)
      have o4:0 < n:=All.mem hobl _ (by simp)
      have o5:lo+n≤rows.length:=All.mem hobl _ (by simp)
      have o6:=J4 (ov:=ov) (d:=rows.take lo++List.replicate n (Ac3 ov te.zero)++rows.drop (lo+n)) (fun p hp=>All.mem hobl p (List.mem_append_right _ hp))
      clear hobl
      rw[o6]
      generalize Ac3 ov te.zero=zr at o2 o3 o6 ⊢
      have hz':A4t (SS E (look σ.hp) pl w) w zr z.cells:=⟨by rw[hz.1,o3.1],hz.2.1,fun j b u hb hu=>by
       have hj:j < te.zero.length:=by
        have:=lt_of_getElem? hb
        rw[o3.1];exact this
       exact o3.2 j _ b (List.getElem?_eq_getElem hj) hb _ _ _ (hz.2.2 j _ u (List.getElem?_eq_getElem hj) hu)⟩
      have hrep:=Am2 (ti:={ te with zero:=zr }) hz' n
      simp only at hrep
      have hzc:Builtin.zeroCells z.cells n=madeCells z.cells (n*zr.length):=by
       unfold Builtin.zeroCells madeCells
       rw[hz'.1]
      rw[← hzc]at hrep
      obtain⟨hrl,xs,hown,hx1,hxr⟩:=h.rowCell hB hbk
      obtain⟨g,cap,hg,c1,c2,c3,ev⟩:=A8l (h.ev hx) hB hver hl
      have eoff:B.off lo 0=lo*sz:=by simp [Blk.off,hbk]
      rw[eoff]at ev
      rcases hown.2 with⟨e0,h0⟩ | ⟨g',cap',cur,e0,hgb,hheap,hnc,hcm,hcs,hcur⟩
      ·rw[e0]at hg;simp [blkOf]at hg
      ·have hgg:g'=g:=by rw[e0]at hg;simpa [blkOf]using hg
       subst hgg
       have hZl:(List.replicate n zr).flatten.length=n*sz:=by
        rw[C5 (sz:=sz) (fun r hr=>by rw[(List.mem_replicate.1 hr).2,o2,o1]),List.length_replicate]
       have hzl:(Builtin.zeroCells z.cells n).toList.length=n*sz:=by
        rw[Array.length_toList,hrep.1,hZl]
       have hxl:xs.length=rows.length*sz:=hown.1
       have hmul:lo*sz+n*sz≤rows.length*sz:=by rw[← Nat.add_mul];exact Nat.mul_le_mul_right _ o5
       have hfit:lo*sz+(Builtin.zeroCells z.cells n).toList.length≤cur.toList.length:=by
        rw[hzl]
        have:=congrArg List.length hcur
        rw[List.length_take,hxl]at this
        omega
       have hz3:∀(j:Nat) (b:AV) (u:Value),(List.replicate n zr).flatten[j]?=some b→(Builtin.zeroCells z.cells n).toList[j]?=some u→RelV0 (SS E (look σ.hp) pl w) w b u:=fun j b u hb hu=>hrep.2.2 j b u hb (by rw[← Array.getElem?_toList];exact hu)
       have h1c:∀ v∈(Builtin.zeroCells z.cells n).toList,v.oneCell'=true:=hrep.2.1
       have hst:=run_storeCells_at P g' (lo*sz) B.ty (Builtin.zeroCells z.cells n).toList 0 cur w hheap (by rw[Nat.add_zero];rw[Array.length_toList]at hfit;exact hfit) h1c
       rw[Nat.add_zero]at hst
       have hF:(rows.take lo++List.replicate n zr++rows.drop (lo+n)).flatten=rows.flatten.take (lo*sz)++(List.replicate n zr).flatten++rows.flatten.drop (lo*sz+(List.replicate n zr).flatten.length):=by
        rw[List.flatten_append,List.flatten_append,Ad7 hrl lo (by omega),B21 hrl (lo+n) o5,hZl,Nat.add_mul]
       have hFl:rows.flatten.length=rows.length*sz:=C5 hrl
       have hrl':∀ r∈rows.take lo++List.replicate n zr++rows.drop (lo+n),r.length=sz:=by
        intro r hr
        rcases List.mem_append.1 hr with hr | hr
        ·rcases List.mem_append.1 hr with hr | hr
         ·exact hrl r (List.mem_of_mem_take hr)
         ·rw[(List.mem_replicate.1 hr).2,o2,o1]
        ·exact hrl r (List.mem_of_mem_drop hr)
       have hrlen:(rows.take lo++List.replicate n zr++rows.drop (lo+n)).length=rows.length:=by simp;omega
       have hrun2:(execOp a.eval o).run P w=.ok (.value (.tuple #[])) (w.setRow g' (cur.toList.take (lo*sz)++(Builtin.zeroCells z.cells n).toList++cur.toList.drop (lo*sz+(Builtin.zeroCells z.cells n).toList.length)).toArray):=by
        obtain⟨cs,hr⟩:=K4 (P:=P) (a:=a) (w:=w) ho
        rw[hr]
        have ee:#[x].map a.eval=#[a.eval x]:=by simp
        rw[ee,ev]
        obtain⟨m,rfl⟩:∃ m,n=m+1:=⟨n-1,by omega⟩
        simp [builtin,Builtin.clear_,run_underlying hu,zeroValue,typeInfo,i1,i4,hst]
       have hk':=h.setRow_keep hB hl hg (cur.toList.take (lo*sz)++(Builtin.zeroCells z.cells n).toList++cur.toList.drop (lo*sz+(Builtin.zeroCells z.cells n).toList.length)).toArray
       have hsl:=G5 _ _ _ hfit
       have hsg:=G4 _ _ _ hfit
       have hup:=h.upd (B':=⟨ver,B.ty,.row sz (rows.take lo++List.replicate n zr++rows.drop (lo+n))⟩) hB hl hver.symm (by funext r c;simp [Blk.off,hbk]) (by simp only [Blk.len,hbk];omega) hg (cur.toList.take (lo*sz)++(Builtin.zeroCells z.cells n).toList++cur.toList.drop (lo*sz+(Builtin.zeroCells z.cells n).toList.length)).toArray (by
        generalize (Builtin.zeroCells z.cells n).toList=zs at *
        refine⟨hrl',(cur.toList.take (lo*sz)++zs++cur.toList.drop (lo*sz+zs.length)).take (rows.length*sz),⟨?_,.inr ⟨g',cap',_,?_,hgb,setRow_heap w g' cur _ B.ty (0,0) hheap,?_,hcm,?_,?_⟩⟩,fun u hu=>?_,fun j b u hb hu=>?_⟩
        ·rw[hrlen,List.length_take,hsl]
         have:=congrArg List.length hcur
         rw[List.length_take,hxl]at this
         omega
        ·rw[hrlen];exact e0
        ·rw[hrlen];exact hnc
        ·simp only [List.size_toArray];rw[hsl];simpa using hcs
        ·rw[hrlen]
        ·obtain⟨j,hj⟩:=List.mem_iff_getElem?.1 hu
         rw[List.getElem?_take]at hj
         split at hj
         ·rename_i hjl
          rw[hsg]at hj
          have old:cur.toList[j]?=some u→u.oneCell'=true:=fun hj=>hx1 u (List.mem_of_getElem? (i:=j) (by rw[← hcur,List.getElem?_take,if_pos hjl];exact hj))
          split at hj
          ·exact old hj
          ·split at hj
           ·exact h1c u (List.mem_of_getElem? hj)
           ·exact old hj
         ·cases hj
        ·have hjl:j < rows.length*sz:=by
          have:=lt_of_getElem? hb
          rw[C5 hrl',hrlen]at this
          exact this
         rw[List.getElem?_take,if_pos hjl,hsg]at hu
         rw[hF,G4 _ _ _ (by rw[hZl,hFl];exact hmul),hZl]at hb
         rw[hzl]at hu
         have old:rows.flatten[j]?=some b→cur.toList[j]?=some u→RelV0 (SS E (look σ.hp) pl w) (w.setRow g' (cur.toList.take (lo*sz)++zs++cur.toList.drop (lo*sz+zs.length)).toArray) b u:=fun hb hu=>by
          refine(hxr j b u hb ?_).mono (fun _ hk=>hk) hk'
          rw[← hcur,List.getElem?_take,if_pos hjl];exact hu
         by_cases q1:j < lo*sz
         ·rw[if_pos q1]at hb hu
          exact old hb hu
         ·rw[if_neg q1]at hb hu
          by_cases q2:j < lo*sz+n*sz
          ·rw[if_pos q2]at hb hu
           exact(hz3 (j-lo*sz) b u hb hu).mono (fun _ hk=>hk) hk'
          ·rw[if_neg q2]at hb hu
           exact old hb hu)
       refine .value hrun2 ⟨pl,?_⟩
       exact hup.put o.dst hd (av:=.tup []) (v:=.tuple #[]) (.pure _ _ (.tup [] [] rfl (fun j a u ha=>by simp at ha)))
     ·simp [Pg.run]at hk
    ·simp [Pg.run]at hrun
   ·simp [Pg.run]at hrun
  ·simp [Pg.run]at hrun
 ·simp [Pg.run]at hrun
end
end Go.E
namespace Go.E
open Go.RowKit
section
variable {P : Program} {E : Env} {T : Tab} {ov : Ov} {o : Oper} {σ : St} {pl : Nat → Value} {a : Act} {w : World} {eff : Eff} {log : List Nat}
theorem B06(z:List UInt8):∀(s:ByteArray),(z.map fun b=>((b.toNat:Nat):Int)).foldl (fun r n=>r.push (UInt8.ofNat n.toNat)) s=⟨s.data++z.toArray⟩:=by
 intro s
 rw[foldl_push_bytes,List.map_map]
 have:((fun n:Int=>UInt8.ofNat n.toNat) ∘ fun b:UInt8=>((b.toNat:Nat):Int))=id:=by funext b;simp
 rw[this,List.map_id]
theorem B07(hT:TabOk P T)(h:RelX E σ pl a w)(hd:∀ q,o.dst=some q→q < E.nt)(src dst:TypeId)(x:Operand)(ho:o.op=.convert src dst x)
  (hrun:(C4 P T ov o σ.ev).run (look σ.hp) []=some (eff,log)) (hobl:All eff.obl):Ok P E o a w (σ.app o.dst eff):=by
 simp only [C4,ho]at hrun
 split at hrun
 ·rename_i ts td av hs hdd hx
  have u1:=und hT hs w
  have u2:=und hT hdd w
  split at hrun
  ·rename_i k1 k q n h1 h2
   simp only [Q1,Pg.run,Option.some.injEq,Prod.mk.injEq]at hrun
   obtain⟨rfl,_⟩:=hrun
   have e:=E3 (h.ev hx) rfl
   refine .pure h hd (v:=.int k (k.wrap n)) ?_ (.pure _ _ (.i _ _))
   rw[h1]at u1
   rw[h2]at u2
   simp [execOp,ho,convert,u1,u2,e,Conv.intToInt]
  ·rename_i z h1 h2
   simp only [Q1,Pg.run,Option.some.injEq,Prod.mk.injEq]at hrun
   obtain⟨rfl,_⟩:=hrun
   have e:=E3 (h.ev hx) rfl
   refine .pure h hd (v:=.string z) ?_ (.pure _ _ (.s _))
   rw[h1]at u1
   rw[h2]at u2
   simp [execOp,ho,convert,u1,u2,e]
  ·rename_i e h1 h2
   split at hrun
   ·rename_i te z hte hov
    split at hrun
    ·rename_i hte8
     obtain⟨rows,l',hk,hsh⟩:=A02 h (h.ev hx) hrun
     simp only [Pg.run,Option.some.injEq,Prod.mk.injEq]at hk
     obtain⟨rfl,_⟩:=hk
     have o1:rows=z.data.toList.map fun b=>[AV.i .u8 b.toNat]:=hobl
     have us:=(hT src ts hs).1
     rw[h1]at us
     have ud:=(hT dst td hdd).1
     rw[h2]at ud
     have ue:=(hT e te hte).1
     rw[hte8]at ue
     have hone:∀ r∈rows,r.length=1:=by
      intro r hr
      rw[o1]at hr
      obtain⟨b,_,rfl⟩:=List.mem_map.1 hr
      rfl
     refine .pure h hd (v:=.string z) ?_ (.pure _ _ (.s _))
     have key:(convert src dst (a.eval x)).run P w=.ok (.string z) w:=by
      rcases hsh.flat hone with⟨e0,er⟩ | ⟨ad,cap,xs,e0,hl,hcell,hx1,hxr⟩
      ·rw[e0,run_convert_bytes_nil w src e us ue 0 0 dst ud]
       have:z.data.toList=[]:=by
        rw[er]at o1
        simpa using o1.symm
       have hz:z=ByteArray.empty:=by
        cases z with
        | mk d =>
         simp at this
         subst this
         rfl
       rw[hz]
      ·rw[e0,run_convert_bytes_string w src dst e _ rows.length cap us ue ud]
       have hxs:xs=(z.data.toList.map fun b=>((b.toNat:Nat):Int)).map (Value.int .u8):=by
        apply List.ext_getElem?
        intro j
        simp only [List.getElem?_map]
        have hfl:=A1x j hone
        cases hj:z.data.toList[j]? with
        | none =>
         rw[Option.map_none,Option.map_none,List.getElem?_eq_none]
         rw[List.getElem?_eq_none_iff]at hj
         rw[hl,o1]
         simpa using hj
        | some b =>
         have hlt:=lt_of_getElem? hj
         have hlx:j < xs.length:=by rw[hl,o1];simpa using hlt
         rw[Option.map_some,Option.map_some,List.getElem?_eq_getElem hlx]
         have hrj:rows[j]?=some [AV.i .u8 b.toNat]:=by rw[o1,List.getElem?_map,hj];rfl
         rw[hrj]at hfl
         have:=hxr j _ _ hfl (List.getElem?_eq_getElem hlx)
         generalize xs[j]=u at this ⊢
         cases this
         rfl
       have hload:=run_loadCells_list (P:=P) w ad xs hcell
       rw[hl,Nat.mul_one]at hload
       rw[hxs]at hload
       rw[run_bytesToString w ad rows.length cap _ hload,B06]
       cases z
       simp [ByteArray.empty,ByteArray.emptyWithCapacity]
       rfl
     simp only [execOp,ho,Sem.run_bind,key]
     rfl
    ·simp [Pg.run]at hrun
   ·simp [Pg.run]at hrun
  ·simp [Pg.run]at hrun
 ·simp [Pg.run]at hrun
def InS(hp:Nat→Option Blk)(pl:Nat→Value)(S':Nat→Prop)(ids:List Nat):Prop:=∀ i∈ids,∀ B,hp i=some B→B.live=true→∀ k,blkOf (pl i)=some k→S' k
theorem Ad8{S S':Nat→Prop}{rows:List (List AV)}{v:Value}(h:Am3 S w rows v)(hS:∀ k,S k→S' k)(hb:∀ k,blkOf v=some k→S' k)(hc:∀ A n c,v=.slice A n c→n≤c):RelV0 S' w (.sl rows) v:=by
 obtain⟨A,cap,sz,u,rfl,hm,hn,hsz,hA,h1,hh⟩:=h
 refine .sl rows A cap sz u (hc _ _ _ rfl) hm (fun e=>(hn e).1) hsz (fun h0=>?_) h1 (fun j q r a hr ha=>(hh j q r a hr ha).mono hS (fun _ _=>rfl))
 obtain⟨ad,rfl,hcell⟩:=hA h0
 exact⟨ad,rfl,hb _ rfl,hcell⟩
theorem Am4(h:RelX E σ pl a w){av:AV}{v:Value}(hv:RelV (look σ.hp) pl (SS E (look σ.hp) pl w) w av v){l:List Nat}{r:(AV×List Nat)×List Nat}(hrun:(Ba9 av).run (look σ.hp) l=some r) :
  (∀ i∈r.1.2,(look σ.hp i).isSome=true)∧∀ S',(∀ k,SS E (look σ.hp) pl w k→S' k)→InS (look σ.hp) pl S' r.1.2→RelV0 S' w r.1.1 v:=by
 have hr0:∀ rows l',(A14 av fun rows=>Q1 (.sl rows)).run (look σ.hp) l=some ({ val:=.sl rows },l')→Am3 (SS E (look σ.hp) pl w) w rows v:=by
  intro rows l' hr
  obtain⟨rows',l'',hk,hs⟩:=A02 h hv hr
  simp only [Q1,Pg.run,Option.some.injEq,Prod.mk.injEq,Eff.mk.injEq,AV.sl.injEq]at hk
  rw[hk.1.1]at hs
  exact hs
 unfold Ba9 at hrun
 split at hrun
 ·rename_i id ver
  replace hrun:=D4 hrun
  obtain⟨B,hB,hver,hl,hrun⟩:=hrun
  split at hrun
  ·rename_i sz rows hk
   simp only [Pg.run,Option.some.injEq]at hrun
   subst hrun
   refine⟨fun i hi=>by simp at hi;subst hi;simp [hB],fun S' hS hI=>?_⟩
   rw[F2 hv hB hver hl]
   exact Bb0 (h.blks id B hB) hk hS (hI id (by simp) B hB hl)
  ·simp [Pg.run]at hrun
 ·rename_i id ver lo n
  replace hrun:=D4 hrun
  obtain⟨B,hB,hver,hl,hrun⟩:=hrun
  obtain⟨g,cap,hg,hnc,hnm,hlen,he⟩:=A8l hv hB hver hl
  have hcap:∀ A m c,v=.slice A m c→m≤c:=by
   intro A m c e
   rw[he]at e
   simp only [Value.slice.injEq]at e
   omega
  have hblk:blkOf v=some g:=by rw[he];rfl
  split at hrun
  ·rename_i sz rows hk
   simp only [Pg.run,Option.some.injEq]at hrun
   subst hrun
   refine⟨fun i hi=>by simp at hi;subst hi;simp [hB],fun S' hS hI=>?_⟩
   have hs:=hr0 ((rows.drop lo).take n) (id :: l) (by simp [A14,A13,Pg.run,hB,hver,hl,hk,Q1])
   exact Ad8 hs hS (fun k hk'=>by rw[hblk]at hk';exact hI id (by simp) B hB hl k (by rw[hg];exact hk')) hcap
  ·rename_i cells hk
   simp only [Pg.run,Option.some.injEq]at hrun
   subst hrun
   refine⟨fun i hi=>by simp at hi;subst hi;simp [hB],fun S' hS hI=>?_⟩
   have hs:=hr0 (((cells.drop lo).take n).map fun c=>[c]) (id :: l) (by simp [A14,A13,Pg.run,hB,hver,hl,hk,Q1])
   exact Ad8 hs hS (fun k hk'=>by rw[hblk]at hk';exact hI id (by simp) B hB hl k (by rw[hg];exact hk')) hcap
  ·simp [Pg.run]at hrun
 ·replace hrun:=F9 hrun
  obtain⟨hc,hrun⟩:=hrun
  simp only [Pg.run,Option.some.injEq]at hrun
  subst hrun
  exact⟨fun i hi=>by simp at hi,fun S' hS _=>(L7 hv hc).mono hS (fun _ _=>rfl)⟩
theorem S4{f:AV→Pg (AV×List Nat)}(h:RelX E σ pl a w)
  (hf:∀(av:AV) (v:Value) (l:List Nat) (r:(AV×List Nat)×List Nat),RelV (look σ.hp) pl (SS E (look σ.hp) pl w) w av v→(f av).run (look σ.hp) l=some r →
   (∀ i∈r.1.2,(look σ.hp i).isSome=true)∧∀ S',(∀ k,SS E (look σ.hp) pl w k→S' k)→InS (look σ.hp) pl S' r.1.2→RelV0 S' w r.1.1 v) :
  ∀(avs:List AV) (vs:List Value) (l:List Nat) (r:List (AV×List Nat)×List Nat),vs.length=avs.length →
   (∀(j:Nat) (b:AV) (u:Value),avs[j]?=some b→vs[j]?=some u→RelV (look σ.hp) pl (SS E (look σ.hp) pl w) w b u)→(I4 f avs).run (look σ.hp) l=some r →
   r.1.length=avs.length∧(∀ i∈r.1.flatMap (·.2),(look σ.hp i).isSome=true)∧∀ S',(∀ k,SS E (look σ.hp) pl w k→S' k)→InS (look σ.hp) pl S' (r.1.flatMap (·.2)) →
    ∀(j:Nat) (b:AV) (u:Value),(r.1.map (·.1))[j]?=some b→vs[j]?=some u→RelV0 S' w b u
 | [],vs,l,r,_,_,hr=>by
  simp only [I4,Pg.run,Option.some.injEq]at hr
  subst hr
  exact⟨rfl,fun i hi=>by simp at hi,fun S' _ _ j b u hb=>by simp at hb⟩
 | av :: avs,[],l,r,hl,_,_=>by simp at hl
 | av :: avs,v :: vs,l,r,hl,hv,hr=>by
  simp only [I4,Pg.run_bind]at hr
  cases h1:(f av).run (look σ.hp) l with
  | none=>simp [h1]at hr
  | some q =>
   simp only [h1,Option.bind_some]at hr
   cases h2:(I4 f avs).run (look σ.hp) q.2 with
   | none=>simp [h2]at hr
   | some q2 =>
    simp only [h2,Option.bind_some,Pg.run,Option.some.injEq]at hr
    subst hr
    obtain⟨a1,a2⟩:=hf av v l q (hv 0 av v rfl rfl) h1
    obtain⟨b1,b2,b3⟩:=S4 h hf avs vs q.2 q2 (by simpa using hl) (fun j b u hb hu=>hv (j+1) b u (by simpa using hb) (by simpa using hu)) h2
    refine⟨by simp [b1],fun i hi=>?_,fun S' hS hI j b u hb hu=>?_⟩
    ·simp only [List.flatMap_cons,List.mem_append]at hi
     rcases hi with hi | hi
     ·exact a1 i hi
     ·exact b2 i hi
    ·have hI1:InS (look σ.hp) pl S' q.1.2:=fun i hi=>hI i (by simp only [List.flatMap_cons,List.mem_append];exact .inl hi)
     have hI2:InS (look σ.hp) pl S' (q2.1.flatMap (·.2)):=fun i hi=>hI i (by simp only [List.flatMap_cons,List.mem_append];exact .inr hi)
     cases j with
     | zero =>
      simp at hb hu
      subst hb
      subst hu
      exact a2 S' hS hI1
     | succ j=>exact b3 S' hS hI2 j b u (by simpa using hb) (by simpa using hu)
theorem A8q(h:RelX E σ pl a w)(av:AV)(v:Value)(l:List Nat)(r:(AV×List Nat)×List Nat)(hv:RelV (look σ.hp) pl (SS E (look σ.hp) pl w) w av v)(hrun:(B66 av).run (look σ.hp) l=some r) :
  (∀ i∈r.1.2,(look σ.hp i).isSome=true)∧∀ S',(∀ k,SS E (look σ.hp) pl w k→S' k)→InS (look σ.hp) pl S' r.1.2→RelV0 S' w r.1.1 v:=by
 unfold B66 at hrun
 split at hrun
 ·rename_i id ver r0 c
  replace hrun:=D4 hrun
  obtain⟨B,hB,hver,hl,hrun⟩:=hrun
  obtain⟨g,hg,he⟩:=K1 hv hB hver hl
  split at hrun
  ·rename_i cells hk
   replace hrun:=F9 hrun
   obtain⟨hr0,hrun⟩:=hrun
   have hr0:r0=0:=by simpa using hr0
   subst hr0
   rw[Pg.run_bind]at hrun
   cases hm:(I4 Ba9 (cells.drop c)).run (look σ.hp) (id :: l)with
   | none=>rw[hm]at hrun;simp at hrun
   | some q =>
    rw[hm]at hrun
    simp only [Option.bind_some,Pg.run,Option.some.injEq]at hrun
    subst hrun
    obtain⟨g',vs,hp1,hp2,hp3,hp4,hp5⟩:=h.varCell hB hk
    have hgg:g'=g:=by rw[hp1]at hg;simpa [blkOf]using hg
    subst hgg
    have hoff:B.off 0 c=c:=by simp [Blk.off,hk]
    obtain⟨m1,m2,m3⟩:=S4 (f:=Ba9) h (fun av v l r hv hr=>Am4 h hv hr) (cells.drop c) (vs.toList.drop c) (id :: l) q (by simp [hp3]) (fun j b u hb hu=>by
     rw[List.getElem?_drop]at hb hu
     exact hp5 _ b u hb (by simpa using hu)) hm
    refine⟨fun i hi=>?_,fun S' hS hI=>?_⟩
    ·rcases List.mem_cons.1 hi with rfl | hi
     ·simp [hB]
     ·exact m2 i hi
    ·have m4:=m3 S' hS fun i hi=>hI i (List.mem_cons_of_mem _ hi)
     have hlen:(q.1.map (·.1)).length=cells.length-c:=by simp [m1]
     rw[he,hoff]
     refine .eptr _ _ (fun j=>(vs[c+j]?).getD .nilIface) (hI id (by simp) B hB hl g' (by rw[hp1];rfl)) (fun j hj=>?_) (fun j=>?_) (fun j b hb=>?_)
     ·have hlt:c+j < vs.size:=by omega
      rw[G2,T4 w g' _ vs _ _ hp2]
      simp only [Array.getElem?_eq_getElem hlt,Option.getD_some]
     ·show((vs[c+j]?).getD .nilIface).oneCell'=true
      cases hx:vs[c+j]? with
      | none=>rfl
      | some u=>exact hp4 u (List.mem_of_getElem? (by simpa using hx))
     ·have hlt:=lt_of_getElem? hb
      have hx:vs[c+j]?=some (vs[c+j]'(by omega)):=Array.getElem?_eq_getElem (by omega)
      show RelV0 S' w b ((vs[c+j]?).getD .nilIface)
      rw[hx]
      exact m4 j b _ hb (by rw[List.getElem?_drop];simp [hx])
  ·rename_i cells hk
   simp only [Pg.run,Option.some.injEq]at hrun
   subst hrun
   obtain⟨g',vs,hp1,hp2,hp3,hp4,hp5⟩:=h.arrCell hB hk
   have hgg:g'=g:=by rw[hp1]at hg;simpa [blkOf]using hg
   subst hgg
   refine⟨fun i hi=>by simp at hi;subst hi;simp [hB],fun S' hS hI=>?_⟩
   rw[he]
   have hoff:B.off r0 c=r0+c:=by simp [Blk.off,hk]
   refine .eptr _ _ (fun q=>(vs[r0+c+q]?).getD .nilIface) (hI id (by simp) B hB hl g' (by rw[hp1];rfl)) (fun q hq=>?_) (fun q=>?_) (fun q b hb=>?_)
   ·simp only [List.length_drop]at hq
    have hlt:r0+c+q < vs.size:=by omega
    rw[G2,T4 w g' _ vs _ _ hp2,hoff]
    simp only [Array.getElem?_eq_getElem hlt,Option.getD_some]
   ·show((vs[r0+c+q]?).getD .nilIface).oneCell'=true
    cases hx:vs[r0+c+q]? with
    | none=>rfl
    | some u=>exact hp4 u (List.mem_of_getElem? (by simpa using hx))
   ·rw[List.getElem?_drop]at hb
    have hlt:=lt_of_getElem? hb
    have hx:vs[r0+c+q]?=some (vs[r0+c+q]'(by omega)):=Array.getElem?_eq_getElem (by omega)
    show RelV0 S' w b ((vs[r0+c+q]?).getD .nilIface)
    rw[hx]
    exact(hp5 _ b _ hb hx).mono hS (fun _ _=>rfl)
  ·simp [Pg.run]at hrun
 ·exact Am4 h hv hrun
theorem A8r(h:RelX E σ pl a w)(av:AV)(v:Value)(l:List Nat)(r:(AV×List Nat)×List Nat)(hv:RelV (look σ.hp) pl (SS E (look σ.hp) pl w) w av v)(hrun:(B03 av).run (look σ.hp) l=some r) :
  (∀ i∈r.1.2,(look σ.hp i).isSome=true)∧∀ S',(∀ k,SS E (look σ.hp) pl w k→S' k)→InS (look σ.hp) pl S' r.1.2→RelV0 S' w r.1.1 v:=by
 unfold B03 at hrun
 split at hrun
 ·rename_i f first cap
  obtain⟨v1,v2,l1,l2,rfl,r1,r2⟩:∃(v1 v2:List Value),v1.length=first.length∧v2.length=cap.length∧v=.func f v1.toArray v2.toArray ∧
    (∀(j:Nat) (b:AV) (u:Value),first[j]?=some b→v1[j]?=some u→RelV (look σ.hp) pl (SS E (look σ.hp) pl w) w b u) ∧
    (∀(j:Nat) (b:AV) (u:Value),cap[j]?=some b→v2[j]?=some u→RelV (look σ.hp) pl (SS E (look σ.hp) pl w) w b u):=by
   cases hv with
   | pure _ _ h0 =>
    cases h0 with
    | fn _ _ _ v1 v2 l1 l2 h1 h2=>exact⟨v1,v2,l1,l2,rfl,fun j b u hb hu=>.pure _ _ (h1 j b u hb hu),fun j b u hb hu=>.pure _ _ (h2 j b u hb hu)⟩
   | fn _ _ _ v1 v2 l1 l2 h1 h2=>exact⟨v1,v2,l1,l2,rfl,h1,h2⟩
  rw[Pg.run_bind]at hrun
  cases hm:(I4 B66 first).run (look σ.hp) l with
  | none=>rw[hm]at hrun;simp at hrun
  | some q1 =>
   rw[hm]at hrun
   simp only [Option.bind_some,Pg.run_bind]at hrun
   cases hm2:(I4 B66 cap).run (look σ.hp) q1.2 with
   | none=>rw[hm2]at hrun;simp at hrun
   | some q2 =>
    rw[hm2]at hrun
    simp only [Option.bind_some,Pg.run,Option.some.injEq]at hrun
    subst hrun
    obtain⟨a1,a2,a3⟩:=S4 (f:=B66) h (A8q h) first v1 l q1 l1 r1 hm
    obtain⟨b1,b2,b3⟩:=S4 (f:=B66) h (A8q h) cap v2 q1.2 q2 l2 r2 hm2
    refine⟨fun i hi=>?_,fun S' hS hI=>?_⟩
    ·rcases List.mem_append.1 hi with hi | hi
     ·exact a2 i hi
     ·exact b2 i hi
    ·exact .fn f _ _ v1 v2 (by simp [a1,l1]) (by simp [b1,l2]) (a3 S' hS fun i hi=>hI i (List.mem_append_left _ hi)) (b3 S' hS fun i hi=>hI i (List.mem_append_right _ hi))
 ·rename_i t x
  rw[Pg.run_bind]at hrun
  cases hm:(Ba9 x).run (look σ.hp) l with
  | none=>rw[hm]at hrun;simp at hrun
  | some q =>
   rw[hm]at hrun
   simp only [Option.bind_some,Pg.run,Option.some.injEq]at hrun
   subst hrun
   obtain⟨v',rfl,hv'⟩:∃ v',v=.iface t v'∧RelV (look σ.hp) pl (SS E (look σ.hp) pl w) w x v':=by
    cases hv with
    | pure _ _ h0=>cases h0 with | ifc _ _ v' h'=>exact⟨v',rfl,.pure _ _ h'⟩
    | ifc _ _ v' h'=>exact⟨v',rfl,h'⟩
   obtain⟨a1,a2⟩:=Am4 h hv' hm
   exact⟨a1,fun S' hS hI=>.ifc t _ _ (a2 S' hS hI)⟩
 ·exact A8q h av v l r hv hrun
theorem A3c:∀(ids:List Nat) (l:List Nat) (r:List (Nat×Blk)×List Nat),(A01 ids).run (look σ.hp) l=some r→As3 σ r.1∧∀ i∈ids,∃ p∈r.1,p.1=i
 | [],l,r,hr=>by
  simp only [A01,I4,Pg.run,Option.some.injEq]at hr
  subst hr
  exact⟨fun p hp=>absurd hp (by simp),fun i hi=>absurd hi (by simp)⟩
 | i :: ids,l,r,hr=>by
  simp only [A01,I4,Pg.run_bind,Pg.run]at hr
  cases hB:look σ.hp i with
  | none=>simp [hB,Pg.run]at hr
  | some B =>
   simp only [hB,Pg.run,Option.bind_some]at hr
   cases hm:(A01 ids).run (look σ.hp) (i :: l)with
   | none =>
    unfold A01 at hm
    rw[hm]at hr
    simp at hr
   | some q =>
    have hm':=hm
    unfold A01 at hm'
    rw[hm']at hr
    simp only [Option.bind_some,Option.some.injEq]at hr
    subst hr
    obtain⟨h1,h2⟩:=A3c ids _ q hm
    refine⟨fun p hp=>?_,fun j hj=>?_⟩
    ·rcases List.mem_cons.1 hp with rfl | hp
     ·exact⟨rfl,B,hB,rfl⟩
     ·exact h1 p hp
    ·rcases List.mem_cons.1 hj with rfl | hj
     ·exact⟨_,List.mem_cons_self,rfl⟩
     ·obtain⟨p,hp,e⟩:=h2 j hj
      exact⟨p,List.mem_cons_of_mem _ hp,e⟩
theorem N5{f:FuncId}{args:Array Value}(hf:E6 P f)(w:World):(callFunc f args).run P w=.ok (.enter f args) w:=by
 obtain⟨fn,h1,h2,h3⟩:=hf
 simp only [callFunc,Sem.run_bind,program,Sem.run,Result.andThen_ok,h1,h2,h3,Bool.false_eq_true,if_false]
 rfl
theorem As7(h:RelX E σ pl a w)(hd:∀ q,o.dst=some q→q < E.nt){f:FuncId}{avs:List AV}{vs:List Value}(hl:vs.length=avs.length)
  (hv:∀(j:Nat) (b:AV) (u:Value),avs[j]?=some b→vs[j]?=some u→RelV (look σ.hp) pl (SS E (look σ.hp) pl w) w b u)
  (hexec:E6 P f→(execOp a.eval o).run P w=.ok (.enter f vs.toArray) w)
  (hrun:(B6c P ov f avs).run (look σ.hp) []=some (eff,log)) (hobl:All eff.obl):Ok P E o a w (σ.app o.dst eff):=by
 unfold B6c at hrun
 rw[Pg.run_bind]at hrun
 cases hm:(I4 B03 avs).run (look σ.hp) []with
 | none=>rw[hm]at hrun;simp at hrun
 | some q =>
  rw[hm]at hrun
  simp only [Option.bind_some]at hrun
  obtain⟨m1,m2,m3⟩:=S4 (f:=B03) h (A8r h) avs vs [] q hl hv hm
  split at hrun
  ·simp [Pg.run]at hrun
  ·rename_i res hres
   split at hrun
   ·simp only [Pg.run,Option.some.injEq,Prod.mk.injEq]at hrun
    obtain⟨rfl,_⟩:=hrun
    obtain⟨o1,o2⟩:Flat res∧Con P f (q.1.map (fun p:AV×List Nat=>p.1)) res:=hobl
    obtain⟨hcl,hcon⟩:=o2
    intro K Q hK
    unfold Oper.wp
    rw[hexec hcl]
    have:=hcon w (fun k=>k < w.heap.size) vs (fun _ h=>h) (by simp [m1,hl]) (m3 _ (fun k hk=>hk.lt h.below) (fun i hi B hB hlv k hk=>(h.blk_lt hB hlv hk).2))
    refine this.mono fun e w' hr=>?_
    obtain⟨v,rfl,hrv,hb⟩:=hr
    obtain⟨g1,_,_⟩:=h.grow hb
    exact hK _ _ ⟨pl,g1.put o.dst hd (.pure _ _ (hrv.flat o1))⟩
   ·rw[Pg.run_bind]at hrun
    cases hg:(A01 (q.1.flatMap (·.2))).run (look σ.hp) q.2 with
    | none=>rw[hg]at hrun;simp at hrun
    | some q2 =>
     rw[hg]at hrun
     simp only [Option.bind_some,Pg.run,Option.some.injEq,Prod.mk.injEq]at hrun
     obtain⟨rfl,_⟩:=hrun
     obtain⟨hcl,hcon⟩:Con P f (q.1.map (fun p:AV×List Nat=>p.1)) res:=hobl
     obtain⟨hgone,hcov⟩:=A3c _ _ _ hg
     obtain⟨h',hSS,hE',hfree⟩:=h.giveUps _ hgone
     intro K Q hK
     unfold Oper.wp
     rw[hexec hcl]
     have:=hcon w (SS E (look (R6 σ.hp q2.1)) pl w) vs (fun k hk=>hk.lt h.below) (by simp [m1,hl]) (m3 _ hSS (fun i hi B hB hlv k hk=>by
      obtain⟨p,hp,rfl⟩:=hcov i hi
      exact hfree p hp B hB hlv k hk))
     refine this.mono fun e w' hr=>?_
     obtain⟨v,rfl,hrv,hb⟩:=hr
     obtain⟨g1,g2,g3⟩:=h'.grow hb
     refine hK _ _ ⟨pl,g1.put o.dst hd (.pure _ _ (hrv.mono (fun k hk=>?_) (fun _ _=>rfl)))⟩
     rcases hk with hk | hk
     ·exact g2 k hk
     ·exact g3 k hk.1 hk.2
theorem As8(h:RelX E σ pl a w){args:Array Operand}{avs:List AV}(hv:args.toList.mapM σ.ev=some avs) :
  (args.toList.map a.eval).length=avs.length∧∀(j:Nat) (b:AV) (u:Value),avs[j]?=some b→(args.toList.map a.eval)[j]?=some u→RelV (look σ.hp) pl (SS E (look σ.hp) pl w) w b u:=by
 obtain⟨n1,g1⟩:=P1 hv
 refine⟨by simp [n1],fun j b u hb hu=>?_⟩
 simp only [List.getElem?_map,Option.map_eq_some_iff]at hu
 obtain⟨x,hx,rfl⟩:=hu
 exact h.ev (g1 j x b hx hb)
theorem Ad9{S:Nat→Prop}{w:World}{x:AV}{u:Value}(hp:R8 x=true)(h:RelV0 S w x u):u=valA x:=by
 cases h <;> first | rfl | (simp [R8]at hp)
theorem A4w{S:Nat→Prop}{w:World}{x:AV}(hp:R8 x=true):RelV0 S w x (valA x):=by
 cases x <;> first | (simp [R8]at hp;done) | exact .b _ | exact .i _ _ | exact .s _
theorem A03{x:AV}(hp:R8 x=true):(valA x).oneCell'=true:=by
 cases x <;> first | (simp [R8]at hp;done) | rfl
theorem B6e.toG{f g:FuncId}{t:Nat}{cap:Bool}{ty sz:Nat}{rows rs:List (List AV)}(hsz:∀ r∈rows,r.length=sz)(h:B6e P f g t cap ty sz rows rs):Z5 P f g (some t) cap ty sz rows rs:=by
 obtain⟨h1,h2,h3,h4,h5,h6⟩:=h
 refine⟨h1,h2,h3,fun w base v cv S xs hS hb ho hx1 hxr hc=>?_⟩
 have hxs:xs=rows.flatten.map valA:=by
  apply List.ext_getElem?
  intro j
  by_cases hj:j < xs.length
  ·have hj':j < rows.flatten.length:=by rw[C5 hsz,← ho.1];exact hj
   rw[List.getElem?_eq_getElem hj,List.getElem?_map,List.getElem?_eq_getElem hj',Option.map_some]
   have:=hxr j _ _ (List.getElem?_eq_getElem hj') (List.getElem?_eq_getElem hj)
   rw[Ad9 (h4 _ (List.getElem_mem hj')) this]
  ·rw[List.getElem?_eq_none (by omega),List.getElem?_eq_none (by rw[List.length_map,C5 hsz,← ho.1];omega)]
 rw[hxs]at ho
 refine(h6 w base v cv ho hc).mono fun e w' hr=>?_
 obtain⟨g0,g1,g2,g3,g4,g5,g6⟩:=hr
 refine⟨g0,_,g1,fun u hu=>?_,fun j b u hb hu=>?_,g2,g3,g4,g5,g6⟩
 ·obtain⟨x,hx,rfl⟩:=List.mem_map.1 hu
  exact A03 (h5 x hx)
 ·rw[List.getElem?_map,hb,Option.map_some,Option.some.injEq]at hu
  rw[← hu]
  exact A4w (h5 b (List.mem_of_getElem? hb))
theorem ok_ioE(h:RelX E σ pl a w)(hd:∀ q,o.dst=some q→q < E.nt){f:FuncId}{avs:List AV}{vs:List Value}{rs:List (List AV)}(hl:vs.length=avs.length)
  (hv:∀(j:Nat) (b:AV) (u:Value),avs[j]?=some b→vs[j]?=some u→RelV (look σ.hp) pl (SS E (look σ.hp) pl w) w b u)
  (hexec:E6 P f→(execOp a.eval o).run P w=.ok (.enter f vs.toArray) w)
  (hrun:(ioE P f avs rs).run (look σ.hp) []=some (eff,log)) (hobl:All eff.obl):Ok P E o a w (σ.app o.dst eff):=by
 unfold ioE at hrun
 split at hrun
 ·rename_i x0 g cap
  split at hrun
  ·rename_i t id ver hio
   replace hrun:=D4 hrun
   obtain⟨B,hB,hver,hlive,hrun⟩:=hrun
   split at hrun
   ·rename_i sz rows hk
    -- the arguments
    obtain⟨v1,v2,rfl⟩:∃ v1 v2,vs=[v1,v2]:=by
     match vs,hl with
     | [v1,v2],_=>exact⟨v1,v2,rfl⟩
    have r1:=hv 0 _ v1 rfl rfl
    have r2:=hv 1 _ v2 rfl rfl
    have e1:v1=B1w t (pl id):=by
     unfold ioArg at hio
     split at hio
     ·simp only [Option.some.injEq,Prod.mk.injEq]at hio
      obtain⟨rfl,rfl,rfl⟩:=hio
      cases r1 with
      | pure _ _ h0=>cases h0 with
       | ifc _ _ u hu=>cases hu
      | ifc _ _ u hu=>simp only [B1w];rw[F2 hu hB hver hlive]
     ·simp only [Option.some.injEq,Prod.mk.injEq]at hio
      obtain⟨rfl,rfl,rfl⟩:=hio
      exact F2 r1 hB hver hlive
     ·cases hio
    obtain⟨cs,hcl,e2,hcr⟩:∃ cs:List Value,cs.length=cap.length∧v2=.func (.func g) #[] cs.toArray∧∀(j:Nat) (b:AV) (u:Value),cap[j]?=some b→cs[j]?=some u→RelV (look σ.hp) pl (SS E (look σ.hp) pl w) w b u:=by
     cases r2 with
     | pure _ _ h0=>cases h0 with
      | fn _ _ _ c1 c2 l1 l2 h1 h2 =>
       have:c1=[]:=List.eq_nil_of_length_eq_zero (by simpa using l1)
       subst this
       exact⟨c2,l2,rfl,fun j b u hb hu=>.pure _ _ (h2 j b u hb hu)⟩
     | fn _ _ _ c1 c2 l1 l2 h1 h2 =>
      have:c1=[]:=List.eq_nil_of_length_eq_zero (by simpa using l1)
      subst this
      exact⟨c2,l2,rfl,h2⟩
    obtain⟨hsz,xs,ho,hx1,hxr⟩:=h.rowCell hB hk
    -- the call,from its contract
    have key:∀ cp:Bool,Z5 P f g t cp B.ty sz rows rs→(cp=true→∃ gv,cs=[.pointer (some ⟨gv,0,none⟩)]∧gv < w.heap.size∧w.cell? ⟨gv,0,none⟩=some (pl id)∧blkOf (pl id)≠some gv)→(cp=false→cs=[]) →
      Ok P E o a w (σ.app o.dst { val:=.tup [],ups:=[(id,{ B with k:=.row sz rs })],obl:=[] }):=by
     intro cp hio hcap hncap
     obtain⟨hcall,hlen,hrsz,hio⟩:=hio
     have hcv:∃ cv,cs.toArray=(if cp then #[cv]else #[])∧(cp=true→∃ gv,cv=.pointer (some ⟨gv,0,none⟩)∧gv < w.heap.size∧w.cell? ⟨gv,0,none⟩=some (pl id)∧blkOf (pl id)≠some gv):=by
      cases cp with
      | true=>obtain⟨gv,q1,q2,q3,q4⟩:=hcap rfl;exact⟨.pointer (some ⟨gv,0,none⟩),by simp [q1],fun _=>⟨gv,rfl,q2,q3,q4⟩⟩
      | false=>exact⟨.bool false,by simp [hncap rfl],fun h=>by cases h⟩
     obtain⟨cv,q1,q2⟩:=hcv
     intro K Q hK
     unfold Oper.wp
     rw[hexec hcall]
     have hc:=hio w E.w0.heap.size (pl id) cv (SS E (look σ.hp) pl w) xs (fun k hk=>hk.lt h.below) (fun k hk hs=>by
      rcases hs with hs | ⟨_,_,hs⟩
      ·have:=(h.blk_lt hB hlive hk).1
       have:=E.hS0 k hs
       omega
      ·exact hs id B hB hlive hk) ho hx1 hxr q2
     rw[e1,e2,q1]
     refine hc.mono fun e w' hr=>?_
     obtain⟨rfl,xs',g1,g1a,g1b,g2,g3,g4,g5,g6⟩:=hr
     have hno:∀ k,blkOf (pl id)=some k→(w.heap.size≤k∧k < w'.heap.size)∨(∃ C,look σ.hp id=some C∧C.live=true∧blkOf (pl id)=some k):=fun k hk=>.inr ⟨B,hB,hlive,hk⟩
     have hch:=h.chg (w':=w') id { B with k:=.row sz rs } (pl id) (.inr ⟨B,hB,hlive,rfl,by funext r c;simp [Blk.off,hk],rfl,by simp [Blk.len,hk,hlen]⟩)
      (fun k hk hne=>g2 k hk (hne B hB hlive)) g3 g4 g5 g6 hno
      ⟨hrsz,xs',by rw[hlen];exact g1,g1a,g1b⟩
     have epl:D8 pl id (pl id)=pl:=by funext i;unfold D8;split <;> simp_all
     rw[epl]at hch
     exact hK _ _ ⟨pl,hch.1.put o.dst hd (.pure _ _ (.tup [] [] rfl (fun j b u hb hu=>by simp at hb)))⟩
    split at hrun
    ·simp only [Pg.run,Option.some.injEq,Prod.mk.injEq]at hrun
     obtain⟨rfl,_⟩:=hrun
     exact key false hobl (fun h=>by cases h) (fun _=>List.eq_nil_of_length_eq_zero (by simpa using hcl))
    ·rename_i idv verv
     replace hrun:=D4 hrun
     obtain⟨C,hC,hverC,hliveC,hrun⟩:=hrun
     split at hrun
     ·rename_i x cells hkC
      simp only [Pg.run,Option.some.injEq,Prod.mk.injEq]at hrun
      obtain⟨rfl,_⟩:=hrun
      obtain⟨hx,hio⟩:x=.own id ver∧Z5 P f g t true B.ty sz rows rs:=hobl
      obtain⟨c0,rfl⟩:∃ c0,cs=[c0]:=by
       match cs,hcl with
       | [c0],_=>exact⟨c0,rfl⟩
      obtain⟨gv,hgv,ec⟩:=K1 (hcr 0 _ c0 rfl rfl) hC hverC hliveC
      obtain⟨gv',us,u1,u2,u3,u4,u5⟩:=h.varCell hC hkC
      have hgg:gv'=gv:=by rw[u1]at hgv;simpa [blkOf]using hgv
      subst hgg
      have hne:id≠idv:=by
       intro e
       subst e
       rw[hB]at hC
       simp only [Option.some.injEq]at hC
       subst hC
       rw[hk]at hkC
       cases hkC
      have hus:0 < us.size:=by rw[u3];simp
      have hcell:=u5 0 x us[0] rfl (by simp [hus])
      rw[hx]at hcell
      have hval:=F2 hcell hB hver hlive
      refine key true hio (fun _=>⟨gv',by rw[ec];simp [Blk.off,hkC],?_,?_,?_⟩) (fun h=>by cases h)
      ·exact(Array.getElem?_eq_some_iff.1 u2).1
      ·simp [World.cell?,u2,hus,← hval]
      ·intro hb
       exact h.dist id idv B C hB hC hlive hliveC hne gv' hb hgv
     ·simp [Pg.run]at hrun
    ·simp [Pg.run]at hrun
   ·simp [Pg.run]at hrun
  ·simp [Pg.run]at hrun
 ·simp [Pg.run]at hrun
theorem As9(h:RelX E σ pl a w)(hd:∀ q,o.dst=some q→q < E.nt){f:FuncId}{avs:List AV}{vs:List Value}{d ty:Nat}{k:BK}{mk:Nat→AV}(hdst:o.dst=some d)
  (hmk:((∃ sz rows,k=.row sz rows)∧mk=fun v=>.own d v)∨((∃ cells,k=.arr cells)∧mk=fun v=>.ptr d v 0 0)) (hl:vs.length=avs.length)
  (hv:∀(j:Nat) (b:AV) (u:Value),avs[j]?=some b→vs[j]?=some u→RelV (look σ.hp) pl (SS E (look σ.hp) pl w) w b u)
  (hexec:E6 P f→(execOp a.eval o).run P w=.ok (.enter f vs.toArray) w)
  (hrun:(B6f P d ty k mk f avs).run (look σ.hp) []=some (eff,log)) (hobl:All eff.obl):Ok P E o a w (σ.app o.dst eff):=by
 unfold B6f at hrun
 rw[Pg.run_bind]at hrun
 cases hm:(I4 B03 avs).run (look σ.hp) []with
 | none=>rw[hm]at hrun;simp at hrun
 | some q =>
  rw[hm]at hrun
  simp only [Option.bind_some]at hrun
  obtain⟨m1,m2,m3⟩:=S4 (f:=B03) h (A8r h) avs vs [] q hl hv hm
  rw[Pg.run_bind]at hrun
  cases hg:(A01 (q.1.flatMap (·.2))).run (look σ.hp) q.2 with
  | none=>rw[hg]at hrun;simp at hrun
  | some q2 =>
   rw[hg]at hrun
   simp only [Option.bind_some]at hrun
   rw[Pg.run_bind]at hrun
   cases hk:(mkB d ty k mk [A48 P f (q.1.map (·.1)) ty k]).run (look σ.hp) q2.2 with
   | none=>rw[hk]at hrun;simp at hrun
   | some q3 =>
    rw[hk]at hrun
    simp only [Option.bind_some,Pg.run,Option.some.injEq,Prod.mk.injEq]at hrun
    obtain⟨ver,hver,he⟩:=Q3 hk
    obtain⟨rfl,_⟩:=hrun
    rw[he]at hobl
    rw[he]
    simp only
    obtain⟨hcl,hcon⟩:A48 P f (q.1.map (fun p:AV×List Nat=>p.1)) ty k:=hobl
    obtain⟨hgone,hcov⟩:=A3c _ _ _ hg
    obtain⟨h',hSS,hE',hfree⟩:=h.giveUps _ hgone
    have hn':∀ C,look (R6 σ.hp q2.1) d=some C→C.ver < ver:=by
     intro C hC
     rcases N4 q2.1 σ.hp d with⟨p,hp',e1,e2⟩ | ⟨_,e2⟩
     ·obtain⟨_,B,hB,hv⟩:=hgone p hp'
      rw[e2]at hC
      simp only [Option.some.injEq]at hC
      rw[e1]at hB
      rw[← hC,← hv]
      exact hver B hB
     ·rw[e2]at hC;exact hver C hC
    intro K Q hK
    unfold Oper.wp
    rw[hexec hcl]
    have:=hcon w (SS E (look (R6 σ.hp q2.1)) pl w) vs (fun k hk=>hk.lt h.below) (by simp [m1,hl]) (m3 _ hSS (fun i hi B hB hlv k hk=>by
     obtain⟨p,hp,rfl⟩:=hcov i hi
     exact hfree p hp B hB hlv k hk))
    refine this.mono fun e w' hr=>?_
    obtain⟨v,rfl,hrv,hb⟩:=hr
    have hS1:∀(j:Nat) (b:AV) (u:Value),RelV0 (fun b=>(SS E (look (R6 σ.hp q2.1)) pl w b∨(w.heap.size≤b∧b < w'.heap.size))∧blkOf v≠some b) w' b u →
      RelV0 (fun k=>SS E (look (R6 σ.hp q2.1)) pl w k∨(w.heap.size≤k∧k < w'.heap.size∧blkOf v≠some k)) w' b u:=fun j b u hu=>hu.mono (fun k hk=>by
       rcases hk with⟨hk | hk,hne⟩
       ·exact .inl hk
       ·exact .inr ⟨hk.1,hk.2,hne⟩) (fun _ _=>rfl)
    have hone:v.oneCell'=true:=by
     rcases hmk with⟨⟨sz,rows,rfl⟩,_⟩ | ⟨⟨cells,rfl⟩,_⟩
     ·obtain⟨_,xs,ho,_⟩:=hrv
      rcases ho.2 with⟨rfl,_⟩ | ⟨g,cap,cur,rfl,_⟩ <;> rfl
     ·obtain⟨g,vs',rfl,_⟩:=hrv
      rfl
    have hnew:=h'.newS hb d ⟨ver,ty,k⟩ v hn' (by
     intro j hj
     rcases hmk with⟨⟨sz,rows,rfl⟩,_⟩ | ⟨⟨cells,rfl⟩,_⟩
     ·obtain⟨_,xs,ho,_⟩:=hrv
      rcases ho.2 with⟨rfl,_⟩ | ⟨g,cap,cur,rfl,g1,g2,_⟩
      ·simp [blkOf]at hj
      ·simp [blkOf]at hj
       subst hj
       exact⟨g1,(Array.getElem?_eq_some_iff.1 g2).1⟩
     ·obtain⟨g,vs',rfl,g1,g2,_⟩:=hrv
      simp [blkOf]at hj
      subst hj
      exact⟨g1,(Array.getElem?_eq_some_iff.1 g2).1⟩) (by
     rcases hmk with⟨⟨sz,rows,rfl⟩,_⟩ | ⟨⟨cells,rfl⟩,_⟩
     ·obtain⟨c1,xs,ho,c2,c3⟩:=hrv
      refine⟨c1,xs,⟨ho.1,?_⟩,c2,fun j b u hb' hu'=>hS1 j b u (c3 j b u hb' hu')⟩
      rcases ho.2 with hn | ⟨g,cap,cur,e1,e2,e3⟩
      ·exact .inl hn
      ·exact .inr ⟨g,cap,cur,e1,Nat.le_trans h.below.size e2,e3⟩
     ·obtain⟨g,vs',e1,g1,g2,g3,g4,g5⟩:=hrv
      exact⟨g,vs',e1,Nat.le_trans h.below.size g1,g2,g3,g4,fun j b u hb' hu'=>hS1 j b u (g5 j b u hb' hu')⟩)
    refine hK _ _ ⟨D8 pl d v,?_⟩
    have hval:RelV (look (Go.E.put (R6 σ.hp q2.1) d ⟨ver,ty,k⟩)) (D8 pl d v) (SS E (look (Go.E.put (R6 σ.hp q2.1) d ⟨ver,ty,k⟩)) (D8 pl d v) w') w' (mk ver) v:=by
     rcases hmk with⟨⟨sz,rows,rfl⟩,rfl⟩ | ⟨⟨cells,rfl⟩,rfl⟩
     ·exact .own d ver v ⟨ver,ty,.row sz rows⟩ (by simp [C8]) (Nat.le_refl _) hone fun _ _=>by simp [D8]
     ·obtain⟨g,vs',rfl,_⟩:=hrv
      exact .ptr d ver 0 0 _ ⟨ver,ty,.arr cells⟩ (by simp [C8]) (Nat.le_refl _) rfl fun _ _=>⟨g,by simp [D8,blkOf],by simp [Blk.off]⟩
    have:=hnew.put o.dst hd hval
    unfold St.app
    simp only [List.foldl_append]
    exact this
theorem B6q(h:RelX E σ pl a w)(hd:∀ q,o.dst=some q→q < E.nt){f:FuncId}{avs:List AV}{vs:List Value}{rs:List (List AV)}(hl:vs.length=avs.length)
  (hv:∀(j:Nat) (b:AV) (u:Value),avs[j]?=some b→vs[j]?=some u→RelV (look σ.hp) pl (SS E (look σ.hp) pl w) w b u)
  (hexec:E6 P f→(execOp a.eval o).run P w=.ok (.enter f vs.toArray) w)
  (hrun:(Bg0 P f avs rs).run (look σ.hp) []=some (eff,log)) (hobl:All eff.obl):Ok P E o a w (σ.app o.dst eff):=by
 unfold Bg0 at hrun
 split at hrun
 ·rename_i id ver rest
  replace hrun:=D4 hrun
  obtain⟨B,hB,hver,hlive,hrun⟩:=hrun
  split at hrun
  ·rename_i sz rows hk
   obtain⟨v,ws,rfl⟩:∃ v ws,vs=v :: ws:=by
    match vs,hl with
    | v :: ws,_=>exact⟨v,ws,rfl⟩
   have hlw:ws.length=rest.length:=by simpa using hl
   rw[Pg.run_bind]at hrun
   cases hm:(I4 B03 rest).run (look σ.hp) [id]with
   | none=>rw[hm]at hrun;simp at hrun
   | some q =>
    rw[hm]at hrun
    simp only [Option.bind_some]at hrun
    obtain⟨m1,m2,m3⟩:=S4 (f:=B03) h (A8r h) rest ws [id] q hlw (fun j b u hb hu=>hv (j+1) b u (by simpa using hb) (by simpa using hu)) hm
    replace hrun:=F9 hrun
    obtain⟨hemp,hrun⟩:=hrun
    simp only [Pg.run,Option.some.injEq,Prod.mk.injEq]at hrun
    obtain⟨rfl,_⟩:=hrun
    obtain⟨hcl,hrsz,hcon⟩:Bs9 P f B.ty sz rows (q.1.map (fun p:AV×List Nat=>p.1)) rs:=hobl
    obtain⟨hsz,xs,ho,hx1,hxr⟩:=h.rowCell hB hk
    have e1:v=pl id:=F2 (hv 0 _ v rfl rfl) hB hver hlive
    subst e1
    have hno:∀ i,i∈q.1.flatMap (·.2)→False:=fun i hi=>by
     rw[List.isEmpty_iff]at hemp
     rw[hemp]at hi
     cases hi
    intro K Q hK
    unfold Oper.wp
    rw[hexec hcl]
    have hc:=hcon w E.w0.heap.size (pl id) (SS E (look σ.hp) pl w) xs ws h.below.size (fun k hk=>hk.lt h.below) (fun k hk hs=>by
     rcases hs with hs | ⟨_,_,hs⟩
     ·have:=(h.blk_lt hB hlive hk).1
      have:=E.hS0 k hs
      omega
     ·exact hs id B hB hlive hk) ho hx1 hxr (by simp [m1,hlw]) (m3 _ (fun k hk=>hk) (fun i hi=>(hno i hi).elim))
    refine hc.mono fun e w' hr=>?_
    obtain⟨v',xs',rfl,g1,g2,g3,hg,hat⟩:=hr
    have hheap:∀ k,k < w.heap.size→(∀ C,look σ.hp id=some C→C.live=true→blkOf (pl id)≠some k)→w'.heap[k]?=w.heap[k]?:=by
     intro k hk hne
     refine hg.block k hk fun e=>?_
     exact hne B hB hlive e.symm
    have hrel:BlkRel E.w0.heap.size (look σ.hp) pl (fun b=>SS E (look σ.hp) pl w b∨(((w.heap.size≤b∧b < w'.heap.size)∨blkOf (pl id)=some b)∧blkOf v'≠some b)) w' v' ⟨ver+1,B.ty,.row sz rs⟩:=⟨hrsz,xs',g1,g2,g3⟩
    have hcc:=(h.chgS id ⟨ver+1,B.ty,.row sz rs⟩ v' _ (fun b hb=>hb.elim .inl fun hb=>.inr ⟨hb.1.elim .inl fun e=>.inr ⟨B,hB,hlive,e⟩,hb.2⟩) (.inl (fun C hC=>by rw[hB]at hC;simp only [Option.some.injEq]at hC;subst hC;show B.ver < ver+1;omega)) hheap hg.os hg.tape hg.output hg.size (fun k hk=>by
     rcases hat k hk with hat | hat
     ·exact .inr ⟨B,hB,hlive,hat⟩
     ·exact .inl hat) hrel).1
    have h1:v'.oneCell'=true:=by
     rcases g1.2 with⟨e0,_⟩ | ⟨g,cap,cur,e0,_⟩ <;> rw[e0] <;> rfl
    exact hK _ _ ⟨D8 pl id v',hcc.put o.dst hd (.own id (ver+1) _ ⟨ver+1,B.ty,.row sz rs⟩ (by simp [C8]) (Nat.le_refl _) h1 (fun _ _=>by simp [D8]))⟩
  ·simp [Pg.run]at hrun
 ·simp [Pg.run]at hrun
theorem B6r(h:RelX E σ pl a w)(hd:∀ q,o.dst=some q→q < E.nt){f:FuncId}{avs:List AV}{vs:List Value}(hl:vs.length=avs.length)
  (hv:∀(j:Nat) (b:AV) (u:Value),avs[j]?=some b→vs[j]?=some u→RelV (look σ.hp) pl (SS E (look σ.hp) pl w) w b u)
  (hexec:E6 P f→(execOp a.eval o).run P w=.ok (.enter f vs.toArray) w)
  (hrun:(Bg1 P ov o.dst f avs).run (look σ.hp) []=some (eff,log)) (hobl:All eff.obl):Ok P E o a w (σ.app o.dst eff):=by
 unfold Bg1 at hrun
 split at hrun
 ·exact B6q h hd hl hv hexec hrun hobl
 ·rename_i d _ hdst
  exact As9 h hd hdst (.inl ⟨⟨_,_,rfl⟩,rfl⟩) hl hv hexec hrun hobl
 ·rename_i d _ hdst
  exact As9 h hd hdst (.inr ⟨⟨_,rfl⟩,rfl⟩) hl hv hexec hrun hobl
 ·split at hrun
  ·exact ok_ioE h hd hl hv hexec hrun hobl
  ·exact As7 h hd hl hv hexec hrun hobl
theorem Bg6(h:RelX E σ pl a w)(hd:∀ q,o.dst=some q→q < E.nt)(c:Operand)(args:Array Operand)(ts:Array TypeId)(ho:o.op=.call { callee:=.value c,args:=args,argTypes:=ts })
  (hrun:(C4 P T ov o σ.ev).run (look σ.hp) []=some (eff,log)) (hobl:All eff.obl):Ok P E o a w (σ.app o.dst eff):=by
 simp only [C4,ho]at hrun
 cases c with
 | func f =>
  simp only at hrun
  split at hrun
  ·rename_i avs hvs
   obtain⟨l1,l2⟩:=As8 h hvs
   refine B6r h hd l1 l2 (fun hf=>?_) hrun hobl
   have:(args.toList.map a.eval).toArray=args.map a.eval:=by rw[← Array.toList_map,Array.toArray_toList]
   simp only [execOp,ho,resolve,Act.eval,Deferred.ofValue,Sem.run_bind,Sem.run_pure,Result.andThen_ok,invoke,Array.append_empty,Array.empty_append,N5 hf]
   rw[this]
  ·simp [Pg.run]at hrun
 | tmp t =>
  simp only at hrun
  split at hrun
  ·rename_i f first cap avs hf0 hvs
   obtain⟨l1,l2⟩:=As8 h hvs
   have hr:=h.ev hf0
   obtain⟨v1,v2,n1,n2,hfv,r1,r2⟩:∃(v1 v2:List Value),v1.length=first.length∧v2.length=cap.length∧a.eval (.tmp t)=.func (.func f) v1.toArray v2.toArray ∧
     (∀(j:Nat) (b:AV) (u:Value),first[j]?=some b→v1[j]?=some u→RelV (look σ.hp) pl (SS E (look σ.hp) pl w) w b u) ∧
     (∀(j:Nat) (b:AV) (u:Value),cap[j]?=some b→v2[j]?=some u→RelV (look σ.hp) pl (SS E (look σ.hp) pl w) w b u):=by
    generalize a.eval (.tmp t)=v at hr
    cases hr with
    | pure _ _ h0 =>
     cases h0 with
     | fn _ _ _ v1 v2 l1 l2 h1 h2=>exact⟨v1,v2,l1,l2,rfl,fun j b u hb hu=>.pure _ _ (h1 j b u hb hu),fun j b u hb hu=>.pure _ _ (h2 j b u hb hu)⟩
    | fn _ _ _ v1 v2 l1 l2 h1 h2=>exact⟨v1,v2,l1,l2,rfl,h1,h2⟩
   refine As7 (vs:=v1++args.toList.map a.eval++v2) h hd (by simp at l1 ⊢;omega) (fun j b u hb hu=>?_) (fun hf=>?_) hrun hobl
   ·have e1:(first++avs).length=(v1++args.toList.map a.eval).length:=by simp only [List.length_append];omega
    by_cases h1:j <(first++avs).length
    ·rw[List.getElem?_append_left h1]at hb
     rw[List.getElem?_append_left (by omega)]at hu
     by_cases h2:j < first.length
     ·rw[List.getElem?_append_left h2]at hb
      rw[List.getElem?_append_left (by omega)]at hu
      exact r1 j b u hb hu
     ·rw[List.getElem?_append_right (by omega)]at hb
      rw[List.getElem?_append_right (by omega),n1]at hu
      exact l2 _ b u hb hu
    ·rw[List.getElem?_append_right (by omega)]at hb
     rw[List.getElem?_append_right (by omega),← e1]at hu
     exact r2 _ b u hb hu
   ·have:(args.toList.map a.eval).toArray=args.map a.eval:=by rw[← Array.toList_map,Array.toArray_toList]
    simp only [execOp,ho,resolve,hfv,Deferred.ofValue,Sem.run_bind,Sem.run_pure,Result.andThen_ok,invoke,N5 hf]
    rw[← this]
    simp
  ·simp [Pg.run]at hrun
 | const v=>simp [Pg.run]at hrun
 | global g=>simp [Pg.run]at hrun
end
end Go.E
