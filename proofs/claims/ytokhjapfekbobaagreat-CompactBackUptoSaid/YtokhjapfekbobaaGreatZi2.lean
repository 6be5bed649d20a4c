/- EX: each operation of the model does what exec1 says (tenth part: maps whose keys are texts). Conditions: none. EE: regions: in the order of the text, and in whatever order the model draws. Conditions: none. EF: a region in whatever order the model draws: what is read and written by two of its operations that are not bound does not meet. Conditions: none. EG: a region in whatever order the model draws, the law. Conditions: none. EH: control: sequences, branches, blocks, loops; states made narrower; a function's contract from its body. Conditions: none. EI: laws for the walk as the tactics use it; what is told of an operation. Conditions: none. Wa: the types of the program that the walks meet, as a table. Conditions: none. EP: the laws of a walk that is written out: the code is never written: it is read out of the function by its parts. Conditions: none. ER: contracts of calls that hand back memory of their own, from a walk. Conditions: none. EU: an array of slices that grow: its cells are rows of one's own. Conditions: none. EM: what is handed in, read as values that nobody writes: ints, bools, strings, and slices, structs and arrays of such. Conditions: the type is 'plainT'. EO: '==' of two structs or arrays of ints, bools and strings, in one step. Conditions: the type is 'flatT', the cells are of it. Ba: the values of the Go types, and some words on lists. Conditions: none. ES: the stable sort's pieces in plain words: rows turned round, runs swapped, two sorted runs merged by turning. Conditions: 'lt' a strict weak order. ET1: the worlds that a sort passes through: the row laid, new blocks behind, some draws on. Conditions: none. ET2: a row of one's own that has been put into another order: what the world keeps, what the row holds. Conditions: none. Pa: slices.SortFunc at runs: a row of one's own is put into the order of the beginnings. Conditions: each run begins between 1 and 1000000000. Pb: span: clip, and add (a row of the caller's own, handed back). Conditions: ends up to 1000000000; sizes. Pc: span: Union and Norm. Conditions: sizes. -/
import Derived.Below
import Derived.OwnWalk
import Derived.WalkKit
import Derived.KernelRfl
import Derived.Laws.MakeOwn
import Derived.Laws.OwnMore
import Derived.Laws.Slices
import Derived.Laws.CopyOwn
import Derived.Laws.AppendOwnNone
import Derived.Laws.Rows
import Derived.Orders
import Derived.Test.YtokhjapfekbobaaGreatProg
import Derived.DataReads
import Derived.ChangeOld
import Derived.DataElems
import Derived.SizedLaws
import Derived.ChangeKeysEq
import Derived.Sort.LotA
import Derived.Shelf.SlSortFuncK.RowK2
import Derived.Shelf.SlSortCmp.NoneTotal
import Derived.Lib.Walk
import Derived.Test.YtokhjapfekbobaaGreatZi1
set_option linter.unusedVariables false
set_option linter.unusedSimpArgs false
set_option linter.unusedSectionVars false
namespace Go.E
open Go.RowKit
section
variable {P : Program} {E : Env} {T : Tab} {ov : Ov} {o : Oper} {σ : St} {pl : Nat → Value} {a : Act} {w : World} {eff : Eff} {log : List Nat}
theorem B08(h:RelX E σ pl a w)(hd:∀ q,o.dst=some q→q < E.nt)(t:TypeId)(r:Option Operand)(ho:o.op=.makeMap t r)
  (hrun:(C4 P T ov o σ.ev).run (look σ.hp) []=some (eff,log)):Ok P E o a w (σ.app o.dst eff):=by
 cases r with
 | some r=>simp [C4,ho,Pg.run]at hrun
 | none =>
  simp only [C4,ho]at hrun
  split at hrun
  ·rename_i d hdst
   obtain⟨ver,hver,e⟩:=Q3 hrun
   simp only at e
   subst e
   have hr:(execOp a.eval o).run P w=.ok (.value (.map (some w.heap.size))) (w.alloc (.map #[] 0)):=by simp [execOp,ho,Instr.makeMap,newObj,Sem.run]
   refine .new (u:=.map (some w.heap.size)) h hd hdst hr (R9 w _) hver (fun k hk=>?_) ?_ (.own d ver _ ⟨ver,t,.map []⟩ (by simp [C8]) (Nat.le_refl _) rfl fun _ _=>by simp [D8])
   ·simp [blkOf]at hk;subst hk;simp
   ·exact⟨w.heap.size,#[],rfl,h.below.size,heap_alloc_new w _,rfl,fun j r hj=>by simp at hj⟩
  ·simp [Pg.run]at hrun
theorem B6s(hT:TabOk P T)(h:RelX E σ pl a w)(hd:∀ q,o.dst=some q→q < E.nt)(t:TypeId)(x:Operand)(ho:o.op=.range t x)
  (hrun:(C4 P T ov o σ.ev).run (look σ.hp) []=some (eff,log)):Ok P E o a w (σ.app o.dst eff):=by
 simp only [C4,ho]at hrun
 split at hrun
 ·rename_i d ti id ver hdst ht hx
  split at hrun
  ·rename_i kt et hdesc
   replace hrun:=D4 hrun
   obtain⟨B,hB,hv,hl,hrun⟩:=hrun
   split at hrun
   ·rename_i rows hk
    obtain⟨ver',hver,e⟩:=Q3 hrun
    simp only at e
    subst e
    have u:=und hT ht w
    rw[hdesc]at u
    have he:=F2 (h.ev hx) hB hv hl
    have hb:=h.blks id B hB
    unfold BlkRel at hb
    rw[hk]at hb
    obtain⟨g,es,e1,_,e2,e3,_⟩:=hb
    rw[e1]at he
    have hr:(execOp a.eval o).run P w=.ok (.value (.pointer (some ⟨w.heap.size,0,none⟩))) (w.alloc (.mapIter (some g) rows.length #[] rows.length)):=by
     simp [execOp,ho,Instr.range,u,he,getObj,newObj,Sem.run,e2]
    have hb':=R9 w (.mapIter (some g) rows.length #[] rows.length)
    refine .new (u:=.pointer (some ⟨w.heap.size,0,none⟩)) h hd hdst hr hb' hver (fun k hk=>?_) ?_ (.own d ver' _ ⟨ver',t,.iter (.own id ver) rows.length []⟩ (by simp [C8]) (Nat.le_refl _) rfl fun _ _=>by simp [D8])
    ·simp [blkOf]at hk;subst hk;simp
    ·refine⟨w.heap.size,g,rfl,h.below.size,heap_alloc_new w _,?_⟩
     have:=h.ev hx
     rw[he]at this
     exact this.mono (Al5.refl _ _) (fun _ hk=>hk) (fun k hk=>hb'.block k (hk.lt h.below))
   ·simp [Pg.run]at hrun
  ·simp [Pg.run]at hrun
 ·simp [Pg.run]at hrun
theorem B22(x y:ByteArray):(x == y)=true↔x=y:=by
 cases x with | mk a=>cases y with | mk b =>
 show(a == b)=true↔_
 rw[beq_iff_eq]
 exact⟨fun h=>by rw[h],fun h=>by cases h;rfl⟩
theorem A4x{S:Nat→Prop}(k:ByteArray):∀(rows:List (List AV)) (es:List MapEntry) (i:Nat),es.length=rows.length →
  (∀(j:Nat) (r:List AV),rows[j]?=some r→∃ x b e,r=[.s x,b]∧es[j]?=some e∧e.key=.string x∧RelV0 S w b e.val) →
  (Instr.findNow .string (.string k) es i=some none∧A6x k rows=none∧∀ v,A47 k v rows=rows++[[.s k,v]]) ∨
  (∃ p b e,Instr.findNow .string (.string k) es i=some (some (i+p,e.val))∧A6x k rows=some b∧es[p]?=some e∧e.key=.string k∧p < rows.length∧RelV0 S w b e.val∧∀ v,A47 k v rows=rows.set p [.s k,v])
 | [],[],i,_,_=>.inl ⟨rfl,rfl,fun v=>rfl⟩
 | [],e :: es,i,hl,_=>by simp at hl
 | r :: rows,[],i,hl,_=>by simp at hl
 | r :: rows,e :: es,i,hl,h=>by
  obtain⟨x,b,e',h1,h2,h3,h4⟩:=h 0 r rfl
  have:e'=e:=by simpa using h2.symm
  subst this
  subst h1
  by_cases hk:x=k
  ·subst hk
   refine .inr ⟨0,b,e',?_,?_,rfl,h3,by simp,h4,fun v=>?_⟩
   ·rw[Instr.findNow,h3]
    have:(x == x)=true:=(B22 x x).2 rfl
    simp [Instr.sameNow,this]
   ·simp [A6x,B04]
   ·simp [A47,B04]
  ·have ih:=A4x k rows es (i+1) (by simpa using hl) fun j r hj=>by
    obtain⟨x,b,e,q1,q2,q3,q4⟩:=h (j+1) r (by simpa using hj)
    exact⟨x,b,e,q1,by simpa using q2,q3,q4⟩
   have hne:(k == x)=false:=by
    rw[Bool.eq_false_iff]
    intro hc
    exact hk ((B22 k x).1 hc).symm
   have hf:Instr.findNow .string (.string k) (e' :: es) i=Instr.findNow .string (.string k) es (i+1):=by
    rw[Instr.findNow,h3]
    simp [Instr.sameNow,hne]
   have hm:A6x k ([.s x,b] :: rows)=A6x k rows:=by simp [A6x,B04,hk]
   have hp:∀ v,A47 k v ([.s x,b] :: rows)=[.s x,b] :: A47 k v rows:=fun v=>by simp [A47,B04,hk]
   rcases ih with⟨i1,i2,i3⟩ | ⟨p,b',e,i1,i2,i3,i4,i5,i6,i7⟩
   ·exact .inl ⟨by rw[hf,i1],by rw[hm,i2],fun v=>by rw[hp,i3];rfl⟩
   ·exact .inr ⟨p+1,b',e,by rw[hf,i1];congr 3;omega,by rw[hm,i2],by simpa using i3,i4,by simpa using i5,i6,fun v=>by rw[hp,i7];rfl⟩
theorem B6t{t:Nat}{za:AV}(hz:As1 P t za)(S:Nat→Prop)(w:World):∃ z:Value,(zeroValue t).run P w=.ok z w∧RelV0 S w za z:=by
 unfold As1 at hz
 cases hi:P.info? t with
 | none=>rw[hi]at hz;cases hz
 | some i =>
  rw[hi]at hz
  cases hzz:i.zero with
  | none=>simp [hzz]at hz
  | some z =>
   simp only [Option.bind_some,hzz]at hz
   exact⟨z,by simp [zeroValue,typeInfo,hi,hzz,Sem.run],A4p hz⟩
theorem A3p{kt:TypeId}{k:ByteArray}(em:Bool)(w:World)(uk:(underlying kt).run P w=.ok .string w)(n:Nat):(Instr.checkKey em (n+1) kt (.string k)).run P w=.ok () w:=by
 simp [Instr.checkKey,uk]
theorem Ae0:∀(l:List MapEntry) (off j:Nat) (e:MapEntry),(∀ i x,l[i]?=some x→x.born=off+i)→l[j]?=some e→l.find? (fun x=>x.born == off+j)=some e
 | [],off,j,e,_,h=>by simp at h
 | x :: l,off,0,e,hb,h=>by
  have:x=e:=by simpa using h
  subst this
  rw[List.find?_cons_of_pos]
  have:=hb 0 x rfl
  simpa using this
 | x :: l,off,j+1,e,hb,h=>by
  have hx:=hb 0 x rfl
  rw[List.find?_cons_of_neg]
  ·have:=Ae0 l (off+1) j e (fun i y hy=>by have:=hb (i+1) y (by simpa using hy);omega) (by simpa using h)
   rw[show off+(j+1)=off+1+j by omega]
   exact this
  ·simp only [beq_iff_eq]
   omega
theorem RelX.mapAt(h:RelX E σ pl a w){id:Nat}{B:Blk}{rows:List (List AV)}(hB:look σ.hp id=some B)(hk:B.k=.map rows) :
  ∃ g es,pl id=.map (some g)∧E.w0.heap.size≤g∧w.heap[g]?=some (.map es rows.length)∧es.size=rows.length ∧
   ∀(j:Nat) (r:List AV),rows[j]?=some r→∃ x b e,r=[.s x,b]∧es[j]?=some e∧e.born=j∧e.key=.string x∧RelV0 (SS E (look σ.hp) pl w) w b e.val:=by
 have hb:=h.blks id B hB
 unfold BlkRel at hb
 rw[hk]at hb
 exact hb
theorem B24(hT:TabOk P T)(h:RelX E σ pl a w)(hd:∀ q,o.dst=some q→q < E.nt)(t:TypeId)(x k:Operand)(ok:Bool)(ho:o.op=.lookup t x k ok)
  (hrun:(C4 P T ov o σ.ev).run (look σ.hp) []=some (eff,log)) (hobl:All eff.obl):Ok P E o a w (σ.app o.dst eff):=by
 simp only [C4,ho]at hrun
 split at hrun
 ·rename_i ti id ver key ht hx hkx
  split at hrun
  ·rename_i kt et hdesc
   split at hrun
   ·rename_i tk te htk hte
    split at hrun
    ·rename_i hks
     replace hrun:=D4 hrun
     obtain⟨B,hB,hv,hl,hrun⟩:=hrun
     split at hrun
     ·rename_i rows hk
      simp only [Pg.run,Option.some.injEq,Prod.mk.injEq]at hrun
      obtain⟨rfl,_⟩:=hrun
      have u:=und hT ht w
      rw[hdesc]at u
      have uk:=und hT htk w
      rw[hks]at uk
      have ek:=E3 (h.ev hkx) rfl
      have he:=F2 (h.ev hx) hB hv hl
      obtain⟨g,es,e1,_,e2,e3,e4⟩:=h.mapAt hB hk
      rw[e1]at he
      have o1:As1 P et (B6d te):=hobl
      obtain⟨z,hz,hzr⟩:=B6t o1 (SS E (look σ.hp) pl w) w
      have hfind:=A4x key rows es.toList 0 (by simpa using e3) fun j r hj=>by
       obtain⟨x,b,e,q1,q2,_,q3,q4⟩:=e4 j r hj
       exact⟨x,b,e,q1,by simpa using q2,q3,q4⟩
      have hck:=fun em:Bool=>A3p (k:=key) em w uk 9999
      rcases hfind with⟨f1,f2,_⟩ | ⟨p,b,e,f1,f2,_,_,_,f3,_⟩
      ·cases ok with
       | true =>
        refine .pure h hd (v:=.tuple #[z,.bool false]) ?_ (.pure _ _ (.tup [_,_] [_,_] rfl fun j c u hc hu=>?_))
        ·simp [execOp,ho,Instr.lookup,u,he,ek,getObj,Sem.run,e2,hck,Instr.findKey,uk,f1,hz]
        ·match j with
         | 0=>simp at hc hu;subst hc hu;simpa [Bs8,f2]using hzr
         | 1=>simp at hc hu;subst hc hu;rw[f2];exact .b _
         | j+2=>simp at hc
       | false =>
        refine .pure h hd (v:=z) ?_ (.pure _ _ (by simpa [Bs8,f2]using hzr))
        simp [execOp,ho,Instr.lookup,u,he,ek,getObj,Sem.run,e2,hck,Instr.findKey,uk,f1,hz]
      ·cases ok with
       | true =>
        refine .pure h hd (v:=.tuple #[e.val,.bool true]) ?_ (.pure _ _ (.tup [_,_] [_,_] rfl fun j c u hc hu=>?_))
        ·simp [execOp,ho,Instr.lookup,u,he,ek,getObj,Sem.run,e2,hck,Instr.findKey,uk,f1]
        ·match j with
         | 0=>simp at hc hu;subst hc hu;simpa [Bs8,f2]using f3
         | 1=>simp at hc hu;subst hc hu;rw[f2];exact .b _
         | j+2=>simp at hc
       | false =>
        refine .pure h hd (v:=e.val) ?_ (.pure _ _ (by simpa [Bs8,f2]using f3))
        simp [execOp,ho,Instr.lookup,u,he,ek,getObj,Sem.run,e2,hck,Instr.findKey,uk,f1]
     ·simp [Pg.run]at hrun
    ·simp [Pg.run]at hrun
   ·simp [Pg.run]at hrun
  ·simp [Pg.run]at hrun
 ·simp [Pg.run]at hrun
theorem B6u(h:RelX E σ pl a w)(hd:∀ q,o.dst=some q→q < E.nt)(x:Operand)(ho:o.op=.entry x)
  (hrun:(C4 P T ov o σ.ev).run (look σ.hp) []=some (eff,log)) (hobl:All eff.obl):Ok P E o a w (σ.app o.dst eff):=by
 simp only [C4,ho]at hrun
 split at hrun
 ·rename_i id ver hx
  replace hrun:=D4 hrun
  obtain⟨B,hB,hv,hl,hrun⟩:=hrun
  split at hrun
  ·rename_i m mv n seen hk
   replace hrun:=D4 hrun
   obtain⟨C,hC,hmv,hml,hrun⟩:=hrun
   split at hrun
   ·rename_i rows x1 y1 hCk hrow
    simp only [Pg.run,Option.some.injEq,Prod.mk.injEq]at hrun
    obtain⟨rfl,_⟩:=hrun
    obtain⟨o1,o2⟩:n=rows.length∧Al8 rows seen [x1,y1]:=hobl
    have he:=F2 (h.ev hx) hB hv hl
    have hb:=h.blks id B hB
    unfold BlkRel at hb
    rw[hk]at hb
    obtain⟨gi,r,i1,_,i2,i3⟩:=hb
    rw[i1]at he
    have hm:=F2 i3 hC hmv hml
    obtain⟨g,es,e1,_,e2,e3,e4⟩:=h.mapAt hC hCk
    rw[e1]at hm
    simp only [Value.map.injEq,Option.some.injEq]at hm
    subst hm
    unfold Al8 at o2
    cases hs:seen.getLast? with
    | none=>rw[hs]at o2;cases o2
    | some j =>
     rw[hs]at o2
     obtain⟨k,b,e,q1,q2,q3,q4,q5⟩:=e4 j _ o2
     simp only [List.cons.injEq,and_true]at q1
     obtain⟨rfl,rfl⟩:=q1
     have hback:seen.toArray.back?=some j:=by simpa using hs
     have hborn:∀ i x,es.toList[i]?=some x→x.born=0+i:=fun i x hx=>by
      have hi:=lt_of_getElem? hx
      have hi':i < rows.length:=by rw[← e3];simpa using hi
      obtain⟨_,_,e',_,p2,p3,_⟩:=e4 i rows[i] (List.getElem?_eq_getElem hi')
      have:es[i]?=some x:=by simpa using hx
      rw[this]at p2
      cases p2
      omega
     have hfind:es.find? (fun e=>e.born == j)=some e:=by
      have:=Ae0 es.toList 0 j e hborn (by simpa using q2)
      rw[← Array.find?_toList]
      simpa using this
     subst o1
     refine .pure h hd (v:=.tuple #[e.key,e.val]) ?_ (.pure _ _ (.tup [_,_] [_,_] rfl fun i c u hc hu=>?_))
     ·simp [execOp,ho,Instr.entry,he,getObj,Sem.run,i2,e2,hs,hfind]
     ·match i with
      | 0=>simp at hc hu;subst hc hu;rw[q4];exact .s _
      | 1=>simp at hc hu;subst hc hu;exact q5
      | i+2=>simp at hc
   ·simp [Pg.run]at hrun
  ·simp [Pg.run]at hrun
 ·simp [Pg.run]at hrun
def Bb1(w:World)(g:Nat)(o:Obj):World:={ w with heap:=w.heap.setIfInBounds g o }
theorem B25{g:Nat}{ob o:Obj}(h:w.heap[g]?=some ob):(Bb1 w g o).heap[g]?=some o:=by
 have:=(Array.getElem?_eq_some_iff.1 h).1
 simp [Bb1,this]
theorem A7h{g i:Nat}{o:Obj}(h:i≠g):(Bb1 w g o).heap[i]?=w.heap[i]?:=by
 simp only [Bb1]
 rw[Array.getElem?_setIfInBounds_ne (Ne.symm h)]
theorem B6v(k:ByteArray)(v:AV)(rows:List (List AV)):rows.length≤(A47 k v rows).length:=by
 induction rows with
 | nil=>simp
 | cons r rows ih =>
  match r with
  | []=>simp [A47];exact ih
  | [a]=>simp [A47];exact ih
  | [a,b]=>simp only [A47];split <;> simp <;> exact ih
  | a :: b :: c :: r=>simp [A47];exact ih
theorem Ae1(hT:TabOk P T)(h:RelX E σ pl a w)(hd:∀ q,o.dst=some q→q < E.nt)(t:TypeId)(x k y:Operand)(ho:o.op=.mapUpdate t x k y)
  (hrun:(C4 P T ov o σ.ev).run (look σ.hp) []=some (eff,log)) (hobl:All eff.obl):Ok P E o a w (σ.app o.dst eff):=by
 simp only [C4,ho]at hrun
 split at hrun
 ·rename_i ti id ver key v ht hx hkx hyx
  split at hrun
  ·rename_i kt et hdesc
   split at hrun
   ·rename_i tk htk
    split at hrun
    ·rename_i hks
     replace hrun:=D4 hrun
     obtain⟨B,hB,hv,hl,hrun⟩:=hrun
     split at hrun
     ·rename_i rows hk
      replace hrun:=F9 hrun
      obtain⟨hp,hrun⟩:=hrun
      simp only [Pg.run,Option.some.injEq,Prod.mk.injEq]at hrun
      obtain⟨rfl,_⟩:=hrun
      have hnew:=J4 (ov:=ov) (d:=A47 key v rows) hobl.mem
      have u:=und hT ht w
      rw[hdesc]at u
      have uk:=und hT htk w
      rw[hks]at uk
      have ek:=E3 (h.ev hkx) rfl
      have he:=F2 (h.ev hx) hB hv hl
      have hval:=L7 (h.ev hyx) hp
      obtain⟨g,es,e1,e0,e2,e3,e4⟩:=h.mapAt hB hk
      rw[e1]at he
      have hblk:blkOf (pl id)=some g:=by rw[e1];rfl
      have hfind:=A4x key rows es.toList 0 (by simpa using e3) fun j r hj=>by
       obtain⟨x,b,e,q1,q2,_,q3,q4⟩:=e4 j r hj
       exact⟨x,b,e,q1,by simpa using q2,q3,q4⟩
      have hck:=A3p (k:=key) false w uk 9999
      -- the world behind: the map's block alone has turned
      have fin:∀(es':Array MapEntry),(execOp a.eval o).run P w=.ok .skip (Bb1 w g (.map es' (A47 key v rows).length))→es'.size=(A47 key v rows).length →
        (∀(j:Nat) (r:List AV),(A47 key v rows)[j]?=some r→∃ x b e,r=[.s x,b]∧es'[j]?=some e∧e.born=j∧e.key=.string x∧RelV0 (SS E (look σ.hp) pl w) w b e.val) →
        Ok P E o a w (σ.app o.dst { val:=A00,ups:=[(id,{ B with k:=.map (K3 ov (A47 key v rows)) })],obl:=L6 ov (A47 key v rows) }):=by
       intro es' hr hsz hrows
       rw[hnew]
       have hS:∀ k,SS E (look σ.hp) pl w k→(Bb1 w g (.map es' (A47 key v rows).length)).heap[k]?=w.heap[k]?:=fun k hk=>by
        rw[A7h]
        intro e
        subst e
        rcases hk with hk | ⟨_,_,h3⟩
        ·have:=E.hS0 _ hk
         omega
        ·exact h3 id B hB hl hblk
       have hx:=(h.chg (w':=Bb1 w g (.map es' (A47 key v rows).length)) id { B with k:=.map (A47 key v rows) } (pl id)
        (.inr ⟨B,hB,hl,rfl,by funext r c;simp [Blk.off,hk],rfl,by simp only [Blk.len,hk];exact B6v _ _ _⟩)
        (fun k hk' hne=>by rw[A7h];intro e;subst e;exact hne B hB hl hblk) rfl rfl rfl (by simp [Bb1]) (fun k hk'=>.inr ⟨B,hB,hl,hk'⟩)
        ⟨g,es',e1,e0,B25 e2,hsz,fun j r hj=>by
         obtain⟨x,b,e,p1,p2,p3,p4,p5⟩:=hrows j r hj
         exact⟨x,b,e,p1,p2,p3,p4,p5.mono (fun _ hk=>hk) hS⟩⟩).1
       have e:D8 pl id (pl id)=pl:=by funext i;unfold D8;split <;> simp_all
       rw[e]at hx
       exact .skip hr ⟨pl,hx.put o.dst hd (.pure _ _ V0)⟩
      rcases hfind with⟨f1,f2,f3⟩ | ⟨p,b,e,f1,f2,f4,f5,f6,f7,f8⟩
      ·have hput:=f3 v
       refine fin (es.push { key:=.string key,val:=a.eval y,born:=rows.length }) ?_ (by rw[hput];simp [e3]) fun j r hj=>?_
       ·rw[hput]
        simp [execOp,ho,Instr.mapUpdate,u,he,ek,getObj,setObj,Sem.run,e2,hck,Instr.findKey,uk,f1]
        rfl
       ·rw[hput]at hj
        by_cases hjl:j < rows.length
        ·rw[List.getElem?_append_left hjl]at hj
         obtain⟨x,b,e,p1,p2,p3,p4,p5⟩:=e4 j r hj
         exact⟨x,b,e,p1,by rw[Array.getElem?_push_lt (by omega)];rw[← p2,Array.getElem?_eq_getElem],p3,p4,p5⟩
        ·rw[List.getElem?_append_right (by omega)]at hj
         have hj0:j-rows.length=0:=by
          have:=lt_of_getElem? hj
          simp at this
          omega
         rw[hj0]at hj
         simp at hj
         subst hj
         have:j=es.size:=by omega
         subst this
         exact⟨key,v,_,rfl,Array.getElem?_push_size,by simp;omega,rfl,hval⟩
      ·have hput:=f8 v
       refine fin (es.modify p fun e=>{ e with key:=.string key,val:=a.eval y }) ?_ (by rw[hput];simp [e3]) fun j r hj=>?_
       ·rw[hput]
        simp [execOp,ho,Instr.mapUpdate,u,he,ek,getObj,setObj,Sem.run,e2,hck,Instr.findKey,uk,f1]
        have f4':es[p]?=some e:=by simpa using f4
        have hstay:(Instr.keyThatStays (.string key) (.string key)).run P w=.ok (.string key) w:=by
         have:Instr.sameBits 10000 (.string key) (.string key)=true:=by
          rw[show(10000:Nat)=9999+1 from rfl]
          show(key == key)=true
          exact(B22 key key).2 rfl
         simp [Instr.keyThatStays,this]
        simp [f4',f5,hstay,e2]
        rfl
       ·rw[hput,List.getElem?_set]at hj
        have hjl:j < rows.length:=by
         split at hj
         ·omega
         ·exact lt_of_getElem? hj
        obtain⟨x',b',e',p1,p2,p3,p4,p5⟩:=e4 j rows[j] (List.getElem?_eq_getElem hjl)
        split at hj
        ·rename_i epj
         subst epj
         simp at hj
         subst hj
         refine⟨key,v,{ e' with key:=.string key,val:=a.eval y },rfl,?_,p3,rfl,hval⟩
         rw[Array.getElem?_modify,if_pos rfl,p2]
         rfl
        ·rename_i epj
         rw[List.getElem?_eq_getElem hjl]at hj
         simp at hj
         subst hj
         refine⟨x',b',e',p1,?_,p3,p4,p5⟩
         rw[Array.getElem?_modify,if_neg epj,p2]
     ·simp [Pg.run]at hrun
    ·simp [Pg.run]at hrun
   ·simp [Pg.run]at hrun
  ·simp [Pg.run]at hrun
 ·simp [Pg.run]at hrun
end
end Go.E
namespace Go.E
open Go.RowKit
section
variable {P : Program} {E : Env} {T : Tab} {ov : Ov} {o : Oper} {σ : St} {pl : Nat → Value} {a : Act} {w : World} {eff : Eff} {log : List Nat}
theorem Am5(h:RelX E σ pl a w)(hd:∀ q,o.dst=some q→q < E.nt)(x:Operand)(ho:o.op=.nilCheck x)
  (hrun:(C4 P T ov o σ.ev).run (look σ.hp) []=some (eff,log)):Ok P E o a w (σ.app o.dst eff):=by
 simp only [C4,ho]at hrun
 split at hrun
 ·rename_i id ver r c hx
  replace hrun:=D4 hrun
  obtain⟨B,hB,hv,hl,hrun⟩:=hrun
  simp only [Q1,Pg.run,Option.some.injEq,Prod.mk.injEq]at hrun
  obtain⟨rfl,_⟩:=hrun
  have hr:=h.ev hx
  obtain⟨g,hg,he⟩:=K1 hr hB hv hl
  refine .pure h hd (v:=a.eval x) ?_ hr
  simp [execOp,ho,he]
 ·rename_i cs hx
  simp only [Q1,Pg.run,Option.some.injEq,Prod.mk.injEq]at hrun
  obtain⟨rfl,_⟩:=hrun
  have hr:=h.ev hx
  have hr0:=A1t hr
  have he:∃ ad,a.eval x=.pointer (some ad):=by
   generalize a.eval x=v at hr0 ⊢
   cases hr0 with
   | eptr _ ad u hS hA h1 hh=>exact⟨ad,rfl⟩
  obtain⟨ad,he⟩:=he
  refine .pure h hd (v:=a.eval x) ?_ hr
  simp [execOp,ho,he]
 ·rename_i f first cap hx
  simp only [Q1,Pg.run,Option.some.injEq,Prod.mk.injEq]at hrun
  obtain⟨rfl,_⟩:=hrun
  have hr:=h.ev hx
  have he:∃ v1 v2,a.eval x=.func (.func f) v1 v2:=by
   generalize a.eval x=v at hr ⊢
   cases hr with
   | pure _ _ h0=>cases h0 with | fn _ _ _ v1 v2=>exact⟨_,_,rfl⟩
   | fn _ _ _ v1 v2=>exact⟨_,_,rfl⟩
  obtain⟨v1,v2,he⟩:=he
  refine .pure h hd (v:=a.eval x) ?_ hr
  simp [execOp,ho,he]
 ·simp [Pg.run]at hrun
theorem B6w(hT:TabOk P T)(h:RelX E σ pl a w)(hd:∀ q,o.dst=some q→q < E.nt)(hrun:(C4 P T ov o σ.ev).run (look σ.hp) []=some (eff,log))(hobl:All eff.obl):Ok P E o a w (σ.app o.dst eff):=by
 cases ho:o.op with
 | move x=>exact B1x h hd x (.inl ho) (by simpa only [C4,ho]using hrun)
 | assign x=>exact B1x h hd x (.inr ho) (by simpa only [C4,ho]using hrun)
 | pick c x y=>exact Bg2 h hd c x y ho hrun
 | alloc t=>exact B6l hT h hd t ho hrun
 | box t x=>exact ok_box h hd t x ho hrun
 | build t ps=>exact B6n hT h hd t ps ho hrun
 | buildSlice t n ps=>exact A8p hT h hd t n ps ho hrun hobl
 | load t x=>exact Bg4 hT h hd t x ho hrun hobl
 | store t x y=>exact B6k hT h hd t x y ho hrun hobl
 | nilCheck x=>exact Am5 h hd x ho hrun
 | binOp op t x y yt=>exact B6i hT h hd op t x y yt ho hrun hobl
 | unOp op t x=>exact Bg3 h hd op t x ho hrun
 | convert s d x=>exact B07 hT h hd s d x ho hrun hobl
 | makeInterface t x=>exact A41 hT h hd t x ho hrun
 | makeFunc f fi ca=>exact Am0 h hd f fi ca ho hrun
 | makeSlice t x y=>exact Ad6 hT h hd t x y ho hrun hobl
 | slice t x lo hi mx=>exact B6o hT h hd t x lo hi mx ho hrun hobl
 | fieldAddr t x f=>exact Ad1 hT h hd t x f ho hrun
 | field t x f=>exact B6j hT h hd t x f ho hrun
 | indexAddr t x i=>exact Ad2 hT h hd t x i ho hrun hobl
 | index t x i=>exact B6m hT h hd t x i ho hrun hobl
 | extract x i=>exact B05 h hd x i ho hrun
 | makeMap t r=>exact B08 h hd t r ho hrun
 | lookup t x k ok=>exact B24 hT h hd t x k ok ho hrun hobl
 | mapUpdate t x k y=>exact Ae1 hT h hd t x k y ho hrun hobl
 | range t x=>exact B6s hT h hd t x ho hrun
 | entry x=>exact B6u h hd x ho hrun hobl
 | call c =>
  obtain⟨callee,args,ts⟩:=c
  cases callee with
  | value f=>exact Bg6 h hd f args ts ho hrun hobl
  | invoke r m=>simp [C4,ho,Pg.run]at hrun
  | builtin b =>
   cases b with
   | len=>exact ok_len hT h hd args ts ho hrun
   | cap=>exact ok_cap hT h hd args ts ho hrun
   | min=>exact ok_min h hd args ts ho hrun
   | max=>exact ok_max h hd args ts ho hrun
   | append=>exact B20 hT h hd args ts ho hrun hobl
   | copy=>exact Bg5 hT h hd args ts ho hrun hobl
   | clear=>exact B6p hT h hd args ts ho hrun hobl
   | _=>simp [C4,ho,Pg.run]at hrun
 | _=>simp [C4,ho,Pg.run]at hrun
end
structure Rec where
 dst:Option Nat
 val:AV
 ups:List (Nat×Blk)
 rds:List Nat
def St.stp(σ:St)(r:Rec):St:=⟨Bs6 σ.slots r.dst r.val,R6 σ.hp r.ups⟩
def B26(ops:Array Oper)(j:Nat):Option Nat:=(ops[j]?).bind (·.dst)
def B09(ops:Array Oper)(o:Oper)(slot:Nat→Option AV):Option Bool :=
 match o.guard with
 | none=>some true
 | some (j,want)=>match B26 ops j with
  | some d=>(match slot d with
   | some (.b b)=>some (b == want)
   | some (.tup [])=>some false
   | _=>none)
  | none=>none
def dstB(nt:Nat)(d:Option Nat):Bool:=match d with | some d=>Nat.blt d nt | none=>true
def A42(P:Program)(T:Tab)(ovs:List (Nat×Ov))(nt:Nat)(ops:Array Oper)(i:Nat)(o:Oper)(σ:St):Option (Rec×List Prop) :=
 if dstB nt o.dst then
  match B09 ops o (look σ.slots)with
  | some true=>(match (C4 P T ((look ovs i).getD {}) o σ.ev).run (look σ.hp) []with
   | some (eff,log)=>some (⟨o.dst,(Bs7 ((look ovs i).getD {}) eff).val,eff.ups,log⟩,(Bs7 ((look ovs i).getD {}) eff).obl)
   | none=>none)
  | some false=>some (⟨o.dst,A00,[],[]⟩,[])
  | none=>none
 else none
def Ac4(P:Program)(T:Tab)(ovs:List (Nat×Ov))(nt:Nat)(ops:Array Oper):Nat→List Oper→St→Option (List Rec×List Prop)
 | _,[],_=>some ([],[])
 | i,o :: l,σ=>match A42 P T ovs nt ops i o σ with
  | some (r,p)=>(match Ac4 P T ovs nt ops (i+1) l (σ.stp r)with
   | some (rs,ps)=>some (r :: rs,p++ps)
   | none=>none)
  | none=>none
def St.recs(σ:St)(rs:List Rec):St:=rs.foldl St.stp σ
section
variable {P : Program} {E : Env} {T : Tab} {σ : St} {pl : Nat → Value} {a : Act} {w : World}
theorem B27{ops:Array Oper}{o:Oper}{b:Bool}(h:RelX E σ pl a w)(hw:B09 ops o (look σ.slots)=some b):Region.wanted o (yielded ops a.tmps)=b:=by
 unfold B09 at hw
 unfold Region.wanted
 split at hw
 ·rename_i hg
  simp only [Option.some.injEq]at hw
  rw[hg]
  exact hw
 ·rename_i j want hg
  rw[hg]
  simp only
  split at hw
  ·rename_i d hd
   split at hw
   ·rename_i b' hs
    simp only [Option.some.injEq]at hw
    obtain⟨v,hv,hr⟩:=h.slots d _ hs
    have:=E3 hr rfl
    subst this
    unfold yielded
    unfold B26 at hd
    rw[hd]
    simp only [Option.bind_some,hv]
    rw[← hw]
    cases b' <;> cases want <;> rfl
   ·rename_i hs
    simp only [Option.some.injEq]at hw
    obtain⟨v,hv,hr⟩:=h.slots d _ hs
    have hr0:=As2 hr
    unfold yielded
    unfold B26 at hd
    rw[hd]
    simp only [Option.bind_some,hv]
    cases hr0 with
    | tup _ vs=>rw[← hw];rfl
   ·cases hw
  ·cases hw
theorem At0{ovs:List (Nat×Ov)}{ops:Array Oper}{i:Nat}{o:Oper}{r:Rec}{ps:List Prop}(hT:TabOk P T)(hi:ops[i]?=some o)(hs:A42 P T ovs E.nt ops i o σ=some (r,ps))(hp:∀ p∈ps,p)(h:Rel E σ a w)
  {K:Act→World→Prop} {Q:Exit→Act→World→Prop} (hK:∀ a' w',Rel E (σ.stp r) a' w'→K a' w'):wpOp P ops Q i K a w:=by
 obtain⟨pl,h⟩:=h
 unfold A42 at hs
 split at hs
 ·rename_i hdst
  have hd:∀ q,o.dst=some q→q < E.nt:=by
   intro q hq
   unfold dstB at hdst
   rw[hq]at hdst
   simpa using hdst
  unfold wpOp
  rw[hi]
  simp only
  split at hs
  ·rename_i hw
   rw[B27 h hw]
   simp only [if_true]
   split at hs
   ·rename_i eff log hrun
    simp only [Option.some.injEq,Prod.mk.injEq]at hs
    obtain⟨rfl,rfl⟩:=hs
    left
    have hobl:All eff.obl:=All.of fun p hp'=>hp p (by
     unfold Bs7
     split
     ·exact List.mem_cons_of_mem _ hp'
     ·exact hp')
    refine B6w hT h hd hrun hobl K Q fun a' w' hr=>hK a' w' ?_
    have hval:(Bs7 ((look ovs i).getD {}) eff).val=eff.val:=by
     unfold Bs7 at hp ⊢
     split
     ·rename_i x hx
      simp only
      have:eff.val=x:=hp _ (by simp [hx])
      exact this.symm
     ·rfl
    have hst:σ.stp ⟨o.dst,(Bs7 ((look ovs i).getD {}) eff).val,eff.ups,log⟩=σ.app o.dst eff:=by
     unfold St.stp St.app
     simp only [hval]
     rfl
    rw[hst]
    exact hr
   ·cases hs
  ·rename_i hw
   rw[B27 h hw]
   simp only [Bool.false_eq_true,if_false]
   simp only [Option.some.injEq,Prod.mk.injEq]at hs
   obtain⟨rfl,_⟩:=hs
   exact hK _ _ ⟨pl,h.put o.dst hd (.pure _ _ V0)⟩
  ·cases hs
 ·cases hs
theorem Ae2{ovs:List (Nat×Ov)}{ops:Array Oper}{Q:Exit→Act→World→Prop}(hT:TabOk P T):∀(l:List Oper) (i:Nat) (σ:St) (rs:List Rec) (ps:List Prop),(∀ j,l[j]?=ops[i+j]?) →
  Ac4 P T ovs E.nt ops i l σ=some (rs,ps)→(∀ p∈ps,p)→(∀ a' w',Rel E (σ.recs rs) a' w'→Q .normal a' w')→∀ a w,Rel E σ a w→wpOps P ops Q (List.range' i l.length) a w
 | [],i,σ,rs,ps,_,hr,_,hQ,a,w,h=>by
  simp only [Ac4,Option.some.injEq,Prod.mk.injEq]at hr
  obtain⟨rfl,_⟩:=hr
  exact hQ a w h
 | o :: l,i,σ,rs,ps,hl,hr,hp,hQ,a,w,h=>by
  simp only [Ac4]at hr
  cases h1:A42 P T ovs E.nt ops i o σ with
  | none=>rw[h1]at hr;cases hr
  | some x =>
   obtain⟨r,p1⟩:=x
   rw[h1]at hr
   simp only at hr
   cases h2:Ac4 P T ovs E.nt ops (i+1) l (σ.stp r)with
   | none=>rw[h2]at hr;cases hr
   | some y =>
    obtain⟨rs',p2⟩:=y
    rw[h2]at hr
    simp only [Option.some.injEq,Prod.mk.injEq]at hr
    obtain⟨rfl,rfl⟩:=hr
    have hi:ops[i]?=some o:=by have:=hl 0;simpa using this.symm
    rw[List.length_cons,List.range'_succ,wpOps_cons]
    exact At0 hT hi h1 (fun p hp'=>hp p (List.mem_append_left _ hp')) h fun a' w' hr' =>
     Ae2 hT l (i+1) (σ.stp r) rs' p2 (fun j=>by have:=hl (j+1);simpa [Nat.add_assoc,Nat.add_comm 1 j]using this) h2 (fun p hp'=>hp p (List.mem_append_right _ hp')) hQ a' w' hr'
theorem Rel.drew(h:Rel E σ a w):Rel E σ a { w with drawn:=w.drawn+1 }:=by
 obtain⟨pl,h⟩:=h
 exact⟨pl,(h.grow (w':={ w with drawn:=w.drawn+1 }) ⟨rfl,rfl,rfl,Nat.le_refl _,fun _ _=>rfl⟩).1⟩
theorem B0a{ovs:List (Nat×Ov)}{ops:Array Oper}{id:Nat}{Q:Exit→Act→World→Prop}{rs:List Rec}{ps:List Prop}(hT:TabOk P T)(hr:Ac4 P T ovs E.nt ops 0 ops.toList σ=some (rs,ps))(hp:∀ p∈ps,p)
  (hQ:∀ a' w',Rel E (σ.recs rs) a' w'→Q .normal a' w') (h:Rel E σ a w):(Code.region id ops false).wp P Q a w:=by
 refine wp_region ?_
 have:=Ae2 (P:=P) (E:=E) (ovs:=ovs) (ops:=ops) (Q:=Q) hT ops.toList 0 σ rs ps (fun j=>by simp) hr hp hQ a w h
 rwa [Array.length_toList,← List.range_eq_range']at this
end
end Go.E
namespace Go.E
open Go.RowKit
/-! ### Only the operands matter -/
section
variable {P : Program} {T : Tab} {ov : Ov} {o : Oper} {ρ ρ' : Operand → Option AV}
theorem X1:∀ {l:List Operand},(∀ x∈l,ρ x=ρ' x)→l.mapM ρ=l.mapM ρ'
 | [],_=>rfl
 | x :: l,h=>by
  rw[List.mapM_cons,List.mapM_cons,h x (by simp),X1 fun y hy=>h y (List.mem_cons_of_mem _ hy)]
theorem A1g{α β:Type}{f g:α→Pg β}:∀ {l:List α},(∀ x∈l,f x=g x)→I4 f l=I4 g l
 | [],_=>rfl
 | x :: l,h=>by
  unfold I4
  rw[h x (by simp),A1g fun y hy=>h y (List.mem_cons_of_mem _ hy)]
theorem Am6(h:∀ x∈o.op.operands.toList,ρ x=ρ' x):C4 P T ov o ρ=C4 P T ov o ρ':=by
 cases ho:o.op with
 | build t ps =>
  rw[ho]at h
  have:I4 (A1s ρ) ps.toList=I4 (A1s ρ') ps.toList:=A1g fun p hp=>by
   unfold A1s
   rw[h p.2 (by simp only [Op.operands];exact List.mem_map.2 ⟨p,hp,rfl⟩)]
  simp only [C4,ho,this]
 | buildSlice t n ps =>
  rw[ho]at h
  have:I4 (A1s ρ) ps.toList=I4 (A1s ρ') ps.toList:=A1g fun p hp=>by
   unfold A1s
   rw[h p.2 (by simp only [Op.operands];exact List.mem_map.2 ⟨p,hp,rfl⟩)]
  simp only [C4,ho,this]
 | makeFunc f fi ca =>
  rw[ho]at h
  have h1:fi.toList.mapM ρ=fi.toList.mapM ρ':=X1 fun x hx=>h x (by simp only [Op.operands,Array.toList_append];exact List.mem_append_left _ hx)
  have h2:ca.toList.mapM ρ=ca.toList.mapM ρ':=X1 fun x hx=>h x (by simp only [Op.operands,Array.toList_append];exact List.mem_append_right _ hx)
  simp only [C4,ho,h1,h2]
 | slice t x lo hi mx =>
  rw[ho]at h
  have h1:ρ x=ρ' x:=h x (by simp [Op.operands])
  have h2:∀ y,lo=some y→ρ y=ρ' y:=fun y hy=>h y (by simp [Op.operands,hy])
  have h3:∀ y,hi=some y→ρ y=ρ' y:=fun y hy=>h y (by simp [Op.operands,hy])
  cases lo <;> cases hi <;> cases mx <;> simp_all [C4]
 | call c =>
  rw[ho]at h
  obtain⟨callee,args,ts⟩:=c
  have h1:args.toList.mapM ρ=args.toList.mapM ρ':=X1 fun x hx=>h x (by
   simp only [Op.operands,Call.operands,Array.toList_append];exact List.mem_append_right _ hx)
  cases callee with
  | value f =>
   have h2:ρ f=ρ' f:=h f (by simp [Op.operands,Call.operands])
   cases f <;> simp_all [C4]
  | invoke r m=>simp [C4,ho]
  | builtin b=>cases b <;> simp only [C4,ho,h1]
 | makeMap t r=>cases r <;> simp [C4,ho]
 | _ =>
  rw[ho]at h
  simp [Op.operands]at h
  simp [C4,ho,h]
end
/-! ### What two states agree on -/
section
variable {P : Program} {E : Env} {T : Tab} {σ σ' : St} {a : Act} {w : World}
theorem Rel.congr(h:Rel E σ a w)(hs:look σ'.slots=look σ.slots)(hh:look σ'.hp=look σ.hp):Rel E σ' a w:=by
 obtain⟨pl,h⟩:=h
 refine⟨pl,h.nt,h.dfr,h.below,?_,?_,?_,?_⟩
 ·rw[hs,hh];exact h.slots
 ·rw[hh];exact h.blks
 ·rw[hh];exact h.dist
 ·rw[hh];exact h.kept
theorem Am7{ovs:List (Nat×Ov)}{nt:Nat}{ops:Array Oper}{i:Nat}{o:Oper}{r:Rec}{ps:List Prop}(h:A42 P T ovs nt ops i o σ=some (r,ps))
  (hs:∀ d∈o.looksAt ops,look σ'.slots d=look σ.slots d) (hh:∀ q∈r.rds,look σ'.hp q=look σ.hp q):A42 P T ovs nt ops i o σ'=some (r,ps):=by
 have hw:B09 ops o (look σ'.slots)=B09 ops o (look σ.slots):=by
  unfold B09
  split
  ·rfl
  ·rename_i j want hg
   cases hd:B26 ops j with
   | none=>rfl
   | some d =>
    have:d∈o.looksAt ops:=by
     unfold Oper.looksAt
     unfold B26 at hd
     simp [hg,hd]
    simp only [hs d this]
 have he:C4 P T ((look ovs i).getD {}) o σ'.ev=C4 P T ((look ovs i).getD {}) o σ.ev:=Am6 fun x hx=>by
  cases x with
  | tmp t =>
   have:t∈o.looksAt ops:=by
    unfold Oper.looksAt
    refine List.mem_append_left _ (List.mem_filterMap.2 ⟨.tmp t,hx,rfl⟩)
   exact hs t this
  | _=>rfl
 unfold A42 at h ⊢
 rw[hw,he]
 split at h
 ·rename_i hd
  rw[if_pos hd]
  split at h
  ·rename_i hw'
   split at h
   ·rename_i eff log hrun
    simp only [Option.some.injEq,Prod.mk.injEq]at h
    obtain⟨rfl,rfl⟩:=h
    rw[Pg.run_local _ hrun hh]
   ·cases h
  ·exact h
  ·cases h
 ·cases h
theorem Ae3{ovs:List (Nat×Ov)}{nt:Nat}{ops:Array Oper}{i:Nat}{o:Oper}{r:Rec}{ps:List Prop}(h:A42 P T ovs nt ops i o σ=some (r,ps)):r.dst=o.dst:=by
 unfold A42 at h
 split at h
 ·split at h
  ·split at h
   ·simp only [Option.some.injEq,Prod.mk.injEq]at h
    obtain⟨rfl,rfl⟩:=h
    rfl
   ·cases h
  ·simp only [Option.some.injEq,Prod.mk.injEq]at h
   obtain⟨rfl,rfl⟩:=h
   rfl
  ·cases h
 ·cases h
def SD(σ:St)(rs:Nat→Rec)(D:Nat→Bool):Nat→St
 | 0=>σ
 | k+1=>if D k then(SD σ rs D k).stp (rs k)else SD σ rs D k
theorem T5(σ:St)(r:Rec)(d:Nat):look (σ.stp r).slots d=if r.dst=some d then some r.val else look σ.slots d:=by
 unfold St.stp
 cases hr:r.dst with
 | none=>simp [Bs6]
 | some q=>simp [Bs6,C8]
theorem A0i:∀(ups:List (Nat×Blk)) (hp hp':List (Nat×Blk)) (i:Nat),look hp i=look hp' i→look (R6 hp ups) i=look (R6 hp' ups) i
 | [],_,_,_,h=>h
 | p :: ups,hp,hp',i,h=>A0i ups _ _ i (by rw[C8,C8,h])
theorem H3:∀(ups:List (Nat×Blk)) (hp:List (Nat×Blk)) (i:Nat),(∀ p∈ups,p.1≠i)→look (R6 hp ups) i=look hp i:=by
 intro ups hp i h
 rcases N4 ups hp i with⟨p,hp,h1,_⟩ | ⟨_,h2⟩
 ·exact absurd h1 (h p hp)
 ·exact h2
theorem A70(ups:List (Nat×Blk))(hp hp':List (Nat×Blk))(i:Nat)(h:∃ p∈ups,p.1=i):look (R6 hp ups) i=look (R6 hp' ups) i:=by
 induction ups generalizing hp hp' with
 | nil=>simp at h
 | cons p ups ih =>
  by_cases h':∃ q∈ups,q.1=i
  ·exact ih _ _ h'
  ·obtain⟨q,hq,e⟩:=h
   have:p.1=i:=by
    rcases List.mem_cons.1 hq with rfl | hq
    ·exact e
    ·exact absurd ⟨q,hq,e⟩ h'
   have hn:∀ q∈ups,q.1≠i:=fun q hq e=>h' ⟨q,hq,e⟩
   show look (R6 (put hp p.1 p.2) ups) i=look (R6 (put hp' p.1 p.2) ups) i
   rw[H3 _ _ _ hn,H3 _ _ _ hn,C8,C8,if_pos this,if_pos this]
theorem T6{rs:Nat→Rec}{D D':Nat→Bool}{d:Nat}:∀ n,(∀ j < n,D j≠D' j→(rs j).dst≠some d)→look (SD σ rs D n).slots d=look (SD σ rs D' n).slots d
 | 0,_=>rfl
 | n+1,h=>by
  have ih:=T6 n fun j hj=>h j (by omega)
  have h0:=h n (by omega)
  simp only [SD]
  cases h1:D n <;> cases h2:D' n <;> simp only [Bool.false_eq_true,if_true,if_false,T5,ih] <;> simp [h1,h2]at h0 <;> simp [h0]
theorem A1h{rs:Nat→Rec}{D D':Nat→Bool}{q:Nat}:∀ n,(∀ j < n,D j≠D' j→∀ p∈(rs j).ups,p.1≠q)→look (SD σ rs D n).hp q=look (SD σ rs D' n).hp q
 | 0,_=>rfl
 | n+1,h=>by
  have ih:=A1h n fun j hj=>h j (by omega)
  have h0:=h n (by omega)
  simp only [SD]
  cases h1:D n <;> cases h2:D' n <;> simp only [Bool.false_eq_true,if_true,if_false]
  ·exact ih
  ·rw[ih];exact(H3 _ _ _ (h0 (by simp [h1,h2]))).symm
  ·rw[← ih];exact H3 _ _ _ (h0 (by simp [h1,h2]))
  ·exact A0i _ _ _ _ ih
theorem A3q{rs:Nat→Rec}{D D':Nat→Bool}{i:Nat}(hD:∀ j,D' j=(D j || j == i))(hi:D i=false){d:Nat} :
  ∀ n,i < n→(∀ j,i < j→j < n→D j=true→(rs i).dst=some d→(rs j).dst≠some d)→look (SD σ rs D' n).slots d=look ((SD σ rs D n).stp (rs i)).slots d
 | 0,h,_=>by omega
 | n+1,hn,h=>by
  by_cases e:i=n
  ·subst e
   simp only [SD]
   have h1:D' i=true:=by rw[hD];simp
   rw[h1,hi]
   simp only [if_true,Bool.false_eq_true,if_false,T5]
   rw[T6 (σ:=σ) (D:=D') (D':=D) i fun j hj hne=>by
    exfalso;apply hne;rw[hD];have:(j == i)=false:=by simpa using by omega
    simp [this]]
  ·have ih:=A3q hD hi (d:=d) n (by omega) fun j h1 h2=>h j h1 (by omega)
   have hDn:D' n=D n:=by
    rw[hD]
    have:(n == i)=false:=by simpa using fun e'=>e e'.symm
    simp [this]
   simp only [SD,hDn]
   cases hn':D n with
   | false=>simpa [hn']using ih
   | true =>
    have h0:=h n (by omega) (by omega) hn'
    simp only [if_true,T5]at ih ⊢
    rw[ih]
    by_cases e1:(rs i).dst=some d
    ·have:=h0 e1
     simp [e1,this]
    ·simp [e1]
theorem Ae4{rs:Nat→Rec}{D D':Nat→Bool}{i:Nat}(hD:∀ j,D' j=(D j || j == i))(hi:D i=false){q:Nat} :
  ∀ n,i < n→(∀ j,i < j→j < n→D j=true→(∃ p∈(rs i).ups,p.1=q)→∀ p∈(rs j).ups,p.1≠q)→look (SD σ rs D' n).hp q=look ((SD σ rs D n).stp (rs i)).hp q
 | 0,h,_=>by omega
 | n+1,hn,h=>by
  by_cases e:i=n
  ·subst e
   simp only [SD]
   have h1:D' i=true:=by rw[hD];simp
   rw[h1,hi]
   simp only [if_true,Bool.false_eq_true,if_false]
   refine A0i _ _ _ _ (A1h (σ:=σ) (D:=D') (D':=D) i fun j hj hne=>?_)
   exfalso;apply hne;rw[hD];have:(j == i)=false:=by simpa using by omega
   simp [this]
  ·have ih:=Ae4 hD hi (q:=q) n (by omega) fun j h1 h2=>h j h1 (by omega)
   have hDn:D' n=D n:=by
    rw[hD]
    have:(n == i)=false:=by simpa using fun e'=>e e'.symm
    simp [this]
   simp only [SD,hDn]
   cases hn':D n with
   | false=>simpa [hn']using ih
   | true =>
    have h0:=h n (by omega) (by omega) hn'
    simp only [if_true]
    by_cases e1:∃ p∈(rs i).ups,p.1=q
    ·have h2:=h0 e1
     show look (R6 (SD σ rs D' n).hp (rs n).ups) q=look (R6 (R6 (SD σ rs D n).hp (rs n).ups) (rs i).ups) q
     rw[H3 _ _ _ h2,ih]
     exact A70 _ _ _ _ e1
    ·have h3:∀ p∈(rs i).ups,p.1≠q:=fun p hp e'=>e1 ⟨p,hp,e'⟩
     show look (R6 (SD σ rs D' n).hp (rs n).ups) q=look (R6 (R6 (SD σ rs D n).hp (rs n).ups) (rs i).ups) q
     rw[H3 _ _ _ h3]
     refine A0i _ _ _ _ ?_
     rw[ih]
     exact H3 _ _ _ h3
end
end Go.E
namespace Go.E
open Go.RowKit
def A4y(ops:Array Oper)(D:Nat→Bool):Prop:=∀(j:Nat) (o:Oper),ops[j]?=some o→D j=true→∀ e∈o.after.toList,Region.binds .any e=true→D e.on=true
def Bb2(o:Oper)(acc:List Nat):Nat:=o.after.toList.foldl (fun m e=>if Region.binds .any e then m ||| 2 ^ e.on ||| acc.getD e.on 0 else m) 0
def B0b:List Oper→List Nat→List Nat
 | [],acc=>acc
 | o :: os,acc=>B0b os (acc++[Bb2 o acc])
def maskB(m j:Nat):Bool:=m.testBit j
theorem At1{ops:Array Oper}{D:Nat→Bool}(hD:A4y ops D):∀(l:List Oper) (acc:List Nat),(∀ j,l[j]?=ops[acc.length+j]?) →
  (∀(j m:Nat),acc[j]?=some m→∀ i,m.testBit i=true→D j=true→D i=true)→∀(j m:Nat),(B0b l acc)[j]?=some m→∀ i,m.testBit i=true→D j=true→D i=true
 | [],acc,_,h=>h
 | o :: l,acc,hl,h=>by
  have h0:ops[acc.length]?=some o:=by have:=hl 0;simpa using this.symm
  refine At1 hD l (acc++[Bb2 o acc]) (fun j=>by have:=hl (j+1);simpa [Nat.add_assoc,Nat.add_comm 1 j]using this) fun j m hm i hi hj=>?_
  by_cases hlt:j < acc.length
  ·rw[List.getElem?_append_left hlt]at hm
   exact h j m hm i hi hj
  ·rw[List.getElem?_append_right (by omega)]at hm
   have hj0:j=acc.length:=by
    by_cases e:j-acc.length=0
    ·omega
    ·rw[List.getElem?_eq_none (by simp;omega)]at hm;cases hm
   subst hj0
   simp only [Nat.sub_self,List.getElem?_cons_zero,Option.some.injEq]at hm
   subst hm
   have key:∀(es:List Edge) (m0:Nat),(∀ e∈es,Region.binds .any e=true→D e.on=true)→(∀ q,m0.testBit q=true→D q=true) →
     ∀ q,(es.foldl (fun m e=>if Region.binds .any e then m ||| 2 ^ e.on ||| acc.getD e.on 0 else m) m0).testBit q=true→D q=true:=by
    intro es
    induction es with
    | nil=>intro m0 _ h0 q hq;exact h0 q hq
    | cons e es ih =>
     intro m0 he h0 q hq
     refine ih _ (fun e' he'=>he e' (List.mem_cons_of_mem _ he')) (fun q hq=>?_) q hq
     simp only at hq
     by_cases hb:Region.binds .any e=true
     ·have hon:=he e (by simp) hb
      rw[if_pos hb]at hq
      simp only [Nat.testBit_or,Bool.or_eq_true]at hq
      rcases hq with(hq | hq) | hq
      ·exact h0 q hq
      ·rw[Nat.testBit_two_pow]at hq
       have:e.on=q:=by simpa using hq
       rw[← this];exact hon
      ·cases hg:acc[e.on]? with
       | none=>rw[List.getD_eq_getElem?_getD,hg]at hq;simp at hq
       | some m1 =>
        rw[List.getD_eq_getElem?_getD,hg]at hq
        exact h e.on m1 hg q hq hon
     ·rw[if_neg hb]at hq
      exact h0 q hq
   exact key o.after.toList 0 (fun e he hb=>hD _ o h0 hj e he hb) (fun q hq=>by simp at hq) i hi
def A8s(rs:List Rec)(j:Nat):Rec:=(rs[j]?).getD ⟨none,A00,[],[]⟩
def A4z(l m:List Nat):Bool:=l.any fun x=>m.contains x
def cf(ops:Array Oper)(oi oj:Oper)(ri rj:Rec):Bool :=
 (match oi.dst with | some d=>oj.dst == some d || (oj.looksAt ops).contains d | none=>false) ||
 (match oj.dst with | some d=>(oi.looksAt ops).contains d | none=>false) ||
 A4z (ri.ups.map (·.1)) (rj.ups.map (·.1)) || A4z (ri.ups.map (·.1)) rj.rds || A4z ri.rds (rj.ups.map (·.1))
def Bt0(ops:Array Oper)(rs:List Rec):Bool :=
 let ms:=B0b ops.toList []
 (List.range ops.size).all fun j=>match ops[j]?,rs[j]? with
  | some oj,some rj=>(oj.after.toList.all fun e=>!Region.binds .any e || Nat.blt e.on j) &&
   (List.range j).all fun i=>match ops[i]?,rs[i]? with
    | some oi,some ri=>!cf ops oi oj ri rj || maskB (ms.getD j 0) i
    | _,_=>false
  | _,_=>false
theorem A04{l m:List Nat}(h:A4z l m=false):∀ x∈l,x ∉ m:=by
 intro x hx hm
 unfold A4z at h
 rw[List.any_eq_false]at h
 exact h x hx (by simpa using hm)
theorem B28(j:Nat):Nat.blt j j=false:=by
 cases hb:Nat.blt j j with
 | false=>rfl
 | true =>
  simp at hb
def cnt(p:Nat→Bool):Nat→Nat
 | 0=>0
 | n+1=>cnt p n+(if p n then 1 else 0)
theorem Ae5{p q:Nat→Bool}:∀ n,(∀ i < n,p i=q i)→cnt p n=cnt q n
 | 0,_=>rfl
 | n+1,h=>by simp only [cnt,Ae5 n fun i hi=>h i (by omega),h n (by omega)]
theorem B29{p q:Nat→Bool}{i:Nat}(hp:p i=true)(hq:q i=false)(h:∀ j,j≠i→p j=q j):∀ n,i < n→cnt p n=cnt q n+1
 | 0,hn=>by omega
 | n+1,hn=>by
  by_cases e:i=n
  ·subst e
   simp only [cnt,hp,hq,Ae5 i fun j hj=>h j (by omega)]
   simp
  ·simp only [cnt,B29 hp hq h n (by omega),h n (fun e'=>e e'.symm)]
   omega
theorem B2a{p:Nat→Bool}:∀ n,0 < cnt p n→∃ i < n,p i=true∧∀ j < i,p j=false
 | 0,h=>by simp [cnt]at h
 | n+1,h=>by
  by_cases h0:0 < cnt p n
  ·obtain⟨i,h1,h2,h3⟩:=B2a n h0
   exact⟨i,by omega,h2,h3⟩
  ·have:p n=true:=by
    simp only [cnt]at h
    split at h
    ·assumption
    ·omega
   refine⟨n,by omega,this,fun j hj=>?_⟩
   cases hj':p j with
   | false=>rfl
   | true =>
    exfalso
    have:∀ m,j < m→0 < cnt p m:=by
     intro m
     induction m with
     | zero=>intro h;omega
     | succ m ih =>
      intro h
      simp only [cnt]
      by_cases e:j=m
      ·subst e;simp [hj']
      ·have:=ih (by omega);omega
    exact h0 (this n hj)
theorem cnt_zero{p:Nat→Bool}:∀ n,cnt p n=0→∀ i < n,p i=false
 | 0,_,i,hi=>by omega
 | n+1,h,i,hi=>by
  simp only [cnt]at h
  by_cases e:i=n
  ·subst e
   cases h':p i with
   | false=>rfl
   | true=>rw[h']at h;simp at h
  ·exact cnt_zero n (by omega) i (by omega)
section
variable {P : Program} {E : Env} {T : Tab} {σ : St} {a : Act} {w : World}
theorem B2b(rs:Nat→Rec){D:Nat→Bool}:∀ n,(∀ j < n,D j=true)→SD σ rs D n=SD σ rs (fun _=>true) n
 | 0,_=>rfl
 | n+1,h=>by simp only [SD,h n (by omega),B2b rs n fun j hj=>h j (by omega)]
theorem SD_lt (rs : Nat → Rec) (i:Nat) : ∀ n, i ≤ n → SD σ rs (fun j => Nat.blt j i) n = SD σ rs (fun _ => true) i
  | 0, h => by
    have:i=0:=by omega
    subst this;rfl
  | n + 1, h => by
    by_cases e:i=n+1
    · subst e
      exact B2b rs _ fun j hj=>by simpa using hj
    · have : Nat.blt n i = false := by
        cases hb:Nat.blt n i with
        | false=>rfl
        | true => have : n < i := by simpa using hb
                  omega
      simp only [SD,this]
      exact SD_lt rs i n (by omega)
theorem Am8(rs:List Rec):∀ n,n≤rs.length→SD σ (A8s rs) (fun _=>true) n=σ.recs (rs.take n)
 | 0,_=>by simp [SD,St.recs]
 | n+1,h=>by
  have h1:rs.take (n+1)=rs.take n++[rs[n]'(by omega)]:=by rw[List.take_succ_eq_append_getElem (by omega)]
  simp only [SD,if_true,Am8 rs n (by omega),h1,St.recs,List.foldl_append,List.foldl_cons,List.foldl_nil]
  simp [A8s,List.getElem?_eq_getElem (show n < rs.length by omega)]
theorem At2{ovs:List (Nat×Ov)}{nt:Nat}{ops:Array Oper}:∀(l:List Oper) (i:Nat) (σ:St) (rs:List Rec) (ps:List Prop),Ac4 P T ovs nt ops i l σ=some (rs,ps) →
  rs.length=l.length∧∀(j:Nat) (o:Oper),l[j]?=some o→∃ r p1,rs[j]?=some r∧A42 P T ovs nt ops (i+j) o (σ.recs (rs.take j))=some (r,p1)∧∀ p∈p1,p∈ps
 | [],i,σ,rs,ps,h=>by
  simp only [Ac4,Option.some.injEq,Prod.mk.injEq]at h
  obtain⟨rfl,rfl⟩:=h
  exact⟨rfl,fun j o hj=>by simp at hj⟩
 | o :: l,i,σ,rs,ps,h=>by
  simp only [Ac4]at h
  cases h1:A42 P T ovs nt ops i o σ with
  | none=>rw[h1]at h;cases h
  | some x =>
   obtain⟨r,p1⟩:=x
   rw[h1]at h
   simp only at h
   cases h2:Ac4 P T ovs nt ops (i+1) l (σ.stp r)with
   | none=>rw[h2]at h;cases h
   | some y =>
    obtain⟨rs',p2⟩:=y
    rw[h2]at h
    simp only [Option.some.injEq,Prod.mk.injEq]at h
    obtain⟨rfl,rfl⟩:=h
    obtain⟨e1,e2⟩:=At2 l (i+1) (σ.stp r) rs' p2 h2
    refine⟨by simp [e1],fun j o' hj=>?_⟩
    cases j with
    | zero =>
     simp only [List.getElem?_cons_zero,Option.some.injEq]at hj
     subst hj
     exact⟨r,p1,rfl,by simpa [St.recs]using h1,fun p hp=>List.mem_append_left _ hp⟩
    | succ j =>
     simp only [List.getElem?_cons_succ]at hj
     obtain⟨r',p',e3,e4,e5⟩:=e2 j o' hj
     refine⟨r',p',by simpa using e3,?_,fun p hp=>List.mem_append_right _ (e5 p hp)⟩
     rw[List.take_succ_cons]
     have:i+(j+1)=i+1+j:=by omega
     rw[this]
     exact e4
theorem any_ok {ovs : List (Nat × Ov)} {ops : Array Oper} {Q : Exit → Act → World → Prop} {rs : List Rec} {ps : List Prop} (hT : TabOk P T) (hr : Ac4 P T ovs E.nt ops 0 ops.toList σ = some (rs, ps)) (hp : ∀ p ∈ ps, p)
    (hord:Bt0 ops rs=true) (hQ:∀ a' w',Rel E (σ.recs rs) a' w'→Q .normal a' w') :
    ∀ (fuel:Nat) (listed : Array Bool) (a : Act) (w : World), listed.size = ops.size → A4y ops (fun j => listed.getD j false) → cnt (fun j => !listed.getD j false) ops.size = fuel →
      Rel E (SD σ (A8s rs) (fun j => listed.getD j false) ops.size) a w → wpAny P .any ops Q fuel listed a w := by
  obtain⟨hlen,hget⟩:=At2 (P:=P) (T:=T) ops.toList 0 σ rs ps hr
  have hlen':rs.length=ops.size:=by simpa using hlen
  unfold Bt0 at hord
  simp only [List.all_eq_true,List.mem_range]at hord
  have hall : ∀ j, j < ops.size → ∃ oj rj, ops[j]? = some oj ∧ rs[j]? = some rj ∧ (∀ e ∈ oj.after.toList, Region.binds .any e = true → e.on < j) ∧
      ∀ i, i < j → ∀ oi ri, ops[i]? = some oi → rs[i]? = some ri → cf ops oi oj ri rj = true → ((B0b ops.toList []).getD j 0).testBit i = true := by
    intro j hj
    have h:=hord j hj
    have h1:ops[j]?=some ops[j]:=Array.getElem?_eq_getElem hj
    have h2:rs[j]?=some (rs[j]'(by omega)):=List.getElem?_eq_getElem (by omega)
    refine⟨ops[j],rs[j]'(by omega),h1,h2,?_,?_⟩
    · rw [h1, h2] at h
      simp only [Bool.and_eq_true,List.all_eq_true]at h
      intro e he hb
      have:=h.1 e he
      rw[hb]at this
      simpa using this
    · rw [h1, h2] at h
      simp only [Bool.and_eq_true,List.all_eq_true,List.mem_range]at h
      intro i hi oi ri hoi hri hc
      have:=h.2 i hi
      rw[hoi,hri]at this
      simpa [hc,maskB]using this
  have hmask : ∀ D : Nat → Bool, A4y ops D → ∀ j i, ((B0b ops.toList []).getD j 0).testBit i = true → D j = true → D i = true := by
    intro D hD j i hi hj
    cases hm:(B0b ops.toList [])[j]? with
    | none=>rw[List.getD_eq_getElem?_getD,hm]at hi;simp at hi
    | some m =>
      rw[List.getD_eq_getElem?_getD,hm]at hi
      exact At1 hD ops.toList [] (fun j=>by simp) (fun j m hm=>by simp at hm) j m hm i hi hj
  have hgetD : ∀ (listed : Array Bool) (i:Nat), i < listed.size → listed.getD i true = listed.getD i false := by
    intro listed i hi
    simp [Array.getD,hi]
  have hready : ∀ (listed : Array Bool) i, listed.size = ops.size → (i ∈ Region.ready .any ops listed ↔ ∃ o, ops[i]? = some o ∧ listed.getD i false = false ∧ ∀ e ∈ o.after.toList, Region.binds .any e = true → listed.getD e.on false = true) := by
    intro listed i hsz
    unfold Region.ready
    rw[List.mem_filter,List.mem_range]
    constructor
    · rintro ⟨h1, h2⟩
      have ho:ops[i]?=some ops[i]:=Array.getElem?_eq_getElem h1
      rw[ho]at h2
      simp only [Option.map_some,Option.getD_some,Bool.and_eq_true]at h2
      refine⟨ops[i],ho,by rw[← hgetD listed i (by omega)];simpa using h2.1,fun e he hb=>?_⟩
      have:=h2.2
      rw[Array.all_eq_true_iff_forall_mem]at this
      have:=this e (by simpa using he)
      simpa [hb]using this
    · rintro ⟨o, ho, h1, h2⟩
      have hi : i < ops.size := by
        by_cases h:i < ops.size
        · exact h
        · rw[Array.getElem?_eq_none (by omega)]at ho;cases ho
      refine⟨hi,?_⟩
      rw[ho]
      simp only [Option.map_some,Option.getD_some,Bool.and_eq_true]
      refine⟨by rw[hgetD listed i (by omega),h1];rfl,?_⟩
      rw[Array.all_eq_true_iff_forall_mem]
      intro e he
      by_cases hb:Region.binds .any e=true
      · simp [hb,h2 e (by simpa using he) hb]
      · simp [hb]
  intro fuel
  induction fuel with
  | zero =>
    intro listed a w hsz hcl hcnt hrel
    have hfull:∀ j < ops.size,listed.getD j false=true:=fun j hj=>by simpa using cnt_zero _ hcnt j hj
    refine⟨?_,?_⟩
    · rw [List.eq_nil_iff_forall_not_mem]
      intro i hi
      rw[hready listed i hsz]at hi
      obtain⟨o,ho,h1,_⟩:=hi
      have hi' : i < ops.size := by
        by_cases h:i < ops.size
        · exact h
        · rw[Array.getElem?_eq_none (by omega)]at ho;cases ho
      rw[hfull i hi']at h1
      cases h1
    · rw [B2b _ _ hfull, Am8 rs _ (by omega), List.take_of_length_le (by omega)] at hrel
      exact hQ a w hrel
  | succ fuel ih =>
    intro listed a w hsz hcl hcnt hrel
    refine⟨fun hnil=>?_,fun i hi=>?_⟩
    · exfalso
      obtain⟨i,hi,h1,h2⟩:=B2a (p:=fun j=>!listed.getD j false) ops.size (by omega)
      obtain⟨oj,rj,e1,e2,e3,_⟩:=hall i hi
      have:i∈Region.ready .any ops listed:=(hready listed i hsz).2 ⟨oj,e1,by simpa using h1,fun e he hb=>by simpa using h2 e.on (e3 e he hb)⟩
      rw[hnil]at this
      cases this
    · rw [hready listed i hsz] at hi
      obtain⟨o,ho,h1,h2⟩:=hi
      have hi' : i < ops.size := by
        by_cases h:i < ops.size
        · exact h
        · rw[Array.getElem?_eq_none (by omega)]at ho;cases ho
      obtain⟨oi',ri,e1,e2,e3,e4⟩:=hall i hi'
      rw[ho]at e1
      simp only [Option.some.injEq]at e1
      subst e1
      obtain⟨r,p1,hr1,hr2,hr3⟩:=hget i o (by simpa using ho)
      rw[e2]at hr1
      simp only [Option.some.injEq]at hr1
      subst hr1
      have hri:(A8s rs) i=ri:=by simp [A8s,e2]
      rw[Nat.zero_add]at hr2
      rw[← Am8 rs i (by omega),← SD_lt _ i ops.size (by omega)]at hr2
      have hdst:ri.dst=o.dst:=Ae3 hr2
      have hdsts : ∀ (j:Nat) (oj : Oper) (rj : Rec), ops[j]? = some oj → rs[j]? = some rj → rj.dst = oj.dst := by
        intro j oj rj hoj hrj
        obtain⟨r',p',f1,f2,_⟩:=hget j oj (by simpa using hoj)
        rw[hrj]at f1
        simp only [Option.some.injEq]at f1
        subst f1
        exact Ae3 f2
      -- whatever is not as it was in the order of the text does not meet this one
      have hfar : ∀ j, j < ops.size → j ≠ i → (listed.getD j false ≠ Nat.blt j i) → ∃ oj rj, ops[j]? = some oj ∧ rs[j]? = some rj ∧ cf ops o oj ri rj = false ∨ ∃ oj rj, ops[j]? = some oj ∧ rs[j]? = some rj ∧ cf ops oj o rj ri = false := by
        intro j hj hne hd
        obtain⟨oj,rj,f1,f2,f3,f4⟩:=hall j hj
        by_cases hlt:j < i
        · refine ⟨oj, rj, .inr ⟨oj, rj, f1, f2, ?_⟩⟩
          cases hc:cf ops oj o rj ri with
          | false=>rfl
          | true =>
            exfalso
            have hb:=e4 j hlt oj rj f1 f2 hc
            have hcl' : A4y ops (fun q => listed.getD q false || q == i) := by
              intro q oq hoq hq e he hbd
              simp only [Bool.or_eq_true,beq_iff_eq]at hq ⊢
              rcases hq with hq | rfl
              · exact .inl (hcl q oq hoq hq e he hbd)
              · rw [ho] at hoq
                simp only [Option.some.injEq]at hoq
                subst hoq
                exact .inl (h2 e he hbd)
            have:=hmask _ hcl' i j hb (by simp)
            have hji:(j == i)=false:=by simpa using hne
            simp only [hji,Bool.or_false]at this
            have hbl:Nat.blt j i=true:=by simpa using hlt
            rw[this,hbl]at hd
            exact hd rfl
        · refine ⟨oj, rj, .inl ⟨f1, f2, ?_⟩⟩
          cases hc:cf ops o oj ri rj with
          | false=>rfl
          | true =>
            exfalso
            have hb:=f4 i (by omega) o ri ho e2 hc
            have hbl : Nat.blt j i = false := by
              cases hb':Nat.blt j i with
              | false=>rfl
              | true => have : j < i := by simpa using hb'
                        omega
            rw[hbl]at hd
            have hj':listed.getD j false=true:=by simpa using hd
            have:=hmask _ hcl j i hb hj'
            rw[h1]at this
            cases this
      have cf_split : ∀ {x y : Oper} {rx ry : Rec}, cf ops x y rx ry = false → (∀ d, x.dst = some d → y.dst ≠ some d ∧ d ∉ y.looksAt ops) ∧ (∀ d, y.dst = some d → d ∉ x.looksAt ops) ∧
          (∀ p ∈ rx.ups, (∀ q ∈ ry.ups, q.1 ≠ p.1) ∧ p.1 ∉ ry.rds) ∧ (∀ q ∈ ry.ups, q.1 ∉ rx.rds) := by
        intro x y rx ry h
        unfold cf at h
        simp only [Bool.or_eq_false_iff]at h
        obtain⟨⟨⟨⟨g1,g2⟩,g3⟩,g4⟩,g5⟩:=h
        refine⟨fun d hd=>?_,fun d hd=>?_,fun p hp=>⟨fun q hq e=>?_,fun hm=>?_⟩,fun q hq hm=>?_⟩
        · rw [hd] at g1
          simp only [Bool.or_eq_false_iff]at g1
          exact⟨by simpa using g1.1,by simpa using g1.2⟩
        · rw [hd] at g2
          simpa using g2
        · exact A04 g3 p.1 (List.mem_map.2 ⟨p,hp,rfl⟩) (List.mem_map.2 ⟨q,hq,e⟩)
        · exact A04 g4 p.1 (List.mem_map.2 ⟨p,hp,rfl⟩) hm
        · exact A04 g5 q.1 hm (List.mem_map.2 ⟨q,hq,rfl⟩)
      have hrsj:∀(j:Nat) (rj:Rec),rs[j]?=some rj→(A8s rs) j=rj:=fun j rj h=>by simp [A8s,h]
      have hstep : A42 P T ovs E.nt ops i o (SD σ (A8s rs) (fun j => listed.getD j false) ops.size) = some (ri, p1) := by
        refine Am7 hr2 (fun d hd=>T6 _ fun j hj hne=>?_) (fun q hq=>A1h _ fun j hj hne p hp e=>?_)
        · by_cases hji : j = i
          · subst hji;exact absurd (h1.trans (B28 j).symm) hne
          · obtain ⟨oj, rj, ⟨f1, f2, f3⟩ | ⟨oj, rj, f1, f2, f3⟩⟩ := hfar j hj hji hne
            · rw [hrsj j rj f2, hdsts j oj rj f1 f2]
              exact fun e=>(cf_split f3).2.1 d e hd
            · rw [hrsj j rj f2, hdsts j oj rj f1 f2]
              exact fun e=>((cf_split f3).1 d e).2 hd
        · by_cases hji : j = i
          · subst hji;exact absurd (h1.trans (B28 j).symm) hne
          · obtain ⟨oj, rj, ⟨f1, f2, f3⟩ | ⟨oj, rj, f1, f2, f3⟩⟩ := hfar j hj hji hne
            · rw [hrsj j rj f2] at hp
              exact(cf_split f3).2.2.2 p hp (e ▸ hq)
            · rw [hrsj j rj f2] at hp
              exact((cf_split f3).2.2.1 p hp).2 (e ▸ hq)
      refine At0 hT ho hstep (fun p hp'=>hp p (hr3 p hp')) hrel fun a' w' hrel'=>?_
      have hD : ∀ j, (listed.setIfInBounds i true).getD j false = (listed.getD j false || j == i) := by
        intro j
        by_cases hji:j=i
        · subst hji
          simp [Array.getD,hsz,hi']
        · have : (j == i) = false := by simpa using hji
          rw[this,Bool.or_false,Array.getD_eq_getD_getElem?,Array.getD_eq_getD_getElem?,Array.getElem?_setIfInBounds_ne (by omega)]
      have hcl' : A4y ops (fun j => (listed.setIfInBounds i true).getD j false) := by
        intro q oq hoq hq e he hbd
        simp only [hD,Bool.or_eq_true,beq_iff_eq]at hq ⊢
        rcases hq with hq | rfl
        · exact .inl (hcl q oq hoq hq e he hbd)
        · rw [ho] at hoq
          simp only [Option.some.injEq]at hoq
          subst hoq
          exact .inl (h2 e he hbd)
      refine ih _ a' w' (by simpa using hsz) hcl' ?_ (hrel'.congr ?_ ?_)
      · have := B29 (p := fun j => !listed.getD j false) (q := fun j => !(listed.setIfInBounds i true).getD j false) (i := i) (by simp only [h1]; rfl) (by simp only [hD]; simp) (fun j hj => by
          have:(j == i)=false:=by simpa using hj
          simp only [hD,this,Bool.or_false]) ops.size hi'
        omega
      · funext d
        rw[← hri]
        refine A3q (D:=fun j=>listed.getD j false) hD h1 ops.size hi' fun j hij hj hDj hdi=>?_
        rw[hri,hdst]at hdi
        obtain⟨oj,rj,f1,f2,f3,f4⟩:=hall j hj
        have hne : listed.getD j false ≠ Nat.blt j i := by
          have hDj':listed.getD j false=true:=hDj
          rw[hDj']
          intro hb
          have:j < i:=by simpa using hb.symm
          omega
        obtain⟨oj',rj',⟨g1,g2,g3⟩ | ⟨oj',rj',g1,g2,g3⟩⟩:=hfar j hj (by omega) hne
        · rw [hrsj j rj' g2, hdsts j oj' rj' g1 g2]
          exact((cf_split g3).1 d hdi).1
        · rw [hrsj j rj' g2, hdsts j oj' rj' g1 g2]
          exact fun e=>((cf_split g3).1 d e).1 hdi
      · funext q
        rw[← hri]
        refine Ae4 (D:=fun j=>listed.getD j false) hD h1 ops.size hi' fun j hij hj hDj hdi p hp=>?_
        rw[hri]at hdi
        obtain⟨p0,hp0,e0⟩:=hdi
        obtain⟨oj,rj,f1,f2,f3,f4⟩:=hall j hj
        have hne : listed.getD j false ≠ Nat.blt j i := by
          have hDj':listed.getD j false=true:=hDj
          rw[hDj']
          intro hb
          have:j < i:=by simpa using hb.symm
          omega
        obtain⟨oj',rj',⟨g1,g2,g3⟩ | ⟨oj',rj',g1,g2,g3⟩⟩:=hfar j hj (by omega) hne
        · rw [hrsj j rj' g2] at hp
          rw[← e0]
          exact((cf_split g3).2.2.1 p0 hp0).1 p hp
        · rw [hrsj j rj' g2] at hp
          intro e
          exact((cf_split g3).2.2.1 p hp).1 p0 hp0 (by rw[e0,e])
theorem B0c{ovs:List (Nat×Ov)}{ops:Array Oper}{id:Nat}{Q:Exit→Act→World→Prop}{rs:List Rec}{ps:List Prop}(hm:P.follows .mixedOrders=true)(hT:TabOk P T)(hr:Ac4 P T ovs E.nt ops 0 ops.toList σ=some (rs,ps))(hp:∀ p∈ps,p)
  (hord:Bt0 ops rs=true) (hQ:∀ a' w',Rel E (σ.recs rs) a' w'→Q .normal a' w') (h:Rel E σ a w):(Code.region id ops true).wp P Q a w:=by
 refine wp_region_any hm ?_
 have hrep:(fun j=>(Array.replicate ops.size false).getD j false)=fun _=>false:=by
  funext j
  by_cases hj:j < ops.size <;> simp [Array.getD,hj]
 have hrep':(fun j=>!(Array.replicate ops.size false).getD j false)=fun _=>true:=by
  funext j
  simp [congrFun hrep j]
 have hcnt:∀ n,cnt (fun _=>true) n=n:=by
  intro n
  induction n with
  | zero=>rfl
  | succ n ih=>simp [cnt,ih]
 have hSD:∀ n,SD σ (A8s rs) (fun _=>false) n=σ:=by
  intro n
  induction n with
  | zero=>rfl
  | succ n ih=>simp [SD,ih]
 refine any_ok hT hr hp hord hQ ops.size _ a _ (by simp) (fun j o _ hj=>absurd ((congrFun hrep j).symm.trans hj) (by simp)) (by rw[hrep'];exact hcnt _) ?_
 rw[hrep,hSD]
 exact h.drew
end
end Go.E
namespace Go.E
open Go.RowKit
def AWP(P:Program)(E:Env)(c:Code)(Q:Exit→St→Prop)(σ:St):Prop :=
 ∀ a w,Rel E σ a w→c.wp P (fun e a' w'=>∃ σ',Q e σ'∧Rel E σ' a' w') a w
def B1o(N:St→Prop)(Q:Exit→St→Prop):Exit→St→Prop
 | .normal,σ=>N σ
 | e,σ=>Q e σ
def B6x(id:Nat)(Q:Exit→St→Prop):Exit→St→Prop
 | .exit i,σ=>if i=id then Q .normal σ else Q (.exit i) σ
 | e,σ=>Q e σ
section
variable {P : Program} {E : Env} {T : Tab} {σ : St} {Q : Exit → St → Prop} {c x y : Code}
theorem AWP.mono{Q':Exit→St→Prop}(h:AWP P E c Q σ)(hq:∀ e σ,Q e σ→Q' e σ):AWP P E c Q' σ :=
 fun a w hr=>wp_mono (h a w hr) fun e a' w' ⟨σ',h1,h2⟩=>⟨σ',hq _ _ h1,h2⟩
theorem B6y(h:Q .normal σ):AWP P E .skip Q σ:=fun a w hr=>wp_skip ⟨σ,h,hr⟩
theorem Bg7(h:Q .ret σ):AWP P E .ret Q σ:=fun a w hr=>wp_ret ⟨σ,h,hr⟩
theorem B6z{id:Nat}(h:Q (.exit id) σ):AWP P E (.exit id) Q σ:=fun a w hr=>wp_exit ⟨σ,h,hr⟩
theorem Bg8(h:AWP P E x (B1o (AWP P E y Q) Q) σ):AWP P E (.seq x y) Q σ:=fun a w hr=>wp_seq <| wp_mono (h a w hr) fun e a' w' ⟨σ',h1,h2⟩=>by
 cases e with
 | normal=>exact h1 a' w' h2
 | _=>exact⟨σ',h1,h2⟩
theorem B2c{id:Nat}(h:AWP P E c (B6x id Q) σ):AWP P E (.block id c) Q σ:=fun a w hr=>wp_block <| wp_mono (h a w hr) fun e a' w' ⟨σ',h1,h2⟩=>by
 cases e with
 | exit i =>
  simp only [B6x]at h1
  simp only [Exit.inBlock]
  split at h1
  ·rename_i e;rw[if_pos e];exact⟨σ',h1,h2⟩
  ·rename_i e;rw[if_neg e];exact⟨σ',h1,h2⟩
 | _=>exact⟨σ',h1,h2⟩
theorem A4a{q:Operand}(t:Bool)(hq:σ.ev q=some (.b t))(h1:t=true→AWP P E x Q σ)(h2:t=false→AWP P E y Q σ):AWP P E (.cond q x y) Q σ:=fun a w hr=>by
 obtain⟨pl,hx⟩:=hr
 have hr:=hx.ev hq
 have he:a.eval q=.bool t:=(E3 hr rfl)
 exact wp_cond_split he (fun e=>h1 e a w ⟨pl,hx⟩) (fun e=>h2 e a w ⟨pl,hx⟩)
theorem B70(I:Nat→St→Prop)(n:Nat)(h0:I n σ)(hstep:∀ n σ',I n σ'→AWP P E c (B1o (fun σ''=>∃ m,m < n∧I m σ'') Q) σ'):AWP P E (.loop c) Q σ:=fun a w hr=>by
 let J:Act→World→Prop:=fun a w=>∃ n σ,I n σ∧Rel E σ a w
 have least:∀(p:Nat→Prop),(∃ n,p n)→∃ n,p n∧∀ m,p m→n≤m:=by
  intro p ⟨n,hn⟩
  induction n using Nat.strongRecOn with
  | _ n ih =>
   by_cases hm:∃ m,m < n∧p m
   ·obtain⟨m,h1,h2⟩:=hm
    exact ih m h1 h2
   ·exact⟨n,hn,fun m h1=>Nat.le_of_not_lt fun h2=>hm ⟨m,h2,h1⟩⟩
 have key:∀ n (a:Act) (w:World),(∃ σ,I n σ∧Rel E σ a w)→(Code.loop c).wp P (fun e a' w'=>∃ σ',Q e σ'∧Rel E σ' a' w') a w:=by
  intro n0 a0 w0 h00
  have hμ:∀(a:Act) (w:World),∃ m:Nat,∀ h:J a w,(∃ σ,I m σ∧Rel E σ a w)∧∀ m',(∃ σ,I m' σ∧Rel E σ a w)→m≤m':=by
   intro a w
   by_cases hJ:J a w
   ·obtain⟨n,h1,h2⟩:=least (fun n=>∃ σ,I n σ∧Rel E σ a w) hJ
    exact⟨n,fun _=>⟨h1,h2⟩⟩
   ·exact⟨0,fun h=>absurd h hJ⟩
  let μ:Act→World→Nat:=fun a w=>Classical.choose (hμ a w)
  have hμs:∀(a:Act) (w:World) (h:J a w),(∃ σ,I (μ a w) σ∧Rel E σ a w)∧∀ m',(∃ σ,I m' σ∧Rel E σ a w)→μ a w≤m':=fun a w=>Classical.choose_spec (hμ a w)
  refine wp_loop J μ ⟨n0,h00⟩ fun a w hJ=>?_
  obtain⟨⟨σ1,h1,h2⟩,_⟩:=hμs a w hJ
  refine wp_mono (hstep _ σ1 h1 a w h2) fun e a' w' ⟨σ',h3,h4⟩=>?_
  cases e with
  | normal =>
   obtain⟨m,hm,h5⟩:=h3
   have hJ':J a' w':=⟨m,σ',h5,h4⟩
   have:=(hμs a' w' hJ').2 m ⟨σ',h5,h4⟩
   exact⟨hJ',by omega⟩
  | _=>exact⟨σ',h3,h4⟩
 exact key n a w ⟨σ,h0,hr⟩
theorem A0j{σ':St}(hw:∀ a w,Rel E σ a w→Rel E σ' a w)(h:AWP P E c Q σ'):AWP P E c Q σ:=fun a w hr=>h a w (hw a w hr)
theorem B0d{ovs:List (Nat×Ov)}{ops:Array Oper}{id:Nat}{rs:List Rec}{ps:List Prop}{σ':St}(hT:TabOk P T)(hr:Ac4 P T ovs E.nt ops 0 ops.toList σ=some (rs,ps))(hp:All ps)(hσ:σ.recs rs=σ')(h:Q .normal σ'):AWP P E (.region id ops false) Q σ:=by
 subst hσ
 exact fun a w hr'=>B0a hT hr hp.mem (fun a' w' h'=>⟨_,h,h'⟩) hr'
theorem A71{ovs:List (Nat×Ov)}{ops:Array Oper}{id:Nat}{rs:List Rec}{ps:List Prop}{σ':St}(hm:P.follows .mixedOrders=true)(hT:TabOk P T)(hr:Ac4 P T ovs E.nt ops 0 ops.toList σ=some (rs,ps))(hp:All ps)
  (hord:Bt0 ops rs=true) (hσ:σ.recs rs=σ') (h:Q .normal σ'):AWP P E (.region id ops true) Q σ:=by
 subst hσ
 exact fun a w hr'=>B0c hm hT hr hp.mem hord (fun a' w' h'=>⟨_,h,h'⟩) hr'
/-! ### Narrower states -/
def nAV(hp:Nat→Option Blk)(fz kb:List Nat):Nat→AV→AV
 | 0,_=>.dead
 | d+1,a=>match a with
  | .fn f first cap=>.fn f (first.map (nAV hp fz kb d)) (cap.map (nAV hp fz kb d))
  | .ifc t x=>.ifc t (nAV hp fz kb d x)
  | .own id ver=>nOwn hp fz kb id ver (.own id ver) (.own id 0)
  | .vw id ver lo n=>nOwn hp fz kb id ver (.vw id ver lo n) (.vw id 0 lo n)
  | .ptr id ver r c=>nOwn hp fz kb id ver (.ptr id ver r c) (.ptr id 0 r c)
  | a=>a
where nOwn (hp:Nat→Option Blk) (fz kb:List Nat) (id ver:Nat) (a a':AV):AV :=
 if fz.contains id then(match (B66 a).run hp []with
  | some ((x,ids),_)=>if ids.all fz.contains then x else .dead
  | none=>.dead)
 else if kb.contains id then(match hp id with | some B=>if B.ver == ver && B.live then a' else .dead | none=>.dead)
 else .dead
def nK(hp:Nat→Option Blk)(fz kb:List Nat):BK→BK
 | .var cells=>.var (cells.map (nAV hp fz kb 3))
 | .iter m n seen=>.iter (nAV hp fz kb 3 m) n seen
 | k=>k
def nHp(hp:Nat→Option Blk)(fz kb:List Nat)(id:Nat):Option Blk :=
 if fz.contains id then none else match hp id with
 | some B=>if B.live then some ⟨0,B.ty,nK hp fz kb B.k⟩else none
 | none=>none
def St.norm(σ:St)(fz ks kb:List Nat):St :=
 ⟨ks.filterMap fun t=>(look σ.slots t).map fun a=>(t,nAV (look σ.hp) fz kb 3 a),kb.filterMap fun id=>(nHp (look σ.hp) fz kb id).map fun B=>(id,B)⟩
theorem T7{β:Type}(g:Nat→Option β):∀(l:List Nat) (q:Nat),look (l.filterMap fun t=>(g t).map fun b=>(t,b)) q=if l.contains q then g q else none
 | [],q=>rfl
 | t :: l,q=>by
  have ih:=T7 g l q
  by_cases e:t=q
  ·subst e
   cases hg:g t with
   | none =>
    rw[List.filterMap_cons_none (by simp [hg]),ih,hg]
    simp
   | some b =>
    rw[List.filterMap_cons_some (b:=(t,b)) (by simp [hg])]
    simp [look]
  ·have e':(q == t)=false:=by simpa using fun e'=>e e'.symm
   have e2:(t == q)=false:=by simpa using e
   cases hg:g t with
   | none =>
    rw[List.filterMap_cons_none (by simp [hg]),ih,List.contains_cons,e',Bool.false_or]
   | some b =>
    rw[List.filterMap_cons_some (b:=(t,b)) (by simp [hg])]
    rw[List.contains_cons,e',Bool.false_or,← ih]
    simp only [look,e2,Bool.false_eq_true,if_false]
theorem A3r(σ:St)(fz ks kb:List Nat)(id:Nat):look (σ.norm fz ks kb).hp id=if kb.contains id then nHp (look σ.hp) fz kb id else none:=T7 _ kb id
theorem L0{fz ks kb:List Nat}{id:Nat}{B:Blk}(h:look (σ.norm fz ks kb).hp id=some B):kb.contains id=true∧fz.contains id=false∧∃ B0,look σ.hp id=some B0∧B0.live=true∧B=⟨0,B0.ty,nK (look σ.hp) fz kb B0.k⟩:=by
 rw[A3r]at h
 split at h
 ·rename_i hk
  unfold nHp at h
  split at h
  ·cases h
  ·rename_i hf
   split at h
   ·rename_i B0 hB0
    split at h
    ·rename_i hl
     simp only [Option.some.injEq]at h
     exact⟨hk,by simpa using hf,B0,hB0,hl,h.symm⟩
    ·cases h
   ·cases h
 ·cases h
theorem Bb3(hp:Nat→Option Blk)(fz kb:List Nat)(B:Blk)(v t:Nat):(⟨v,t,nK hp fz kb B.k⟩:Blk).off=B.off:=by
 funext r c
 cases hk:B.k <;> simp [Blk.off,nK,hk]
theorem nK_len(hp:Nat→Option Blk)(fz kb:List Nat)(B:Blk)(v t:Nat):(⟨v,t,nK hp fz kb B.k⟩:Blk).len=B.len:=by
 cases hk:B.k <;> simp [Blk.len,nK,hk]
theorem B2d{pl:Nat→Value}{a:Act}{w:World}(h:RelX E σ pl a w)(fz ks kb:List Nat)(S':Nat→Prop)(hS:∀ k,SS E (look σ.hp) pl w k→S' k)
  (hI:∀ ids:List Nat,ids.all fz.contains=true→InS (look σ.hp) pl S' ids):∀(d:Nat) (av:AV) (v:Value),RelV (look σ.hp) pl (SS E (look σ.hp) pl w) w av v→RelV (look (σ.norm fz ks kb).hp) pl S' w (nAV (look σ.hp) fz kb d av) v:=by
 have dead:∀ v,RelV (look (σ.norm fz ks kb).hp) pl S' w .dead v:=fun v=>.pure _ _ (.dead v)
 have own:∀(id ver:Nat) (av av':AV) (v:Value),RelV (look σ.hp) pl (SS E (look σ.hp) pl w) w av v →
   (∀ B,look σ.hp id=some B→B.ver=ver→B.live=true→look (σ.norm fz ks kb).hp id=some ⟨0,B.ty,nK (look σ.hp) fz kb B.k⟩→RelV (look (σ.norm fz ks kb).hp) pl S' w av' v) →
   RelV (look (σ.norm fz ks kb).hp) pl S' w (nAV.nOwn (look σ.hp) fz kb id ver av av') v:=by
  intro id ver av av' v hv hk
  unfold nAV.nOwn
  split
  ·split
   ·rename_i x ids l hrun
    split
    ·rename_i hall
     obtain⟨_,h2⟩:=A8q h av v [] _ hv hrun
     exact .pure _ _ (h2 S' hS (hI _ hall))
    ·exact dead v
   ·exact dead v
  ·rename_i hf
   split
   ·rename_i hkb
    split
    ·rename_i B hB
     split
     ·rename_i hc
      simp only [Bool.and_eq_true,beq_iff_eq]at hc
      refine hk B hB hc.1 hc.2 ?_
      rw[A3r,if_pos hkb]
      unfold nHp
      rw[if_neg hf,hB]
      simp only [hc.2,if_true]
     ·exact dead v
    ·exact dead v
   ·exact dead v
 intro d
 induction d with
 | zero=>intro av v _;exact dead v
 | succ d ih =>
  intro av v hv
  cases av with
  | fn f first cap =>
   simp only [nAV]
   obtain⟨v1,v2,rfl,n1,n2,r1,r2⟩:∃(v1 v2:List Value),v=.func f v1.toArray v2.toArray∧v1.length=first.length∧v2.length=cap.length ∧
     (∀(j:Nat) (b:AV) (u:Value),first[j]?=some b→v1[j]?=some u→RelV (look σ.hp) pl (SS E (look σ.hp) pl w) w b u) ∧
     (∀(j:Nat) (b:AV) (u:Value),cap[j]?=some b→v2[j]?=some u→RelV (look σ.hp) pl (SS E (look σ.hp) pl w) w b u):=by
    cases hv with
    | pure _ _ h0 =>
     cases h0 with
     | fn _ _ _ v1 v2 l1 l2 h1 h2=>exact⟨v1,v2,rfl,l1,l2,fun j b u hb hu=>.pure _ _ (h1 j b u hb hu),fun j b u hb hu=>.pure _ _ (h2 j b u hb hu)⟩
    | fn _ _ _ v1 v2 l1 l2 h1 h2=>exact⟨v1,v2,rfl,l1,l2,h1,h2⟩
   refine .fn f _ _ v1 v2 (by simp [n1]) (by simp [n2]) (fun j b u hb hu=>?_) (fun j b u hb hu=>?_)
   ·rw[List.getElem?_map]at hb
    cases hq:first[j]? with
    | none=>rw[hq]at hb;cases hb
    | some q=>rw[hq]at hb;simp only [Option.map_some,Option.some.injEq]at hb;subst hb;exact ih q u (r1 j q u hq hu)
   ·rw[List.getElem?_map]at hb
    cases hq:cap[j]? with
    | none=>rw[hq]at hb;cases hb
    | some q=>rw[hq]at hb;simp only [Option.map_some,Option.some.injEq]at hb;subst hb;exact ih q u (r2 j q u hq hu)
  | ifc t x =>
   simp only [nAV]
   obtain⟨v',rfl,h'⟩:∃ v',v=.iface t v'∧RelV (look σ.hp) pl (SS E (look σ.hp) pl w) w x v':=by
    cases hv with
    | pure _ _ h0=>cases h0 with | ifc _ _ v' h'=>exact⟨v',rfl,.pure _ _ h'⟩
    | ifc _ _ v' h'=>exact⟨v',rfl,h'⟩
   exact .ifc t _ v' (ih x v' h')
  | own id ver =>
   simp only [nAV]
   refine own id ver _ _ v hv fun B hB hver hl hB'=>?_
   cases hv with
   | pure _ _ h0=>cases h0
   | own _ _ _ C hC hv' h1 hh =>
    rw[hB]at hC
    simp only [Option.some.injEq]at hC
    subst hC
    exact .own id 0 v _ hB' (Nat.le_refl _) h1 fun _ _=>hh hver.symm hl
  | vw id ver lo n =>
   simp only [nAV]
   refine own id ver _ _ v hv fun B hB hver hl hB'=>?_
   cases hv with
   | pure _ _ h0=>cases h0
   | vw _ _ _ _ _ C hC hv' h1 hh =>
    rw[hB]at hC
    simp only [Option.some.injEq]at hC
    subst hC
    refine .vw id 0 lo n v _ hB' (Nat.le_refl _) h1 fun _ _=>?_
    rw[nK_len,Bb3]
    exact hh hver.symm hl
  | ptr id ver r c =>
   simp only [nAV]
   refine own id ver _ _ v hv fun B hB hver hl hB'=>?_
   cases hv with
   | pure _ _ h0=>cases h0
   | ptr _ _ _ _ _ C hC hv' h1 hh =>
    rw[hB]at hC
    simp only [Option.some.injEq]at hC
    subst hC
    refine .ptr id 0 r c v _ hB' (Nat.le_refl _) h1 fun _ _=>?_
    rw[Bb3]
    exact hh hver.symm hl
  | _ =>
   simp only [nAV]
   cases hv with
   | pure _ _ h0=>exact .pure _ _ (h0.mono hS (fun _ _=>rfl))
theorem Rel.norm{a:Act}{w:World}(h:Rel E σ a w)(fz ks kb:List Nat):Rel E (σ.norm fz ks kb) a w:=by
 obtain⟨pl,h⟩:=h
 refine⟨pl,?_⟩
 have hS:∀ k,SS E (look σ.hp) pl w k→SS E (look (σ.norm fz ks kb).hp) pl w k:=by
  rintro k (hk | ⟨h1,h2,h3⟩)
  ·exact .inl hk
  ·refine .inr ⟨h1,h2,fun id B hB hl=>?_⟩
   obtain⟨_,_,B0,hB0,hl0,_⟩:=L0 hB
   exact h3 id B0 hB0 hl0
 have hI:∀ ids:List Nat,ids.all fz.contains=true→InS (look σ.hp) pl (SS E (look (σ.norm fz ks kb).hp) pl w) ids:=by
  intro ids hall i hi B hB hl k hk
  have hif:fz.contains i=true:=List.all_eq_true.1 hall i hi
  obtain⟨h1,h2⟩:=h.blk_lt hB hl hk
  refine .inr ⟨⟨h1,h.kept.2.2 i B hB hl k hk⟩,h2,fun id C hC hlC e=>?_⟩
  obtain⟨_,hf,C0,hC0,hl0,_⟩:=L0 hC
  have hne:i≠id:=by
   rintro rfl
   rw[hf]at hif
   cases hif
  exact h.dist i id B C0 hB hC0 hl hl0 hne k hk e
 refine⟨h.nt,h.dfr,h.below,fun t av ht=>?_,fun id B hB=>?_,fun id id' B B' hB hB' hl hl' hne k hk=>?_,h.kept.1,fun k hk=>⟨(h.kept.2.1 k hk).1.imp (hS k) id,(h.kept.2.1 k hk).2⟩,fun id B hB hl=>by obtain⟨_,_,B0,hB0,hl0,_⟩:=L0 hB;exact h.kept.2.2 id B0 hB0 hl0⟩
 ·have:look (σ.norm fz ks kb).slots t=if ks.contains t then(look σ.slots t).map (nAV (look σ.hp) fz kb 3)else none:=by
   have:=T7 (fun t=>(look σ.slots t).map (nAV (look σ.hp) fz kb 3)) ks t
   rw[← this]
   unfold St.norm
   simp only [Option.map_map]
   rfl
  rw[this]at ht
  split at ht
  ·cases hs:look σ.slots t with
   | none=>rw[hs]at ht;cases ht
   | some b =>
    rw[hs]at ht
    simp only [Option.map_some,Option.some.injEq]at ht
    subst ht
    obtain⟨v,h1,h2⟩:=h.slots t b hs
    exact⟨v,h1,B2d h fz ks kb _ hS hI 3 b v h2⟩
  ·cases ht
 ·obtain⟨_,_,B0,hB0,hl0,rfl⟩:=L0 hB
  have hb:=h.blks id B0 hB0
  unfold BlkRel at hb ⊢
  cases hk:B0.k with
  | var cells =>
   rw[hk]at hb
   simp only [nK]at hb ⊢
   obtain⟨g,vs,e1,e2,e3,e4,e5,e6⟩:=hb
   refine⟨g,vs,e1,e2,e3,by simp [e4],e5,fun j b u hb hu=>?_⟩
   rw[List.getElem?_map]at hb
   cases hq:cells[j]? with
   | none=>rw[hq]at hb;cases hb
   | some q =>
    rw[hq]at hb
    simp only [Option.map_some,Option.some.injEq]at hb
    subst hb
    exact B2d h fz ks kb _ hS hI 3 q u (e6 j q u hq hu)
  | arr cells =>
   rw[hk]at hb
   simp only [nK]at hb ⊢
   obtain⟨g,vs,e1,e2,e3,e4,e5,e6⟩:=hb
   exact⟨g,vs,e1,e2,e3,e4,e5,fun j b u hb hu=>(e6 j b u hb hu).mono hS (fun _ _=>rfl)⟩
  | row sz rows =>
   rw[hk]at hb
   simp only [nK]at hb ⊢
   obtain⟨e0,xs,e1,e2,e3⟩:=hb
   exact⟨e0,xs,e1,e2,fun j b u hb hu=>(e3 j b u hb hu).mono hS (fun _ _=>rfl)⟩
  | map rows =>
   rw[hk]at hb
   simp only [nK]at hb ⊢
   obtain⟨g,es,e1,e2,e3,e4,e5⟩:=hb
   refine⟨g,es,e1,e2,e3,e4,fun j r hj=>?_⟩
   obtain⟨x,b,e,f1,f2,f3,f4,f5⟩:=e5 j r hj
   exact⟨x,b,e,f1,f2,f3,f4,f5.mono hS (fun _ _=>rfl)⟩
  | iter m n seen =>
   rw[hk]at hb
   simp only [nK]at hb ⊢
   obtain⟨g,r,e1,e2,e3,e4⟩:=hb
   exact⟨g,r,e1,e2,e3,B2d h fz ks kb _ hS hI 3 m _ e4⟩
  | gone=>simp only [nK]
 ·obtain⟨_,_,B0,hB0,hl0,rfl⟩:=L0 hB
  obtain⟨_,_,C0,hC0,hl1,rfl⟩:=L0 hB'
  exact h.dist id id' B0 C0 hB0 hC0 hl0 hl1 hne k hk
theorem S5(fz ks kb:List Nat){σ':St}(he:σ.norm fz ks kb=σ')(h:AWP P E c Q σ'):AWP P E c Q σ:=A0j (fun a w hr=>he ▸ hr.norm fz ks kb) h
def sw(i j n:Nat):Nat:=if n=i then j else if n=j then i else n
theorem B0e(i j n:Nat):sw i j (sw i j n)=n:=by
 unfold sw
 by_cases h1:n=i
 ·subst h1
  by_cases h2:j=n
  ·simp [h2]
  ·simp [h2]
 ·by_cases h2:n=j
  ·subst h2;simp [h1]
  ·simp [h1,h2]
theorem sw_inj{i j m n:Nat}(h:sw i j m=sw i j n):m=n:=by rw[← B0e i j m,h,B0e]
def B67(i j:Nat):Nat→AV→AV
 | 0,_=>.dead
 | d+1,a=>match a with
  | .fn f first cap=>.fn f (first.map (B67 i j d)) (cap.map (B67 i j d))
  | .ifc t x=>.ifc t (B67 i j d x)
  | .own id ver=>.own (sw i j id) ver
  | .vw id ver lo n=>.vw (sw i j id) ver lo n
  | .ptr id ver r c=>.ptr (sw i j id) ver r c
  | a=>a
def swK(i j:Nat):BK→BK
 | .var cells=>.var (cells.map (B67 i j 3))
 | .iter m n seen=>.iter (B67 i j 3 m) n seen
 | k=>k
def swB(i j:Nat)(B:Blk):Blk:=⟨B.ver,B.ty,swK i j B.k⟩
def St.swap(σ:St)(i j:Nat):St:=⟨σ.slots.map fun p=>(p.1,B67 i j 3 p.2),σ.hp.map fun p=>(sw i j p.1,swB i j p.2)⟩
def St.swaps(σ:St)(l:List (Nat×Nat)):St:=l.foldl (fun σ p=>σ.swap p.1 p.2) σ
theorem Ae6{β γ:Type}(f:β→γ):∀(l:List (Nat×β)) (t:Nat),look (l.map fun p=>(p.1,f p.2)) t=(look l t).map f
 | [],t=>rfl
 | (k,v) :: l,t=>by
  simp only [List.map_cons,look]
  split
  ·rfl
  ·exact Ae6 f l t
theorem Ae7{β γ:Type}(f:β→γ)(i j:Nat):∀(l:List (Nat×β)) (t:Nat),look (l.map fun p=>(sw i j p.1,f p.2)) t=(look l (sw i j t)).map f
 | [],t=>rfl
 | (k,v) :: l,t=>by
  have ih:=Ae7 f i j l t
  simp only [List.map_cons,look]
  by_cases e:sw i j k=t
  ·have e2:k=sw i j t:=by rw[← e,B0e]
   simp [e,← e2]
  ·have e2:¬ k=sw i j t:=fun h=>e (by rw[h,B0e])
   have e':(sw i j k == t)=false:=by simpa using e
   have e2':(k == sw i j t)=false:=by simpa using e2
   simp only [e',e2',Bool.false_eq_true,if_false]
   exact ih
theorem B71{S:Nat→Prop}{w:World}(i j:Nat):∀(d:Nat) {a:AV} {v:Value},RelV0 S w a v→RelV0 S w (B67 i j d a) v
 | 0,a,v,h=>.dead v
 | d+1,a,v,h=>by
  cases h with
  | fn f first cap v1 v2 l1 l2 h1 h2 =>
   refine .fn f _ _ v1 v2 (by simp [l1]) (by simp [l2]) (fun k b u hb hu=>?_) (fun k b u hb hu=>?_)
   ·rw[List.getElem?_map]at hb
    obtain⟨b0,hb0,rfl⟩:=Option.map_eq_some_iff.1 hb
    exact B71 i j d (h1 k b0 u hb0 hu)
   ·rw[List.getElem?_map]at hb
    obtain⟨b0,hb0,rfl⟩:=Option.map_eq_some_iff.1 hb
    exact B71 i j d (h2 k b0 u hb0 hu)
  | ifc t x v h=>exact .ifc t _ v (B71 i j d h)
  | b x=>exact .b x
  | i k n=>exact .i k n
  | s x=>exact .s x
  | agg cs vs hl h1 h=>exact .agg cs vs hl h1 h
  | sl rows A cap sz u hc hm hn hsz hA h1 h=>exact .sl rows A cap sz u hc hm hn hsz hA h1 h
  | nl=>exact .nl
  | eptr cs ad u hS hA h1 h=>exact .eptr cs ad u hS hA h1 h
  | np=>exact .np
  | nilf=>exact .nilf
  | nili=>exact .nili
  | tup cs vs hl h=>exact .tup cs vs hl h
  | dead v=>exact .dead v
theorem X2(i j:Nat)(B:Blk):(swB i j B).live=B.live:=by cases B with | mk v t k=>cases k <;> rfl
theorem B2e(i j:Nat)(B:Blk):(swB i j B).off=B.off:=by cases B with | mk v t k=>cases k <;> rfl
theorem Bg9(i j:Nat)(B:Blk):(swB i j B).len=B.len:=by cases B with | mk v t k=>cases k <;> simp [swB,swK,Blk.len]
theorem A4b{hp hp':Nat→Option Blk}{pl pl':Nat→Value}{S:Nat→Prop}{w:World}(i j:Nat)(hh:∀ id B,hp id=some B→hp' (sw i j id)=some (swB i j B))(hl:∀ id,pl' (sw i j id)=pl id) :
  ∀(d:Nat) {a:AV} {v:Value},RelV hp pl S w a v→RelV hp' pl' S w (B67 i j d a) v
 | 0,a,v,h=>.pure _ _ (.dead v)
 | d+1,a,v,h=>by
  cases h with
  | pure a v h=>exact .pure _ _ (B71 i j (d+1) h)
  | own id ver v B hB hv h1 h=>exact .own _ ver v (swB i j B) (hh id B hB) hv h1 fun e hlv=>by rw[hl];exact h e (by rwa [X2]at hlv)
  | vw id ver lo n v B hB hv h1 h=>exact .vw _ ver lo n v (swB i j B) (hh id B hB) hv h1 fun e hlv=>by rw[hl,Bg9,B2e];exact h e (by rwa [X2]at hlv)
  | ptr id ver r c v B hB hv h1 h=>exact .ptr _ ver r c v (swB i j B) (hh id B hB) hv h1 fun e hlv=>by rw[hl,B2e];exact h e (by rwa [X2]at hlv)
  | fn f first cap v1 v2 l1 l2 h1 h2 =>
   refine .fn f _ _ v1 v2 (by simp [l1]) (by simp [l2]) (fun k b u hb hu=>?_) (fun k b u hb hu=>?_)
   ·rw[List.getElem?_map]at hb
    obtain⟨b0,hb0,rfl⟩:=Option.map_eq_some_iff.1 hb
    exact A4b i j hh hl d (h1 k b0 u hb0 hu)
   ·rw[List.getElem?_map]at hb
    obtain⟨b0,hb0,rfl⟩:=Option.map_eq_some_iff.1 hb
    exact A4b i j hh hl d (h2 k b0 u hb0 hu)
  | ifc t x v h=>exact .ifc t _ v (A4b i j hh hl d h)
theorem Rel.swap{a:Act}{w:World}(h:Rel E σ a w)(i j:Nat):Rel E (σ.swap i j) a w:=by
 obtain⟨pl,h⟩:=h
 have lh:∀ id,look (σ.swap i j).hp id=(look σ.hp (sw i j id)).map (swB i j):=fun id=>Ae7 _ i j _ id
 have ls:∀ t,look (σ.swap i j).slots t=(look σ.slots t).map (B67 i j 3):=fun t=>Ae6 _ _ t
 have hh:∀ id B,look σ.hp id=some B→look (σ.swap i j).hp (sw i j id)=some (swB i j B):=fun id B hB=>by rw[lh,B0e,hB];rfl
 have hb:∀ {id:Nat} {B:Blk},look (σ.swap i j).hp id=some B→∃ B0,look σ.hp (sw i j id)=some B0∧B=swB i j B0:=by
  intro id B hB
  rw[lh]at hB
  obtain⟨B0,h0,rfl⟩:=Option.map_eq_some_iff.1 hB
  exact⟨B0,h0,rfl⟩
 have hS:∀ k,SS E (look σ.hp) pl w k→SS E (look (σ.swap i j).hp) (fun id=>pl (sw i j id)) w k:=by
  rintro k (hk | ⟨h1,h2,h3⟩)
  ·exact .inl hk
  ·refine .inr ⟨h1,h2,fun id B hB hl=>?_⟩
   obtain⟨B0,h0,rfl⟩:=hb hB
   exact h3 _ B0 h0 (by rwa [X2]at hl)
 have rel:∀(d:Nat) {av:AV} {v:Value},RelV (look σ.hp) pl (SS E (look σ.hp) pl w) w av v→RelV (look (σ.swap i j).hp) (fun id=>pl (sw i j id)) (SS E (look (σ.swap i j).hp) (fun id=>pl (sw i j id)) w) w (B67 i j d av) v:=by
  intro d av v hr
  exact(A4b i j hh (fun id=>by rw[B0e]) d hr).mono (Al5.refl _ _) hS (fun _ _=>rfl)
 refine⟨fun id=>pl (sw i j id),h.nt,h.dfr,h.below,fun t av ht=>?_,fun id B hB=>?_,fun id id' B B' hB hB' hl hl' hne k hk=>?_,h.kept.1,fun k hk=>⟨(h.kept.2.1 k hk).1.imp (hS k) id,(h.kept.2.1 k hk).2⟩,fun id B hB hl=>by obtain⟨B0,h0,rfl⟩:=hb hB;exact h.kept.2.2 _ B0 h0 (by rwa [X2]at hl)⟩
 ·rw[ls]at ht
  obtain⟨a0,h0,rfl⟩:=Option.map_eq_some_iff.1 ht
  obtain⟨v,h1,h2⟩:=h.slots t a0 h0
  exact⟨v,h1,rel 3 h2⟩
 ·obtain⟨B0,h0,rfl⟩:=hb hB
  have h1:=h.blks _ B0 h0
  obtain⟨ver,ty,k⟩:=B0
  cases k with
  | var cells =>
   obtain⟨g,vs,e1,e2,e3,e4,e5,e6⟩:=h1
   refine⟨g,vs,e1,e2,e3,by simp [e4],e5,fun q b u hb' hu=>?_⟩
   rw[List.getElem?_map]at hb'
   obtain⟨b0,hb0,rfl⟩:=Option.map_eq_some_iff.1 hb'
   exact rel 3 (e6 q b0 u hb0 hu)
  | arr cells =>
   obtain⟨g,vs,e1,e2,e3,e4,e5,e6⟩:=h1
   exact⟨g,vs,e1,e2,e3,e4,e5,fun q b u hb' hu=>(e6 q b u hb' hu).mono hS (fun _ _=>rfl)⟩
  | row sz rows =>
   obtain⟨e0,xs,e1,e2,e3⟩:=h1
   exact⟨e0,xs,e1,e2,fun q b u hb' hu=>(e3 q b u hb' hu).mono hS (fun _ _=>rfl)⟩
  | map rows =>
   obtain⟨g,es,e1,e2,e3,e4,e5⟩:=h1
   refine⟨g,es,e1,e2,e3,e4,fun q r hq=>?_⟩
   obtain⟨x,b,e,f1,f2,f3,f4,f5⟩:=e5 q r hq
   exact⟨x,b,e,f1,f2,f3,f4,f5.mono hS (fun _ _=>rfl)⟩
  | iter m n seen =>
   obtain⟨g,r,e1,e2,e3,e4⟩:=h1
   exact⟨g,r,e1,e2,e3,rel 3 e4⟩
  | gone=>trivial
 ·obtain⟨B0,h0,rfl⟩:=hb hB
  obtain⟨B0',h0',rfl⟩:=hb hB'
  exact h.dist _ _ B0 B0' h0 h0' (by rwa [X2]at hl) (by rwa [X2]at hl') (fun e=>hne (sw_inj e)) k hk
theorem Rel.swaps{a:Act}{w:World}:∀(l:List (Nat×Nat)) {σ:St},Rel E σ a w→Rel E (σ.swaps l) a w
 | [],σ,h=>h
 | p :: l,σ,h=>Rel.swaps l (h.swap p.1 p.2)
def St.adopt(σ:St)(s id ty sz:Nat):Option St :=
 match look σ.slots s,look σ.hp id with
 | some .nl,none=>some ⟨put σ.slots s (.own id 0),put σ.hp id ⟨0,ty,.row sz []⟩⟩
 | _,_=>none
theorem Rel.adopt{σ':St}{s id ty sz:Nat}{a:Act}{w:World}(hs:σ.adopt s id ty sz=some σ')(h:Rel E σ a w):Rel E σ' a w:=by
 unfold St.adopt at hs
 split at hs
 ·rename_i h1 h2
  simp only [Option.some.injEq]at hs
  subst hs
  obtain⟨pl,h⟩:=h
  have hpl:∀ i,look σ.hp i≠none→(if i=id then Value.slice none 0 0 else pl i)=pl i:=fun i hi=>by
   rw[if_neg];rintro rfl;exact hi h2
  have hl':∀ i,look (put σ.hp id ⟨0,ty,.row sz []⟩) i=if id=i then some ⟨0,ty,.row sz []⟩else look σ.hp i:=fun i=>C8 _ _ _ _
  have hE:Al5 (look σ.hp) pl (look (put σ.hp id ⟨0,ty,.row sz []⟩)) (fun i=>if i=id then Value.slice none 0 0 else pl i):=by
   intro i B hB
   have hne:id≠i:=by rintro rfl;rw[h2]at hB;cases hB
   refine⟨B,by rw[hl',if_neg hne,hB],.inr ⟨rfl,fun hl=>⟨hl,?_,rfl,Nat.le_refl _⟩⟩⟩
   exact hpl i (by rw[hB];simp)
  have hS:∀ k,SS E (look σ.hp) pl w k→SS E (look (put σ.hp id ⟨0,ty,.row sz []⟩)) (fun i=>if i=id then Value.slice none 0 0 else pl i) w k:=by
   rintro k (hk | ⟨g1,g2,g3⟩)
   ·exact .inl hk
   ·refine .inr ⟨g1,g2,fun i B hB hl=>?_⟩
    rw[hl']at hB
    split at hB
    ·rename_i e
     subst e
     simp [blkOf]
    ·rename_i e
     simp only [hpl i (by rw[hB];simp)]
     exact g3 i B hB hl
  have hm:=h.mem (pl':=fun i=>if i=id then Value.slice none 0 0 else pl i) (put σ.hp id ⟨0,ty,.row sz []⟩) hE hS (fun _ _=>rfl) (Nat.le_refl _) h.below (fun i B hB=>?_) (fun i i' B B' hB hB' hl hl2 hne k hk=>?_) (fun i B hB hl k hk=>by
    rw[hl']at hB
    split at hB
    ·rename_i e
     subst e
     simp [blkOf]at hk
    ·simp only [hpl i (by rw[hB];simp)]at hk
     exact h.kept.2.2 i B hB hl k hk)
  ·refine⟨_,hm.nt,hm.dfr,hm.below,fun t av ht=>?_,hm.blks,hm.dist,hm.kept⟩
   simp only [C8]at ht
   split at ht
   ·rename_i e
    subst e
    simp only [Option.some.injEq]at ht
    subst ht
    obtain⟨v,e1,e2⟩:=h.slots s _ h1
    have:v=.slice none 0 0:=by
     cases e2 with
     | pure _ _ h0=>cases h0;rfl
    subst this
    exact⟨_,e1,.own id 0 _ ⟨0,ty,.row sz []⟩ (by rw[hl',if_pos rfl]) (Nat.le_refl _) rfl fun _ _=>by simp⟩
   ·exact hm.slots t av ht
  ·rw[hl']at hB
   split at hB
   ·rename_i e
    subst e
    simp only [Option.some.injEq]at hB
    subst hB
    simp only [BlkRel,if_true]
    exact⟨fun r hr=>by simp at hr,[],⟨by simp,.inl ⟨rfl,rfl⟩⟩,fun u hu=>by simp at hu,fun j a u ha=>by simp at ha⟩
   ·rename_i e
    simp only [hpl i (by rw[hB];simp)]
    exact(h.blks i B hB).keep hE hS (fun _ _=>rfl) (fun _ _ _=>rfl)
  ·rw[hl']at hB hB'
   split at hB
   ·rename_i e
    subst e
    simp [blkOf]at hk
   ·rename_i e
    simp only [hpl i (by rw[hB];simp)]at hk
    split at hB'
    ·rename_i e'
     subst e'
     simp [blkOf]
    ·rename_i e'
     simp only [hpl i' (by rw[hB'];simp)]
     exact h.dist i i' B B' hB hB' hl hl2 hne k hk
 ·cases hs
theorem G0(s id ty sz:Nat){σ':St}(he:σ.adopt s id ty sz=some σ')(h:AWP P E c Q σ'):AWP P E c Q σ:=A0j (fun a w hr=>hr.adopt he) h
def O9:Nat→List AV→List (Nat×AV)
 | _,[]=>[]
 | i,a :: l=>(i,a) :: O9 (i+1) l
theorem X3:∀(l:List AV) (i j:Nat),look (O9 i l) j=if i≤j then l[j-i]? else none
 | [],i,j=>by simp [O9,look]
 | a :: l,i,j=>by
  have ih:=X3 l (i+1) j
  by_cases e:i=j
  ·subst e;simp [O9,look]
  ·have:(i == j)=false:=by simpa using e
   simp only [O9,look,this,Bool.false_eq_true,if_false,ih]
   by_cases h:i≤j
   ·rw[if_pos (by omega),if_pos h]
    obtain⟨q,hq⟩:∃ q,j-i=q+1:=⟨j-i-1,by omega⟩
    have:j-(i+1)=q:=by omega
    rw[this,hq]
    rfl
   ·rw[if_neg (by omega),if_neg h]
def resA(T:Tab)(σ:St):ResultVar→Option (AV×List Prop)
 | .tmp t=>(look σ.slots t).map fun a=>(a,[])
 | .cell q t=>match look σ.slots q,look T t with
  | some (.ptr id ver 0 0),some ti=>(match look σ.hp id with
   | some B=>if B.ver == ver then(match B.k with
    | .var cells=>if ti.isAgg then(if cells.length == ti.size && cells.all fun a=>W6 a && Bf9 a then some (.agg cells,[])else none)
      else(match cells with | [a]=>some (a,[]) | _=>none)
    | .arr cells=>if ti.isAgg then some (.agg cells,[cells.length=ti.size])else none
    | _=>none)else none
   | none=>none)
  | _,_=>none
def B72(T:Tab)(rs:List ResultVar)(σ:St):Option (AV×List Prop) :=
 match rs.mapM (resA T σ)with
 | some avs=>(match (I4 B03 (avs.map (·.1))).run (look σ.hp) []with
  | some (l,log)=>(match (A01 (l.flatMap (·.2))).run (look σ.hp) log with
   | some _=>some (match l.map (·.1)with | [x]=>x | xs=>.tup xs,(avs.map (·.2)).flatten)
   | none=>none)
  | none=>none)
 | none=>none
def B73(T:Tab)(rs:List ResultVar)(res:AV)(σ:St):Prop:=∃ r obl,B72 T rs σ=some (r,obl)∧All obl∧B9 r res
def Bt1(T:Tab)(rs:List ResultVar)(res:AV):Exit→St→Prop
 | .normal,σ=>B73 T rs res σ
 | .ret,σ=>B73 T rs res σ
 | _,_=>False
theorem Ae8{α β:Type}{f:α→Option β}:∀ {l:List α} {m:List β},l.mapM f=some m→m.length=l.length∧∀(j:Nat) (x:α),l[j]?=some x→∃ y,m[j]?=some y∧f x=some y
 | [],m,h=>by simp at h;subst h;exact⟨rfl,fun j x hx=>by simp at hx⟩
 | x :: l,m,h=>by
  rw[List.mapM_cons]at h
  cases h1:f x with
  | none=>simp [h1]at h
  | some y =>
   cases h2:l.mapM f with
   | none=>simp [h1,h2]at h
   | some ys =>
    simp [h1,h2]at h
    subst h
    obtain⟨e1,e2⟩:=Ae8 h2
    refine⟨by simp [e1],fun j z hz=>?_⟩
    cases j with
    | zero=>simp at hz;subst hz;exact⟨y,rfl,h1⟩
    | succ j=>obtain⟨u,e3,e4⟩:=e2 j z (by simpa using hz);exact⟨u,by simpa using e3,e4⟩
def G3(tmps:Array Value):ResultVar→Sem Value
 | .tmp t=>pure (tmps.getD t undef)
 | .cell a t=>do loadVar t (← asAddr (tmps.getD a undef))
theorem B74{w:World}{t:TypeId}{ti:TI}(hT:TabOk P T)(ht:look T t=some ti)(hg:ti.isAgg=false){ad:Addr}{v:Value}(hc:w.cell? ad=some v):(loadVar t ad).run P w=.ok v w:=by
 simp [loadVar,A4r hT ht,hg,hc]
theorem At3{w:World}{t:TypeId}{ti:TI}(hT:TabOk P T)(ht:look T t=some ti)(hg:ti.isAgg=true){ad:Addr}{vs:List Value}(hl:vs.length=ti.size)(hc:∀ j v,vs[j]?=some v→w.cell? (ad.add j)=some v) :
  (loadVar t ad).run P w=.ok (.agg vs.toArray) w:=by
 have:=run_loadCells_list (P:=P) w ad vs hc
 rw[hl]at this
 simp [loadVar,A4r hT ht,hg,Ac9 hT ht,this]
theorem B75{a:Act}{w:World}{pl:Nat→Value}(hT:TabOk P T)(h:RelX E σ pl a w){rv:ResultVar}{av:AV}{obl:List Prop}(hr:resA T σ rv=some (av,obl))(ho:∀ p∈obl,p) :
  ∃ v,(G3 a.tmps rv).run P w=.ok v w∧RelV (look σ.hp) pl (SS E (look σ.hp) pl w) w av v:=by
 cases rv with
 | tmp t =>
  simp only [resA]at hr
  cases hs:look σ.slots t with
  | none=>rw[hs]at hr;cases hr
  | some b =>
   rw[hs]at hr
   simp only [Option.map_some,Option.some.injEq,Prod.mk.injEq]at hr
   obtain⟨rfl,rfl⟩:=hr
   obtain⟨v,h1,h2⟩:=h.slots t b hs
   refine⟨v,?_,h2⟩
   simp [G3,Array.getD_eq_getD_getElem?,h1]
 | cell q t =>
  simp only [resA]at hr
  split at hr
  ·rename_i id ver ti hs ht
   obtain⟨v0,h1,h2⟩:=h.slots q _ hs
   split at hr
   ·rename_i B hB
    split at hr
    ·rename_i hv
     have hver:B.ver=ver:=by simpa using hv
     split at hr
     ·rename_i cells hk
      have hl:B.live=true:=by simp [Blk.live,hk]
      obtain⟨g,hg,he⟩:=K1 h2 hB hver hl
      obtain⟨g',vs,hp1,hp2,hp3,hp4,hp5⟩:=h.varCell hB hk
      rw[hp1]at hg
      simp only [blkOf,Option.some.injEq]at hg
      subst hg
      have hoff:B.off 0 0=0:=by simp [Blk.off,hk]
      rw[hoff]at he
      subst he
      split at hr
      ·rename_i hag
       split at hr
       ·rename_i hc
        simp only [Option.some.injEq,Prod.mk.injEq]at hr
        obtain⟨rfl,rfl⟩:=hr
        simp only [Bool.and_eq_true,beq_iff_eq,List.all_eq_true]at hc
        refine⟨.agg vs.toList.toArray,?_,.pure _ _ (.agg _ _ (by simp [hp3]) hp4 (fun j av u ha hu=>?_))⟩
        ·simp only [G3,Sem.run_bind,Array.getD_eq_getD_getElem?,h1,Option.getD_some]
         show(loadVar t ⟨g',0,none⟩).run P w=_
         rw[At3 hT ht hag (vs:=vs.toList) (by simp [hp3,hc.1]) (fun j v hj=>by rw[G2,T4 w g' _ vs _ _ hp2];simpa using hj)]
        ·have hm:=hc.2 av (List.mem_of_getElem? ha)
         exact L7 (hp5 j av u ha (by simpa using hu)) (by simpa using hm.1)
       ·cases hr
      ·rename_i hag
       split at hr
       ·rename_i b
        simp only [Option.some.injEq,Prod.mk.injEq]at hr
        obtain⟨rfl,rfl⟩:=hr
        have hq:vs[0]?=some (vs[0]'(by simp at hp3;omega)):=by rw[Array.getElem?_eq_getElem]
        refine⟨vs[0]'(by simp at hp3;omega),?_,hp5 0 b _ rfl hq⟩
        simp only [G3,Sem.run_bind,Array.getD_eq_getD_getElem?,h1,Option.getD_some]
        show(loadVar t ⟨g',0,none⟩).run P w=_
        rw[B74 hT ht (by simpa using hag) (by rw[T4 w g' _ vs _ _ hp2];exact hq)]
       ·cases hr
     ·rename_i cells hk
      have hl:B.live=true:=by simp [Blk.live,hk]
      obtain⟨g,hg,he⟩:=K1 h2 hB hver hl
      obtain⟨g',vs,hp1,hp2,hp3,hp4,hp5⟩:=h.arrCell hB hk
      rw[hp1]at hg
      simp only [blkOf,Option.some.injEq]at hg
      subst hg
      have hoff:B.off 0 0=0:=by simp [Blk.off,hk]
      rw[hoff]at he
      subst he
      split at hr
      ·rename_i hag
       simp only [Option.some.injEq,Prod.mk.injEq]at hr
       obtain⟨rfl,rfl⟩:=hr
       have hsz:cells.length=ti.size:=ho _ (by simp)
       refine⟨.agg vs.toList.toArray,?_,.pure _ _ (.agg _ _ (by simp [hp3]) hp4 (fun j av u ha hu=>hp5 j av u ha (by simpa using hu)))⟩
       simp only [G3,Sem.run_bind,Array.getD_eq_getD_getElem?,h1,Option.getD_some]
       show(loadVar t ⟨g',0,none⟩).run P w=_
       rw[At3 hT ht hag (vs:=vs.toList) (by simp [hp3,hsz]) (fun j v hj=>by rw[G2,T4 w g' _ vs _ _ hp2];simpa using hj)]
      ·cases hr
     ·cases hr
    ·cases hr
   ·cases hr
  ·cases hr
theorem A05{fn:Func}{r1:ResultVar}(h:fn.results=#[r1]){tmps:Array Value}{w:World}{v1:Value}(h1:(G3 tmps r1).run P w=.ok v1 w):(results fn tmps).run P w=.ok v1 w:=by
 show(do let vs ← fn.results.mapM (G3 tmps);pure (if h:vs.size=1 then vs[0]else .tuple vs):Sem Value).run P w=_
 rw[h]
 simp [Sem.run_bind,h1]
theorem Ae9{fn:Func}{r1 r2:ResultVar}(h:fn.results=#[r1,r2]){tmps:Array Value}{w:World}{v1 v2:Value}(h1:(G3 tmps r1).run P w=.ok v1 w)(h2:(G3 tmps r2).run P w=.ok v2 w):(results fn tmps).run P w=.ok (.tuple #[v1,v2]) w:=by
 show(do let vs ← fn.results.mapM (G3 tmps);pure (if h:vs.size=1 then vs[0]else .tuple vs):Sem Value).run P w=_
 rw[h]
 simp [Sem.run_bind,h1,h2]
theorem Af0{fn:Func}{r1 r2 r3:ResultVar}(h:fn.results=#[r1,r2,r3]){tmps:Array Value}{w:World}{v1 v2 v3:Value}(h1:(G3 tmps r1).run P w=.ok v1 w)(h2:(G3 tmps r2).run P w=.ok v2 w)(h3:(G3 tmps r3).run P w=.ok v3 w):(results fn tmps).run P w=.ok (.tuple #[v1,v2,v3]) w:=by
 show(do let vs ← fn.results.mapM (G3 tmps);pure (if h:vs.size=1 then vs[0]else .tuple vs):Sem Value).run P w=_
 rw[h]
 simp [Sem.run_bind,h1,h2,h3]
theorem Af1{fn:Func}{r1 r2 r3 r4:ResultVar}(h:fn.results=#[r1,r2,r3,r4]){tmps:Array Value}{w:World}{v1 v2 v3 v4:Value}(h1:(G3 tmps r1).run P w=.ok v1 w)(h2:(G3 tmps r2).run P w=.ok v2 w)(h3:(G3 tmps r3).run P w=.ok v3 w)(h4:(G3 tmps r4).run P w=.ok v4 w):(results fn tmps).run P w=.ok (.tuple #[v1,v2,v3,v4]) w:=by
 show(do let vs ← fn.results.mapM (G3 tmps);pure (if h:vs.size=1 then vs[0]else .tuple vs):Sem Value).run P w=_
 rw[h]
 simp [Sem.run_bind,h1,h2,h3,h4]
theorem Am9{a:Act}{w:World}{pl:Nat→Value}(hT:TabOk P T)(fn:Func)(rs:List ResultVar)(hts:fn.results=rs.toArray)(hlen:rs.length≤4)(h:RelX E σ pl a w){res:AV}(hres:B73 T rs res σ) :
  ∃ v,(results fn a.tmps).run P w=.ok v w∧RelV0 (fun k=>E.S0 k∨(E.w0.heap.size≤k∧k < w.heap.size)) w res v:=by
 obtain⟨r0,obl,hres,hobl,hle⟩:=hres
 suffices hs:∃ v,(results fn a.tmps).run P w=.ok v w∧RelV0 (fun k=>E.S0 k∨(E.w0.heap.size≤k∧k < w.heap.size)) w r0 v by
  obtain⟨v,h1,h2⟩:=hs
  exact⟨v,h1,hle _ _ _ h2⟩
 unfold B72 at hres
 split at hres
 ·rename_i avs havs
  split at hres
  ·rename_i l log hl
   split at hres
   ·rename_i q hg
    simp only [Option.some.injEq,Prod.mk.injEq]at hres
    obtain⟨hres,hobl'⟩:=hres
    subst hobl'
    obtain⟨m1,m2⟩:=Ae8 havs
    have hget:∀(j:Nat) (rv:ResultVar),rs[j]?=some rv→∃ b v,avs[j]?=some b∧(G3 a.tmps rv).run P w=.ok v w∧RelV (look σ.hp) pl (SS E (look σ.hp) pl w) w b.1 v:=by
     intro j rv hj
     obtain⟨b,h1,h2⟩:=m2 j rv hj
     obtain⟨v,h3,h4⟩:=B75 hT h h2 (fun p hp=>hobl.mem p (List.mem_flatten.2 ⟨b.2,List.mem_map.2 ⟨b,List.mem_of_getElem? h1,rfl⟩,hp⟩))
     exact⟨b,v,h1,h3,h4⟩
    have hvs:∃ vs:List Value,vs.length=rs.length∧(∀(j:Nat) (rv:ResultVar) (v:Value),rs[j]?=some rv→vs[j]?=some v→(G3 a.tmps rv).run P w=.ok v w) ∧
      ∀(j:Nat) (b:AV) (u:Value),(avs.map (·.1))[j]?=some b→vs[j]?=some u→RelV (look σ.hp) pl (SS E (look σ.hp) pl w) w b u:=by
     clear hl hg hobl m2 havs hres hts hlen
     induction rs generalizing avs with
     | nil=>exact⟨[],rfl,fun j rv v hj=>by simp at hj,fun j b u _ hu=>by simp at hu⟩
     | cons rv rs ih =>
      cases avs with
      | nil=>simp at m1
      | cons b0 avs =>
       obtain⟨b,v,e1,e2,e3⟩:=hget 0 rv rfl
       simp only [List.getElem?_cons_zero,Option.some.injEq]at e1
       subst e1
       obtain⟨vs,f1,f2,f3⟩:=ih avs (by simpa using m1) (fun j rv hj=>by
        obtain⟨b,v,e1,e2,e3⟩:=hget (j+1) rv (by simpa using hj)
        exact⟨b,v,by simpa using e1,e2,e3⟩)
       refine⟨v :: vs,by simp [f1],fun j rv' v' hj hv'=>?_,fun j b u hb hu=>?_⟩
       ·cases j with
        | zero=>simp at hj hv';subst hj hv';exact e2
        | succ j=>exact f2 j rv' v' (by simpa using hj) (by simpa using hv')
       ·cases j with
        | zero=>simp at hb hu;subst hb hu;exact e3
        | succ j=>exact f3 j b u (by simpa using hb) (by simpa using hu)
    obtain⟨vs,f1,f2,f3⟩:=hvs
    obtain⟨n1,n2,n3⟩:=S4 (f:=B03) h (A8r h) _ vs [] _ (by simp [m1,f1]) f3 hl
    have hall:=n3 (fun k=>E.S0 k∨(E.w0.heap.size≤k∧k < w.heap.size)) (fun k hk=>hk.elim .inl fun h=>.inr ⟨h.1.1,h.2.1⟩) (fun i _ B hB hlv k hk=>.inr (h.blk_lt hB hlv hk))
    rw[← hres]
    have n1':(l.map (·.1)).length=rs.length:=by
     dsimp only at n1
     simp only [List.length_map]at n1 ⊢
     omega
    generalize l.map (·.1)=xs at hall n1' ⊢
    clear hget m1 m2 havs hl hg hres hobl n1 n2 n3 f3
    match rs,xs,vs,hts,hlen,n1',f1,f2,hall with
    | [],[],[],hts,_,_,_,_,hall=>exact⟨_,results_none hts _ P w,.tup [] [] rfl (fun j a u ha=>by simp at ha)⟩
    | [t],[x],[v],hts,_,_,_,f2,hall=>exact⟨_,A05 hts (f2 0 t v rfl rfl),hall 0 x _ rfl rfl⟩
    | [t,u],[x,y],[v,v'],hts,_,_,_,f2,hall=>exact⟨_,Ae9 hts (f2 0 t v rfl rfl) (f2 1 u v' rfl rfl),.tup [x,y] [_,_] rfl hall⟩
    | [t,u,t3],[x,y,z],[v,v',v3],hts,_,_,_,f2,hall=>exact⟨_,Af0 hts (f2 0 t v rfl rfl) (f2 1 u v' rfl rfl) (f2 2 t3 v3 rfl rfl),.tup [x,y,z] [_,_,_] rfl hall⟩
    | [t,u,t3,t4],[x,y,z,z4],[v,v',v3,v4],hts,_,_,_,f2,hall=>exact⟨_,Af1 hts (f2 0 t v rfl rfl) (f2 1 u v' rfl rfl) (f2 2 t3 v3 rfl rfl) (f2 3 t4 v4 rfl rfl),.tup [x,y,z,z4] [_,_,_,_] rfl hall⟩
   ·cases hres
  ·cases hres
 ·cases hres
theorem B0f{f:FuncId}{fn:Func}{args:List AV}{res:AV}(hT:TabOk P T)(rs:List ResultVar)(hf:P.funcs[f]?=some fn)(hb:fn.body=some c)(hn:(fn.name == "runtime.NumGoroutine")=false)(hl:Nat.ble args.length fn.ntmps=true)
  (hts:fn.results=rs.toArray) (hlen:Nat.ble rs.length 4=true) (h:∀ E:Env,E.nt=fn.ntmps→AWP P E c (Bt1 T rs res) ⟨O9 0 args,[]⟩):Con P f args res:=by
 have hl':args.length≤fn.ntmps:=Nat.le_of_ble_eq_true hl
 refine⟨⟨fn,hf,hn,by rw[hb];rfl⟩,fun w S0 vs hS0 hvl hv=>?_⟩
 refine calls_of_wp hf hb ?_
 have hrel:RelX ⟨w,S0,fn.ntmps,hS0,fun _=>False,w,fun _=>True⟩ ⟨O9 0 args,[]⟩ (fun _=>undef) { tmps:=vs.toArray++Array.replicate (fn.ntmps-vs.toArray.size) undef,defers:=[] } w:=by
  refine⟨by simp;omega,rfl,Below.refl _ _,fun t av ht=>?_,fun id B hB=>by simp [look]at hB,fun id id' B B' hB=>by simp [look]at hB,Nat.le_refl _,fun k hk=>hk.elim,fun _ _ _ _ _ _ _=>trivial⟩
  rw[X3,if_pos (by omega),Nat.sub_zero]at ht
  have hlt:t < args.length:=by
   by_cases e:t < args.length
   ·exact e
   ·rw[List.getElem?_eq_none (by omega)]at ht;cases ht
  have h1:vs[t]?=some (vs[t]'(by omega)):=List.getElem?_eq_getElem (by omega)
  refine⟨vs[t]'(by omega),?_,.pure _ _ ((hv t av _ ht h1).mono (fun k hk=>.inl hk) (fun _ _=>rfl))⟩
  rw[Array.getElem?_append_left (by simp;omega)]
  simp [h1]
 refine wp_mono (h ⟨w,S0,fn.ntmps,hS0,fun _=>False,w,fun _=>True⟩ rfl _ w ⟨_,hrel⟩) fun e a' w' ⟨σ',h1,pl,h2⟩=>?_
 have fin:B73 T rs res σ'→a'.defers=[]∧∃ v,(results fn a'.tmps).run P w'=.ok v w'∧∃ v',Ending.returned v=.returned v'∧RelV0 (fun k=>S0 k∨(w.heap.size≤k∧k < w'.heap.size)) w' res v'∧Below w.heap.size w w':=by
  intro hr
  obtain⟨v,e1,e2⟩:=Am9 (P:=P) hT fn rs hts (Nat.le_of_ble_eq_true hlen) h2 hr
  exact⟨h2.dfr,v,e1,v,rfl,e2,h2.below⟩
 cases e with
 | normal=>exact fin h1
 | ret=>exact fin h1
 | _=>exact h1.elim
end
end Go.E
namespace Go.E
open Go.RowKit
theorem B2f(P:Program):TabOk P []:=fun t ti h=>by simp [look]at h
theorem B4{P:Program}{T:Tab}(t:Nat)(ti:TI)(h1:P.underlying t=some ti.desc)
  (h2:((P.info? t).map fun i=>(i.size,i.bytes,i.zero.map fun z=>z.cells.toList.map avC))=some (ti.size,ti.bytes,some (ti.zero.map some))) (h:TabOk P T):TabOk P ((t,ti) :: T):=by
 intro q tq hq
 simp only [look]at hq
 split at hq
 ·rename_i e
  have:t=q:=by simpa using e
  subst this
  simp only [Option.some.injEq]at hq
  subst hq
  exact⟨h1,h2⟩
 ·exact h q tq hq
structure Ctx (P:Program) (T:Tab) (E:Env) (nt:Nat):Prop where
 hT:TabOk P T
 hm:P.follows .mixedOrders=true
 hnt:E.nt=nt
section
variable {P : Program} {E : Env} {T : Tab} {σ : St} {Q : Exit → St → Prop} {c x y : Code} {nt : Nat}
theorem B2g{ovs:List (Nat×Ov)}{ops:Array Oper}{id:Nat}{rs:List Rec}{ps:List Prop}{σ':St}(cx:Ctx P T E nt)(hr:Ac4 P T ovs nt ops 0 ops.toList σ=some (rs,ps))(hσ:σ.recs rs=σ')(hp:All ps)(h:Q .normal σ'):AWP P E (.region id ops false) Q σ :=
 B0d (ovs:=ovs) cx.hT (by rw[cx.hnt];exact hr) hp hσ h
theorem A8t{ovs:List (Nat×Ov)}{ops:Array Oper}{id:Nat}{rs:List Rec}{ps:List Prop}{σ':St}(cx:Ctx P T E nt)(hr:Ac4 P T ovs nt ops 0 ops.toList σ=some (rs,ps))(hord:Bt0 ops rs=true)(hσ:σ.recs rs=σ')(hp:All ps)(h:Q .normal σ'):AWP P E (.region id ops true) Q σ :=
 A71 (ovs:=ovs) cx.hm cx.hT (by rw[cx.hnt];exact hr) hp hord hσ h
theorem Af2{q:Operand}(hq:σ.ev q=some (.b true))(h:AWP P E x Q σ):AWP P E (.cond q x y) Q σ:=A4a true hq (fun _=>h) (fun e=>by cases e)
theorem A8u{q:Operand}(hq:σ.ev q=some (.b false))(h:AWP P E y Q σ):AWP P E (.cond q x y) Q σ:=A4a false hq (fun e=>by cases e) (fun _=>h)
theorem An0{q:Operand}(p:Prop)[Decidable p](hq:σ.ev q=some (.b (decide p)))(h1:p→AWP P E x Q σ)(h2:¬p→AWP P E y Q σ):AWP P E (.cond q x y) Q σ :=
 A4a (decide p) hq (fun e=>h1 (of_decide_eq_true e)) (fun e=>h2 (of_decide_eq_false e))
theorem B76(p:Prop)(h1:p→AWP P E x Q σ)(h2:¬p→AWP P E x Q σ):AWP P E x Q σ:=by
 by_cases h:p
 ·exact h1 h
 ·exact h2 h
theorem B2h{i:Nat}(h:Q .normal σ):B6x i Q (.exit i) σ:=by simpa [B6x]using h
theorem A43{rs:List ResultVar}{res r:AV}{obl:List Prop}(h1:B72 T rs σ=some (r,obl))(h2:All obl)(h3:B9 r res):Bt1 T rs res .ret σ:=⟨r,obl,h1,h2,h3⟩
def A1y{X:Type}(H:X→St)(dec:X→Nat)(inv:X→Prop)(ks kb:List Nat)(n:Nat)(σ:St):Prop:=∃ x l fz,(σ.swaps l).norm fz ks kb=H x∧dec x < n∧inv x
theorem B2i{X:Type}{H:X→St}{dec:X→Nat}{inv:X→Prop}{ks kb:List Nat}{n:Nat}(x:X)(h1:σ.norm [] ks kb=H x)(h2:dec x < n)(h3:inv x):A1y H dec inv ks kb n σ:=⟨x,[],[],h1,h2,h3⟩
theorem B2j{X:Type}(H:X→St)(dec:X→Nat)(inv:X→Prop)(ks kb:List Nat)(x0:X)(h0:σ.norm [] ks kb=H x0)(hi:inv x0)
  (hs:∀ x,inv x→AWP P E c (B1o (A1y H dec inv ks kb (dec x)) Q) (H x)):AWP P E (.loop c) Q σ:=by
 refine S5 [] ks kb h0 ?_
 refine B70 (fun n σ=>∃ x,σ=H x∧dec x=n∧inv x) (dec x0) ⟨x0,rfl,rfl,hi⟩ fun n σ' ⟨x,e1,e2,hx⟩=>?_
 subst e1
 subst e2
 -- at the round's end the state is made narrower
 intro a w hr
 refine wp_mono (hs x hx a w hr) fun e a' w' ⟨σ'',h1,h2⟩=>?_
 cases e with
 | normal =>
  obtain⟨x',l,fz,e1,e2,e3⟩:=h1
  exact⟨_,⟨dec x',e2,x',rfl,rfl,e3⟩,e1 ▸ (h2.swaps l).norm fz ks kb⟩
 | _=>exact⟨σ'',h1,h2⟩
theorem An1{f:FuncId}{fn:Func}{args:List AV}{res:AV}(hT:TabOk P T)(hm:P.follows .mixedOrders=true)(rs:List ResultVar)(nt:Nat)(hf:P.funcs[f]?=some fn)(hb:fn.body=some c)(hn:(fn.name == "runtime.NumGoroutine")=false)(hnt:fn.ntmps=nt)(hl:Nat.ble args.length nt=true)
  (hts:fn.results=rs.toArray) (hlen:Nat.ble rs.length 4=true) (h:∀ E:Env,Ctx P T E nt→AWP P E c (Bt1 T rs res) ⟨O9 0 args,[]⟩):Con P f args res :=
 B0f hT rs hf hb hn (by rw[hnt];exact hl) hts hlen fun E hE=>h E ⟨hT,hm,hE.trans hnt⟩
end
theorem B7{n:Int}(h1:-9223372036854775808≤n)(h2:n≤9223372036854775807):AV.i .i64 (IntKind.i64.wrap n)=AV.i .i64 n:=by
 have:IntKind.i64.wrap n=n:=by
  simp [IntKind.wrap,IntKind.bits,IntKind.signed]
  split <;> omega
 rw[this]
theorem A3{p:Prop}[Decidable p](h:p):AV.b (decide p)=AV.b true:=by rw[decide_eq_true h]
theorem A0{p:Prop}[Decidable p](h:¬p):AV.b (decide p)=AV.b false:=by rw[decide_eq_false h]
theorem At4{b:Bool}(h:b=true):AV.b b=AV.b true:=by rw[h]
theorem E9{x y:Int}:AV.b (x != y)=AV.b (decide (¬ x=y)):=by
 by_cases h:x=y <;> simp [h]
theorem D1{x y:Int}(h:¬ x=y):AV.b (x != y)=AV.b true:=by simp [h]
theorem C9{b:Bool}:AV.b (!b)=AV.b (decide (¬ b=true)):=by cases b <;> rfl
theorem A1z{p:Prop}[Decidable p]:AV.b (!decide p)=AV.b (decide (¬ p)):=by by_cases h:p <;> simp [h]
theorem S6{b:Bool}(h:¬ b=true):AV.b b=AV.b false:=by cases b <;> simp_all
theorem A4c{k:IntKind}{x y:Int}:AV.i k (if y > x then y else x)=AV.i k (max x y):=by
 have:(if y > x then y else x)=max x y:=by split <;> omega
 rw[this]
theorem A4d{k:IntKind}{x y:Int}:AV.i k (if y < x then y else x)=AV.i k (min x y):=by
 have:(if y < x then y else x)=min x y:=by split <;> omega
 rw[this]
theorem A4e{x y:Bool}:AV.b (!(x == y))=AV.b (decide (¬ x=y)):=by cases x <;> cases y <;> rfl
theorem A8v{x:Int}:AV.b (x == x)=AV.b true:=by simp
theorem B77{x:Int}:AV.b (x != x)=AV.b false:=by simp
theorem B78{α:Type}(f:α→List AV)(xs:List α):AV.i .i64 ((List.map f xs).length:Nat)=AV.i .i64 (xs.length:Nat):=by rw[List.length_map]
theorem V1(x y:ByteArray):(x.toList == y.toList)=decide (x=y):=by
 rw[Bool.eq_iff_iff,beq_iff_eq,decide_eq_true_iff]
 constructor
 ·intro e
  rw[ByteArray.toList_eq,ByteArray.toList_eq]at e
  exact ByteArray.ext (Array.ext' e)
 ·rintro rfl;rfl
theorem A4f{x y:ByteArray}:AV.b (x.toList == y.toList)=AV.b (decide (x=y)):=by rw[V1]
theorem A20{x y:ByteArray}(h:x=y):AV.b (x.toList == y.toList)=AV.b true:=by rw[V1,decide_eq_true h]
theorem V2{x y:ByteArray}(h:¬ x=y):AV.b (x.toList == y.toList)=AV.b false:=by rw[V1,decide_eq_false h]
theorem A4g{x y:ByteArray}:AV.b (!(x.toList == y.toList))=AV.b (decide (¬ x=y)):=by rw[V1];by_cases h:x=y <;> simp [h]
theorem A21{x y:ByteArray}(h:¬ x=y):AV.b (!(x.toList == y.toList))=AV.b true:=by rw[V1];simp [h]
def sLt(x y:ByteArray):Bool:=Go.Op.bytesLess x.toList y.toList
theorem B79{x y:ByteArray}:AV.b (Go.Op.bytesLess x.toList y.toList)=AV.b (sLt x y):=rfl
theorem B7a{x y:ByteArray}:AV.b (!(Go.Op.bytesLess x.toList y.toList || x.toList == y.toList))=AV.b (decide (¬(sLt x y=true∨x=y))):=by
 rw[V1];unfold sLt;cases Go.Op.bytesLess x.toList y.toList <;> simp
def byt(z:ByteArray)(n:Nat):Int:=((z[n]?.map fun b=>(b.toNat:Int)).getD 0)
theorem X4(z:ByteArray)(n:Nat):0≤byt z n∧byt z n≤255:=by
 unfold byt
 cases h:z[n]? with
 | none=>simp
 | some b=>have:=b.toNat_lt;simp;omega
theorem A8w{z:ByteArray}{n:Nat}(h:n < z.size):(z[n]?.map fun b=>(b.toNat:Int))=some (byt z n):=by
 have:z[n]?=some z[n]:=by simp [h]
 unfold byt;rw[this];rfl
theorem B0g{p:Prop}[Decidable p]:(AV.b true=AV.b (decide p))=p:=by by_cases h:p <;> simp [h]
theorem B0h{p:Prop}[Decidable p]:(AV.b false=AV.b (decide p))=¬p:=by by_cases h:p <;> simp [h]
theorem tsl:((∀(p:Prop) [Decidable p],(AV.b true=AV.b (decide p))=p)∧(∀(p:Prop) [Decidable p],(AV.b false=AV.b (decide p))=¬p))∧((∀ p:Prop,(p∧True)=p)∧(∀ p:Prop,(True∧p)=p)∧(∀ p:Prop,(p∧False)=False)∧(∀ p:Prop,(False∧p)=False))∧((∀ p:Prop,(p∨True)=True)∧(∀ p:Prop,(True∨p)=True)∧(∀ p:Prop,(p∨False)=p)∧(∀ p:Prop,(False∨p)=p))∧(¬ True)=False∧(¬ False)=True∧(∀ h:Decidable True,@decide True h=true)∧(∀ h:Decidable False,@decide False h=false)∧(∀ b:Bool,decide (b=true)=b):=by
 refine⟨⟨fun p _=>B0g,fun p _=>B0h⟩,⟨fun p=>and_true p,fun p=>true_and p,fun p=>and_false p,fun p=>false_and p⟩,⟨fun p=>or_true p,fun p=>true_or p,fun p=>or_false p,fun p=>false_or p⟩,not_true_eq_false,not_false_eq_true,fun h=>by simp,fun h=>by simp,fun b=>Bool.decide_eq_true⟩
theorem F7{α:Type}[Inhabited α]{f:α→List AV}{xs:List α}{n:Nat}(h:n < xs.length):(List.map f xs)[n]?=some (f xs[n]!):=by
 simp [h]
theorem O4{α:Type}{f:α→List AV}{sz:Nat}(h:∀ x,(f x).length=sz)(xs:List α):∀ r∈List.map f xs,r.length=sz:=by
 intro r hr
 obtain⟨x,_,rfl⟩:=List.mem_map.1 hr
 exact h x
theorem A3d{α:Type}{f:α→List AV}{xs:List α}{n:Nat}{cells:List AV}{x:α}(h:cells=f x):(List.map f xs).set n cells=List.map f (xs.set n x):=by
 rw[h,List.map_set]
theorem A06{α:Type}{f:α→List AV}{xs ys:List α}{rows:List (List AV)}(h:rows=List.map f ys):List.map f xs++rows=List.map f (xs++ys):=by
 rw[h,List.map_append]
theorem An2{α:Type}{f:α→List AV}{n:Nat}{z:List AV}{x:α}(h:z=f x):List.replicate n z=List.map f (List.replicate n x):=by
 rw[h,List.map_replicate]
theorem Bh0{α:Type}{f:α→List AV}{xs:List α}{z:List AV}{x:α}{lo n m:Nat}(h:z=f x):(List.map f xs).take lo++List.replicate n z++(List.map f xs).drop m=List.map f (xs.take lo++List.replicate n x++xs.drop m):=by
 rw[h]
 simp
end Go.E
namespace Go.Proofs.YtokhjapfekbobaaGreat
open Go.E
set_option maxRecDepth 100000
set_option maxHeartbeats 4000000
def tab:Tab:=[
 (236,⟨TypeDesc.slice (139:Nat),1,24,[.nl]⟩),
 (3,⟨TypeDesc.int IntKind.i64,1,8,[.i .i64 ((0:Int))]⟩),
 (4,⟨TypeDesc.bool,1,1,[.b (false)]⟩),
 (5,⟨TypeDesc.int IntKind.u8,1,1,[.i .u8 ((0:Int))]⟩),
 (20,⟨TypeDesc.interface #[],1,16,[.nili]⟩),
 (21,⟨TypeDesc.int IntKind.i32,1,4,[.i .i32 ((0:Int))]⟩),
 (23,⟨TypeDesc.slice (3:Nat),1,24,[.nl]⟩),
 (65,⟨TypeDesc.struct #[{ name:="Rep",type:=(3:Nat),offset:=(0:Nat),embedded:=false,tag:="",pkgPath:="",byteOffset:=(0:Nat):Field },{ name:="Num",type:=(3:Nat),offset:=(1:Nat),embedded:=false,tag:="",pkgPath:="",byteOffset:=(8:Nat):Field }],2,16,[.i .i64 ((0:Int)),.i .i64 ((0:Int))]⟩),
 (37,⟨TypeDesc.int IntKind.i64,1,8,[.i .i64 ((0:Int))]⟩),
 (24,⟨TypeDesc.slice (109:Nat),1,24,[.nl]⟩),
 (109,⟨TypeDesc.struct #[{ name:="Rep",type:=(3:Nat),offset:=(0:Nat),embedded:=false,tag:="",pkgPath:="",byteOffset:=(0:Nat):Field },{ name:="Lo",type:=(3:Nat),offset:=(1:Nat),embedded:=false,tag:="",pkgPath:="",byteOffset:=(8:Nat):Field },{ name:="Hi",type:=(3:Nat),offset:=(2:Nat),embedded:=false,tag:="",pkgPath:="",byteOffset:=(16:Nat):Field }],3,24,[.i .i64 ((0:Int)),.i .i64 ((0:Int)),.i .i64 ((0:Int))]⟩),
 (114,⟨TypeDesc.func #[(3:Nat),(3:Nat)] #[(4:Nat)] false,1,8,[.nilf]⟩),
 (9,⟨TypeDesc.string,1,16,[.s ({ data:=#[]:ByteArray })]⟩),
 (203,⟨TypeDesc.int IntKind.u64,1,8,[.i .u64 ((0:Int))]⟩),
 (67,⟨TypeDesc.struct #[{ name:="Dot",type:=(65:Nat),offset:=(0:Nat),embedded:=false,tag:="",pkgPath:="",byteOffset:=(0:Nat):Field },{ name:="Sku",type:=(9:Nat),offset:=(2:Nat),embedded:=false,tag:="",pkgPath:="",byteOffset:=(16:Nat):Field },{ name:="Qty",type:=(3:Nat),offset:=(3:Nat),embedded:=false,tag:="",pkgPath:="",byteOffset:=(32:Nat):Field }],4,40,[.i .i64 ((0:Int)),.i .i64 ((0:Int)),.s ({ data:=#[]:ByteArray }),.i .i64 ((0:Int))]⟩),
 (22,⟨TypeDesc.slice (67:Nat),1,24,[.nl]⟩),
 (26,⟨TypeDesc.struct #[{ name:="Vec",type:=(23:Nat),offset:=(0:Nat),embedded:=false,tag:="",pkgPath:="",byteOffset:=(0:Nat):Field },{ name:="Cloud",type:=(24:Nat),offset:=(1:Nat),embedded:=false,tag:="",pkgPath:="",byteOffset:=(24:Nat):Field }],2,48,[.nl,.nl]⟩),
 (112,⟨TypeDesc.struct #[{ name:="Sku",type:=(9:Nat),offset:=(0:Nat),embedded:=false,tag:="",pkgPath:="",byteOffset:=(0:Nat):Field },{ name:="Qty",type:=(3:Nat),offset:=(1:Nat),embedded:=false,tag:="",pkgPath:="",byteOffset:=(16:Nat):Field },{ name:="Parts",type:=(3:Nat),offset:=(2:Nat),embedded:=false,tag:="",pkgPath:="",byteOffset:=(24:Nat):Field }],3,32,[.s ({ data:=#[]:ByteArray }),.i .i64 ((0:Int)),.i .i64 ((0:Int))]⟩),
 (61,⟨TypeDesc.slice (112:Nat),1,24,[.nl]⟩),
 (181,⟨TypeDesc.struct #[{ name:="Lo",type:=(3:Nat),offset:=(0:Nat),embedded:=false,tag:="",pkgPath:="",byteOffset:=(0:Nat):Field },{ name:="Hi",type:=(3:Nat),offset:=(1:Nat),embedded:=false,tag:="",pkgPath:="",byteOffset:=(8:Nat):Field }],2,16,[.i .i64 ((0:Int)),.i .i64 ((0:Int))]⟩),
 (139,⟨TypeDesc.slice (181:Nat),1,24,[.nl]⟩),
 (32,⟨TypeDesc.slice (65:Nat),1,24,[.nl]⟩),
 (190,⟨TypeDesc.slice (22:Nat),1,24,[.nl]⟩),
 (192,⟨TypeDesc.slice (27:Nat),1,24,[.nl]⟩),
 (154,⟨TypeDesc.array (16:Nat) (139:Nat),16,384,[.nl,.nl,.nl,.nl,.nl,.nl,.nl,.nl,.nl,.nl,.nl,.nl,.nl,.nl,.nl,.nl]⟩),
 (155,⟨TypeDesc.array (16:Nat) (139:Nat),16,384,[.nl,.nl,.nl,.nl,.nl,.nl,.nl,.nl,.nl,.nl,.nl,.nl,.nl,.nl,.nl,.nl]⟩),
 (175,⟨TypeDesc.array (16:Nat) (23:Nat),16,384,[.nl,.nl,.nl,.nl,.nl,.nl,.nl,.nl,.nl,.nl,.nl,.nl,.nl,.nl,.nl,.nl]⟩),
 (177,⟨TypeDesc.struct #[{ name:="At",type:=(175:Nat),offset:=(0:Nat),embedded:=false,tag:="",pkgPath:="",byteOffset:=(0:Nat):Field }],16,384,[.nl,.nl,.nl,.nl,.nl,.nl,.nl,.nl,.nl,.nl,.nl,.nl,.nl,.nl,.nl,.nl]⟩),
 (145,⟨TypeDesc.slice (26:Nat),1,24,[.nl]⟩),
 (150,⟨TypeDesc.func #[(67:Nat)] #[(4:Nat)] false,1,8,[.nilf]⟩),
 (120,⟨TypeDesc.func #[(109:Nat)] #[(4:Nat)] false,1,8,[.nilf]⟩),
 (166,⟨TypeDesc.int IntKind.u64,1,8,[.i .u64 ((0:Int))]⟩),
 (169,⟨TypeDesc.struct #[{ name:="Less",type:=(114:Nat),offset:=(0:Nat),embedded:=false,tag:="",pkgPath:="",byteOffset:=(0:Nat):Field },{ name:="Swap",type:=(162:Nat),offset:=(1:Nat),embedded:=false,tag:="",pkgPath:="",byteOffset:=(8:Nat):Field }],2,16,[.nilf,.nilf]⟩),
 (162,⟨TypeDesc.func #[(3:Nat),(3:Nat)] #[] false,1,8,[.nilf]⟩),
 (110,⟨TypeDesc.map (9:Nat) (112:Nat),1,8,[.dead]⟩),
 (83,⟨TypeDesc.struct #[{ name:="Sku",type:=(9:Nat),offset:=(0:Nat),embedded:=false,tag:="",pkgPath:="",byteOffset:=(0:Nat):Field },{ name:="Past",type:=(26:Nat),offset:=(1:Nat),embedded:=false,tag:="",pkgPath:="",byteOffset:=(16:Nat):Field }],3,64,[.s ({ data:=#[]:ByteArray }),.nl,.nl]⟩),
 (27,⟨TypeDesc.slice (83:Nat),1,24,[.nl]⟩),
 (29,⟨TypeDesc.struct #[{ name:="Adds",type:=(22:Nat),offset:=(0:Nat),embedded:=false,tag:="",pkgPath:="",byteOffset:=(0:Nat):Field },{ name:="Gone",type:=(26:Nat),offset:=(1:Nat),embedded:=false,tag:="",pkgPath:="",byteOffset:=(24:Nat):Field },{ name:="Recs",type:=(27:Nat),offset:=(3:Nat),embedded:=false,tag:="",pkgPath:="",byteOffset:=(72:Nat):Field }],4,96,[.nl,.nl,.nl,.nl]⟩),
 (135,⟨TypeDesc.func #[(139:Nat),(139:Nat)] #[(139:Nat)] false,1,8,[.nilf]⟩),
 (96,⟨TypeDesc.func #[(83:Nat),(83:Nat)] #[(3:Nat)] false,1,8,[.nilf]⟩),
 (189,⟨TypeDesc.func #[(109:Nat),(109:Nat)] #[(3:Nat)] false,1,8,[.nilf]⟩),
 (97,⟨TypeDesc.func #[(83:Nat),(83:Nat)] #[(4:Nat)] false,1,8,[.nilf]⟩),
 (190,⟨TypeDesc.slice (22:Nat),1,24,[.nl]⟩),
 (31,⟨TypeDesc.struct #[{ name:="Live",type:=(22:Nat),offset:=(0:Nat),embedded:=false,tag:="",pkgPath:="",byteOffset:=(0:Nat):Field },{ name:="Past",type:=(26:Nat),offset:=(1:Nat),embedded:=false,tag:="",pkgPath:="",byteOffset:=(24:Nat):Field },{ name:="Defer",type:=(27:Nat),offset:=(3:Nat),embedded:=false,tag:="",pkgPath:="",byteOffset:=(72:Nat):Field }],4,96,[.nl,.nl,.nl,.nl]⟩),
 (76,⟨TypeDesc.struct #[{ name:="Heard",type:=(26:Nat),offset:=(0:Nat),embedded:=false,tag:="",pkgPath:="",byteOffset:=(0:Nat):Field },{ name:="Live",type:=(26:Nat),offset:=(2:Nat),embedded:=false,tag:="",pkgPath:="",byteOffset:=(48:Nat):Field }],4,96,[.nl,.nl,.nl,.nl]⟩),
 (69,⟨TypeDesc.struct #[{ name:="Dot",type:=(65:Nat),offset:=(0:Nat),embedded:=false,tag:="",pkgPath:="",byteOffset:=(0:Nat):Field },{ name:="Kind",type:=(3:Nat),offset:=(2:Nat),embedded:=false,tag:="",pkgPath:="",byteOffset:=(16:Nat):Field },{ name:="Recs",type:=(3:Nat),offset:=(3:Nat),embedded:=false,tag:="",pkgPath:="",byteOffset:=(24:Nat):Field }],4,32,[.i .i64 ((0:Int)),.i .i64 ((0:Int)),.i .i64 ((0:Int)),.i .i64 ((0:Int))]⟩),
 (48,⟨TypeDesc.struct #[{ name:="Adds",type:=(3:Nat),offset:=(0:Nat),embedded:=false,tag:="",pkgPath:="",byteOffset:=(0:Nat):Field },{ name:="Gone",type:=(3:Nat),offset:=(1:Nat),embedded:=false,tag:="",pkgPath:="",byteOffset:=(8:Nat):Field },{ name:="Recs",type:=(3:Nat),offset:=(2:Nat),embedded:=false,tag:="",pkgPath:="",byteOffset:=(16:Nat):Field }],3,24,[.i .i64 ((0:Int)),.i .i64 ((0:Int)),.i .i64 ((0:Int))]⟩),
 (34,⟨TypeDesc.struct #[{ name:="F",type:=(29:Nat),offset:=(0:Nat),embedded:=false,tag:="",pkgPath:="",byteOffset:=(0:Nat):Field },{ name:="G",type:=(29:Nat),offset:=(4:Nat),embedded:=false,tag:="",pkgPath:="",byteOffset:=(96:Nat):Field },{ name:="H",type:=(29:Nat),offset:=(8:Nat),embedded:=false,tag:="",pkgPath:="",byteOffset:=(192:Nat):Field },{ name:="S",type:=(31:Nat),offset:=(12:Nat),embedded:=false,tag:="",pkgPath:="",byteOffset:=(288:Nat):Field },{ name:="Dots",type:=(32:Nat),offset:=(16:Nat),embedded:=false,tag:="",pkgPath:="",byteOffset:=(384:Nat):Field },{ name:="Sku",type:=(9:Nat),offset:=(17:Nat),embedded:=false,tag:="",pkgPath:="",byteOffset:=(408:Nat):Field }],18,424,[.nl,.nl,.nl,.nl,.nl,.nl,.nl,.nl,.nl,.nl,.nl,.nl,.nl,.nl,.nl,.nl,.nl,.s ({ data:=#[]:ByteArray })]⟩)]
theorem A9:TabOk Proofs.Tryz.prog tab :=
 B4 236 _ (by kernel_rfl) (by kernel_rfl) (
 B4 3 _ (by kernel_rfl) (by kernel_rfl) (
 B4 4 _ (by kernel_rfl) (by kernel_rfl) (
 B4 5 _ (by kernel_rfl) (by kernel_rfl) (
 B4 20 _ (by kernel_rfl) (by kernel_rfl) (
 B4 21 _ (by kernel_rfl) (by kernel_rfl) (
 B4 23 _ (by kernel_rfl) (by kernel_rfl) (
 B4 65 _ (by kernel_rfl) (by kernel_rfl) (
 B4 37 _ (by kernel_rfl) (by kernel_rfl) (
 B4 24 _ (by kernel_rfl) (by kernel_rfl) (
 B4 109 _ (by kernel_rfl) (by kernel_rfl) (
 B4 114 _ (by kernel_rfl) (by kernel_rfl) (
 B4 9 _ (by kernel_rfl) (by kernel_rfl) (
 B4 203 _ (by kernel_rfl) (by kernel_rfl) (
 B4 67 _ (by kernel_rfl) (by kernel_rfl) (
 B4 22 _ (by kernel_rfl) (by kernel_rfl) (
 B4 26 _ (by kernel_rfl) (by kernel_rfl) (
 B4 112 _ (by kernel_rfl) (by kernel_rfl) (
 B4 61 _ (by kernel_rfl) (by kernel_rfl) (
 B4 181 _ (by kernel_rfl) (by kernel_rfl) (
 B4 139 _ (by kernel_rfl) (by kernel_rfl) (
 B4 32 _ (by kernel_rfl) (by kernel_rfl) (
 B4 190 _ (by kernel_rfl) (by kernel_rfl) (
 B4 192 _ (by kernel_rfl) (by kernel_rfl) (
 B4 154 _ (by kernel_rfl) (by kernel_rfl) (
 B4 155 _ (by kernel_rfl) (by kernel_rfl) (
 B4 175 _ (by kernel_rfl) (by kernel_rfl) (
 B4 177 _ (by kernel_rfl) (by kernel_rfl) (
 B4 145 _ (by kernel_rfl) (by kernel_rfl) (
 B4 150 _ (by kernel_rfl) (by kernel_rfl) (
 B4 120 _ (by kernel_rfl) (by kernel_rfl) (
 B4 166 _ (by kernel_rfl) (by kernel_rfl) (
 B4 169 _ (by kernel_rfl) (by kernel_rfl) (
 B4 162 _ (by kernel_rfl) (by kernel_rfl) (
 B4 110 _ (by kernel_rfl) (by kernel_rfl) (
 B4 83 _ (by kernel_rfl) (by kernel_rfl) (
 B4 27 _ (by kernel_rfl) (by kernel_rfl) (
 B4 29 _ (by kernel_rfl) (by kernel_rfl) (
 B4 135 _ (by kernel_rfl) (by kernel_rfl) (
 B4 96 _ (by kernel_rfl) (by kernel_rfl) (
 B4 189 _ (by kernel_rfl) (by kernel_rfl) (
 B4 97 _ (by kernel_rfl) (by kernel_rfl) (
 B4 190 _ (by kernel_rfl) (by kernel_rfl) (
 B4 31 _ (by kernel_rfl) (by kernel_rfl) (
 B4 76 _ (by kernel_rfl) (by kernel_rfl) (
 B4 69 _ (by kernel_rfl) (by kernel_rfl) (
 B4 48 _ (by kernel_rfl) (by kernel_rfl) (
 B4 34 _ (by kernel_rfl) (by kernel_rfl) (
 B2f _))))))))))))))))))))))))))))))))))))))))))))))))
end Go.Proofs.YtokhjapfekbobaaGreat
namespace Go.E
open Go.RowKit
def A16(fn:Func):Code:=fn.body.getD .skip
def cL:Code→Code | .seq a _=>a | _=>.skip
def cR:Code→Code | .seq _ b=>b | _=>.skip
def cT:Code→Code | .cond _ t _=>t | _=>.skip
def cF:Code→Code | .cond _ _ f=>f | _=>.skip
def cQ:Code→Operand | .cond q _ _=>q | _=>.const (.bool false)
def cB:Code→Code | .block _ b=>b | .loop b=>b | _=>.skip
def cO:Code→Array Oper | .region _ ops _=>ops | _=>#[]
def B8:Code→Nat
 | .skip=>0
 | .region _ _ false=>1
 | .region _ _ true=>2
 | .seq _ _=>3
 | .cond _ _ _=>4
 | .loop _=>6
 | .ret=>8
 | .block i _=>100+2*i
 | .exit i=>101+2*i
 | _=>9
def Bt2(P:Program)(T:Tab)(ovs:List (Nat×Ov))(nt:Nat)(c:Code)(σ:St)(ks kb:List Nat):Option (Prop×St) :=
 match Ac4 P T ovs nt (cO c) 0 (cO c).toList σ with
 | some (rs,ps)=>some (All ps,(σ.recs rs).norm [] ks kb)
 | none=>none
def Bt3(P:Program)(T:Tab)(ovs:List (Nat×Ov))(nt:Nat)(c:Code)(σ:St)(ks kb:List Nat):Option (Prop×St) :=
 match Ac4 P T ovs nt (cO c) 0 (cO c).toList σ with
 | some (rs,ps)=>if Bt0 (cO c) rs then some (All ps,(σ.recs rs).norm [] ks kb)else none
 | none=>none
section
variable {P : Program} {E : Env} {T : Tab} {σ : St} {Q : Exit → St → Prop} {c : Code} {nt : Nat}
theorem Bh1(h:B8 c=0)(k:Q .normal σ):AWP P E c Q σ:=by
 cases c with
 | skip=>exact B6y k
 | region i o d=>cases d <;> simp [B8]at h
 | block=>simp [B8]at h <;> omega
 | exit=>simp [B8]at h
 | _=>simp [B8]at h
theorem st_ret(h:B8 c=8)(k:Q .ret σ):AWP P E c Q σ:=by
 cases c with
 | ret=>exact Bg7 k
 | region i o d=>cases d <;> simp [B8]at h
 | block=>simp [B8]at h <;> omega
 | exit=>simp [B8]at h <;> omega
 | _=>simp [B8]at h
theorem At5(h:B8 c=3)(k:AWP P E (cL c) (B1o (AWP P E (cR c) Q) Q) σ):AWP P E c Q σ:=by
 cases c with
 | seq a b=>exact Bg8 k
 | region i o d=>cases d <;> simp [B8]at h
 | block=>simp [B8]at h <;> omega
 | exit=>simp [B8]at h <;> omega
 | _=>simp [B8]at h
theorem B7b(i:Nat)(h:B8 c=100+2*i)(k:AWP P E (cB c) (B6x i Q) σ):AWP P E c Q σ:=by
 cases c with
 | block j b =>
  simp [B8]at h
  have hij:j=i:=by omega
  subst hij
  exact B2c k
 | region i o d=>cases d <;> simp [B8]at h <;> omega
 | exit=>simp [B8]at h <;> omega
 | _=>simp [B8]at h <;> omega
theorem Bh2(i:Nat)(h:B8 c=101+2*i)(k:Q (.exit i) σ):AWP P E c Q σ:=by
 cases c with
 | exit j =>
  simp [B8]at h
  have hij:j=i:=by omega
  subst hij
  exact B6z k
 | region i o d=>cases d <;> simp [B8]at h <;> omega
 | block=>simp [B8]at h <;> omega
 | _=>simp [B8]at h <;> omega
theorem An3(h:B8 c=4)(hq:σ.ev (cQ c)=some (.b true))(k:AWP P E (cT c) Q σ):AWP P E c Q σ:=by
 cases c with
 | cond q x y=>exact Af2 hq k
 | region i o d=>cases d <;> simp [B8]at h
 | block=>simp [B8]at h <;> omega
 | exit=>simp [B8]at h <;> omega
 | _=>simp [B8]at h
theorem A23(h:B8 c=4)(hq:σ.ev (cQ c)=some (.b false))(k:AWP P E (cF c) Q σ):AWP P E c Q σ:=by
 cases c with
 | cond q x y=>exact A8u hq k
 | region i o d=>cases d <;> simp [B8]at h
 | block=>simp [B8]at h <;> omega
 | exit=>simp [B8]at h <;> omega
 | _=>simp [B8]at h
theorem Af3(p:Prop)[Decidable p](h:B8 c=4)(hq:σ.ev (cQ c)=some (.b (decide p)))(k1:p→AWP P E (cT c) Q σ)(k2:¬p→AWP P E (cF c) Q σ):AWP P E c Q σ:=by
 cases c with
 | cond q x y=>exact An0 p hq k1 k2
 | region i o d=>cases d <;> simp [B8]at h
 | block=>simp [B8]at h <;> omega
 | exit=>simp [B8]at h <;> omega
 | _=>simp [B8]at h
theorem X5(t:Bool)(h:B8 c=4)(hq:σ.ev (cQ c)=some (.b t))(k1:t=true→AWP P E (cT c) Q σ)(k2:t=false→AWP P E (cF c) Q σ):AWP P E c Q σ:=by
 cases c with
 | cond q x y=>exact A4a t hq k1 k2
 | region i o d=>cases d <;> simp [B8]at h
 | block=>simp [B8]at h <;> omega
 | exit=>simp [B8]at h <;> omega
 | _=>simp [B8]at h
theorem A4(p:Prop)(k1:p→AWP P E c Q σ)(k2:¬p→AWP P E c Q σ):AWP P E c Q σ:=B76 p k1 k2
theorem B3{σ':St}(h1:AWP P E c (fun e s=>e=.normal∧s=σ') σ)(h2:Q .normal σ'):AWP P E c Q σ :=
 h1.mono fun e s ⟨e1,e2⟩=>by subst e1;subst e2;exact h2
theorem Bb4{σ':St}{A:Prop}(cx:Ctx P T E nt)(ovs:List (Nat×Ov))(ks kb:List Nat)(h:B8 c=1)(hr:Bt2 P T ovs nt c σ ks kb=some (A,σ'))(hA:A)(k:Q .normal σ'):AWP P E c Q σ:=by
 cases c with
 | region i o d =>
  cases d with
  | true=>simp [B8]at h
  | false =>
   unfold Bt2 at hr
   split at hr
   ·rename_i rs ps hrun
    simp only [Option.some.injEq,Prod.mk.injEq]at hr
    obtain⟨rfl,rfl⟩:=hr
    exact fun a w hrel=>wp_mono (B2g (Q:=fun e s=>e=.normal∧s=σ.recs rs) cx hrun rfl hA ⟨rfl,rfl⟩ a w hrel) fun e a' w' ⟨s,⟨e1,e2⟩,h2⟩=>by
     subst e1
     subst e2
     exact⟨_,k,h2.norm [] ks kb⟩
   ·cases hr
 | block=>simp [B8]at h <;> omega
 | exit=>simp [B8]at h <;> omega
 | _=>simp [B8]at h
theorem Bb5{σ':St}{A:Prop}(cx:Ctx P T E nt)(ovs:List (Nat×Ov))(ks kb:List Nat)(h:B8 c=2)(hr:Bt3 P T ovs nt c σ ks kb=some (A,σ'))(hA:A)(k:Q .normal σ'):AWP P E c Q σ:=by
 cases c with
 | region i o d =>
  cases d with
  | false=>simp [B8]at h
  | true =>
   unfold Bt3 at hr
   split at hr
   ·rename_i rs ps hrun
    split at hr
    ·rename_i hord
     simp only [Option.some.injEq,Prod.mk.injEq]at hr
     obtain⟨rfl,rfl⟩:=hr
     exact fun a w hrel=>wp_mono (A8t (Q:=fun e s=>e=.normal∧s=σ.recs rs) cx hrun hord rfl hA ⟨rfl,rfl⟩ a w hrel) fun e a' w' ⟨s,⟨e1,e2⟩,h2⟩=>by
      subst e1
      subst e2
      exact⟨_,k,h2.norm [] ks kb⟩
    ·cases hr
   ·cases hr
 | block=>simp [B8]at h <;> omega
 | exit=>simp [B8]at h <;> omega
 | _=>simp [B8]at h
def Bh3(P:Program)(T:Tab)(ovs:List (Nat×Ov))(nt:Nat)(c:Code)(σ:St)(ks kb:List Nat):Prop:=match Bt2 P T ovs nt c σ ks kb with | some (A,_)=>A | none=>False
def B68(P:Program)(T:Tab)(ovs:List (Nat×Ov))(nt:Nat)(c:Code)(σ:St)(ks kb:List Nat):St:=match Bt2 P T ovs nt c σ ks kb with | some (_,s)=>s | none=>σ
def B2k(P:Program)(T:Tab)(ovs:List (Nat×Ov))(nt:Nat)(c:Code)(σ:St)(ks kb:List Nat):Prop:=match Bt3 P T ovs nt c σ ks kb with | some (A,_)=>A | none=>False
def B7c(P:Program)(T:Tab)(ovs:List (Nat×Ov))(nt:Nat)(c:Code)(σ:St)(ks kb:List Nat):St:=match Bt3 P T ovs nt c σ ks kb with | some (_,s)=>s | none=>σ
theorem A8x{A:Prop}(cx:Ctx P T E nt)(ovs:List (Nat×Ov))(ks kb:List Nat)(h:B8 c=1)(hr:Bh3 P T ovs nt c σ ks kb=A)(hA:A)(k:Q .normal (B68 P T ovs nt c σ ks kb)):AWP P E c Q σ:=by
 cases hn:Bt2 P T ovs nt c σ ks kb with
 | none=>simp only [Bh3,hn]at hr;exact(hr.symm ▸ hA:False).elim
 | some q =>
  obtain⟨B,s⟩:=q
  simp only [Bh3,hn]at hr
  simp only [B68,hn]at k
  exact Bb4 cx ovs ks kb h hn (hr.symm ▸ hA) k
theorem B2l{A:Prop}(cx:Ctx P T E nt)(ovs:List (Nat×Ov))(ks kb:List Nat)(h:B8 c=2)(hr:B2k P T ovs nt c σ ks kb=A)(hA:A)(k:Q .normal (B7c P T ovs nt c σ ks kb)):AWP P E c Q σ:=by
 cases hn:Bt3 P T ovs nt c σ ks kb with
 | none=>simp only [B2k,hn]at hr;exact(hr.symm ▸ hA:False).elim
 | some q =>
  obtain⟨B,s⟩:=q
  simp only [B2k,hn]at hr
  simp only [B7c,hn]at k
  exact Bb5 cx ovs ks kb h hn (hr.symm ▸ hA) k
theorem rg{A:Prop}(cx:Ctx P T E nt)(ovs:List (Nat×Ov))(ks kb:List Nat)(hA:A)(k:Q .normal (B68 P T ovs nt c σ ks kb))(h:B8 c=1:=by kernel_rfl)(hr:Bh3 P T ovs nt c σ ks kb=A:=by kernel_rfl):AWP P E c Q σ:=A8x cx ovs ks kb h hr hA k
theorem ra{A:Prop}(cx:Ctx P T E nt)(ovs:List (Nat×Ov))(ks kb:List Nat)(hA:A)(k:Q .normal (B7c P T ovs nt c σ ks kb))(h:B8 c=2:=by kernel_rfl)(hr:B2k P T ovs nt c σ ks kb=A:=by kernel_rfl):AWP P E c Q σ:=B2l cx ovs ks kb h hr hA k
theorem sq(k:AWP P E (cL c) (B1o (AWP P E (cR c) Q) Q) σ)(h:B8 c=3:=by kernel_rfl):AWP P E c Q σ:=At5 h k
theorem sn{N:St→Prop}(h:N σ):B1o N Q .normal σ:=h
def Bt4{f:FuncId}{args:List AV}{res:AV}(_:Con P f args res):AV:=res
theorem Bh4{X:Type}(H:X→St)(dec:X→Nat)(inv:X→Prop)(ks kb:List Nat)(x0:X)(h:B8 c=6)(h0:σ.norm [] ks kb=H x0)(hi:inv x0)
  (hs:∀ x,inv x→AWP P E (cB c) (B1o (A1y H dec inv ks kb (dec x)) Q) (H x)):AWP P E c Q σ:=by
 cases c with
 | loop b=>exact B2j H dec inv ks kb x0 h0 hi hs
 | region i o d=>cases d <;> simp [B8]at h
 | block=>simp [B8]at h <;> omega
 | exit=>simp [B8]at h <;> omega
 | _=>simp [B8]at h
theorem st_con{f:FuncId}{fn:Func}{args:List AV}{res:AV}(hT:TabOk P T)(hm:P.follows .mixedOrders=true)(rs:List ResultVar)(nt:Nat)(hf:P.funcs[f]?=some fn)
  (hb:(fn.body.isSome && !(fn.name == "runtime.NumGoroutine") && fn.ntmps == nt && Nat.ble args.length nt && Nat.ble rs.length 4)=true)
  (hts:fn.results=rs.toArray) (h:∀ E:Env,Ctx P T E nt→AWP P E (A16 fn) (Bt1 T rs res) ⟨O9 0 args,[]⟩):Con P f args res:=by
 simp only [Bool.and_eq_true,Bool.not_eq_true',beq_iff_eq]at hb
 obtain⟨⟨⟨⟨h1,h2⟩,h3⟩,h4⟩,h5⟩:=hb
 obtain⟨b,hb'⟩:=Option.isSome_iff_exists.1 h1
 refine An1 (c:=b) hT hm rs nt hf hb' h2 h3 h4 hts h5 ?_
 have:A16 fn=b:=by simp [A16,hb']
 rw[← this]
 exact h
theorem Bh5{f:FuncId}{args:List AV}{res:AV}(j:Nat){rows:List (List AV)}(hj:args[j]?=some (.sl rows))(hc:E6 P f)(k:rows.length≤maxLen→Con P f args res):Con P f args res:=by
 refine⟨hc,fun w S0 vs hS hl hv=>?_⟩
 have hlt:j < args.length:=by
  by_cases e:j < args.length
  ·exact e
  ·rw[List.getElem?_eq_none (by omega)]at hj;cases hj
 have hm:rows.length≤maxLen:=by
  have h0:=hv j _ _ hj (List.getElem?_eq_getElem (by omega:j < vs.length))
  generalize vs[j]'(by omega)=v at h0
  cases h0 with
  | sl _ A cap sz u hc hm=>exact hm
 exact(k hm).2 w S0 vs hS hl hv
theorem B7d{α:Type}{f:FuncId}{fn:Func}{args:List AV}{res:AV}(j:Nat)(g:α→List AV)(xs:List α)(hj:args[j]?=some (.sl (xs.map g)))(hf:P.funcs[f]?=some fn)(hb:(fn.body.isSome && !(fn.name == "runtime.NumGoroutine"))=true)(k:xs.length≤9223372036854775807→Con P f args res):Con P f args res:=by
 refine Bh5 j hj ?_ fun h=>k (by rw[List.length_map]at h;exact h)
 simp only [Bool.and_eq_true,Bool.not_eq_true']at hb
 refine⟨fn,hf,hb.2,?_⟩
 cases h:fn.body with
 | none=>rw[h]at hb;simp at hb
 | some c=>rfl
theorem An4{f:FuncId}{fn:Func}(hf:P.funcs[f]?=some fn)(hb:(fn.body.isSome && !(fn.name == "runtime.NumGoroutine"))=true):E6 P f:=by
 simp only [Bool.and_eq_true,Bool.not_eq_true']at hb
 refine⟨fn,hf,hb.2,?_⟩
 cases h:fn.body with
 | none=>rw[h]at hb;simp at hb
 | some c=>rfl
end
def Its(_ovs:List (Nat×Ov))(ps:List Prop)(_q:Prop):Prop:=All ps
theorem All.cons{p:Prop}{ps:List Prop}(h:p)(t:All ps):All (p :: ps):=by
 cases ps with
 | nil=>exact h
 | cons q l=>exact⟨h,t⟩
section
variable {o : List (Nat × Ov)} {ps : List Prop} {q : Prop} {α : Type}
theorem z0:Its [] [] True:=trivial
theorem zB(k:Nat)(p:Prop)[Decidable p]:Its [(k,{ tell:=some (.b (decide p)) })] [AV.b (decide p)=.b (decide p)] p:=rfl
theorem tT(k:Nat){l r:AV}(h:l=r)(t:Its o ps q):Its ((k,{ tell:=some r }) :: o) ((l=r) :: ps) q:=All.cons h t
theorem tB(k:Nat)(p:Prop)[Decidable p](t:Its o ps q):Its ((k,{ tell:=some (.b (decide p)) }) :: o) ((AV.b (decide p)=.b (decide p)) :: ps) q:=tT k rfl t
theorem tI(k:Nat)(x:Int)(t:Its o ps q):Its ((k,{ tell:=some (.i .i64 x) }) :: o) ((AV.i .i64 x=.i .i64 x) :: ps) q:=tT k rfl t
theorem tW(k:Nat)(x:Int)(t:Its o ps q)(h1:-9223372036854775808≤x:=by omega)(h2:x≤9223372036854775807:=by omega):Its ((k,{ tell:=some (.i .i64 x) }) :: o) ((AV.i .i64 (IntKind.i64.wrap x)=.i .i64 x) :: ps) q:=tT k (B7 h1 h2) t
theorem tL(k:Nat)(f:α→List AV)(xs:List α)(t:Its o ps q):Its ((k,{ tell:=some (.i .i64 (xs.length:Nat)) }) :: o) ((AV.i .i64 ((List.map f xs).length:Nat)=.i .i64 (xs.length:Nat)) :: ps) q:=tT k (B78 f xs) t
theorem tD(k:Nat)(v:Bool)(p:Prop)[Decidable p](h:AV.b v=AV.b (decide p))(t:Its o ps q):Its ((k,{ tell:=some (.b (decide p)) }) :: o) ((AV.b v=AV.b (decide p)) :: ps) q:=tT k h t
theorem tN(k:Nat)(x y:Int)(t:Its o ps q):Its ((k,{ tell:=some (.b (decide ¬ x=y)) }) :: o) ((AV.b (x != y)=AV.b (decide ¬ x=y)) :: ps) q:=tT k E9 t
theorem tQ(k:Nat)(p:Prop)[Decidable p](t:Its o ps q):Its ((k,{ tell:=some (.b (decide ¬ p)) }) :: o) ((AV.b (!decide p)=AV.b (decide ¬ p)) :: ps) q:=tT k A1z t
theorem fT{p:Prop}(h:p)(t:Its o ps q):Its o (p :: ps) q:=All.cons h t
theorem fP(p:Prop)(h:p)(t:Its o ps q):Its o (p :: ps) q:=All.cons h t
theorem fA(p:Prop)(t:Its o ps q)(h:p:=by with_reducible assumption):Its o (p :: ps) q:=All.cons h t
theorem fO(p:Prop)(t:Its o ps q)(h:p:=by omega):Its o (p :: ps) q:=All.cons h t
theorem fG [Inhabited α](f:α→List AV)(xs:List α)(n:Nat)(t:Its o ps q)(h:n < xs.length:=by omega):Its o (((List.map f xs)[n]?=some (f xs[n]!)) :: ps) q:=All.cons (F7 h) t
theorem fR{β:Sort _}(r:β)(t:Its o ps q):Its o ((r=r) :: ps) q:=All.cons rfl t
theorem fN(a b:Nat)(t:Its o ps q)(h:Nat.ble a b=true:=by kernel_rfl):Its o ((a≤b) :: ps) q:=All.cons (Nat.le_of_ble_eq_true h) t
theorem fM(f:α→List AV)(xs ys:List α)(t:Its o ps q):Its o ((List.map f xs++List.map f ys=List.map f (xs++ys)) :: ps) q:=All.cons (A06 rfl) t
theorem fX(f:α→List AV)(ys:List α)(n:Nat)(t:Its o ps q)(h:∀ x,(f x).length=n:=by intro _;kernel_rfl):Its o ((∀ r,r∈List.map f ys→r.length=n) :: ps) q:=All.cons (O4 h ys) t
theorem fS{β:Type}(f:α→List AV)(xs:List α)(g:β→List AV)(ys:List β)(t:Its o ps q)(h:xs.length+ys.length≤9223372036854775807:=by(first | omega | (simp only [List.length_append,List.length_cons,List.length_nil];omega))):Its o (((List.map f xs).length+(List.map g ys).length≤maxLen) :: ps) q:=All.cons (by simp only [maxLen,List.length_map];omega) t
theorem oA(k:Nat)(v:AV)(t:Its o ps q):Its ((k,{ val:=some v }) :: o) ps q:=t
theorem oR(k:Nat)(r:List AV)(t:Its o ps q):Its ((k,{ row:=r }) :: o) ps q:=t
theorem oV(k:Nat)(v:Ov)(t:Its o ps q):Its ((k,v) :: o) ps q:=t
end
section
variable {P : Program} {E : Env} {T : Tab} {σ : St} {Q : Exit → St → Prop} {c : Code} {nt : Nat} {ovs : List (Nat × Ov)} {ps : List Prop} {q : Prop}
theorem rG(cx:Ctx P T E nt)(ks kb:List Nat)(i:Its ovs ps q)(k:Q .normal (B68 P T ovs nt c σ ks kb))(h:B8 c=1:=by kernel_rfl)(hr:Bh3 P T ovs nt c σ ks kb=All ps:=by kernel_rfl):AWP P E c Q σ:=A8x cx ovs ks kb h hr i k
theorem rA(cx:Ctx P T E nt)(ks kb:List Nat)(i:Its ovs ps q)(k:Q .normal (B7c P T ovs nt c σ ks kb))(h:B8 c=2:=by kernel_rfl)(hr:B2k P T ovs nt c σ ks kb=All ps:=by kernel_rfl):AWP P E c Q σ:=B2l cx ovs ks kb h hr i k
theorem rD [Decidable q](cx:Ctx P T E nt)(ks kb:List Nat)(i:Its ovs ps q)(k1:q→AWP P E (cT (cR c)) Q (B68 P T ovs nt (cL c) σ ks kb))(k2:¬q→AWP P E (cF (cR c)) Q (B68 P T ovs nt (cL c) σ ks kb))(h:B8 c=3:=by kernel_rfl)(h1:B8 (cL c)=1:=by kernel_rfl)(hr:Bh3 P T ovs nt (cL c) σ ks kb=All ps:=by kernel_rfl)
  (h2:B8 (cR c)=4:=by kernel_rfl) (hq:(B68 P T ovs nt (cL c) σ ks kb).ev (cQ (cR c))=some (.b (decide q)):=by kernel_rfl):AWP P E c Q σ:=At5 h (A8x cx ovs ks kb h1 hr i (Af3 q h2 hq k1 k2))
theorem rE [Decidable q](cx:Ctx P T E nt)(ks kb:List Nat)(i:Its ovs ps q)(k1:q→AWP P E (cT (cL (cR c))) (B1o (AWP P E (cR (cR c)) Q) Q) (B68 P T ovs nt (cL c) σ ks kb))(k2:¬q→AWP P E (cF (cL (cR c))) (B1o (AWP P E (cR (cR c)) Q) Q) (B68 P T ovs nt (cL c) σ ks kb))(h:B8 c=3:=by kernel_rfl)(h1:B8 (cL c)=1:=by kernel_rfl)(hr:Bh3 P T ovs nt (cL c) σ ks kb=All ps:=by kernel_rfl)
  (h2:B8 (cR c)=3:=by kernel_rfl) (h3:B8 (cL (cR c))=4:=by kernel_rfl) (hq:(B68 P T ovs nt (cL c) σ ks kb).ev (cQ (cL (cR c)))=some (.b (decide q)):=by kernel_rfl):AWP P E c Q σ:=At5 h (A8x cx ovs ks kb h1 hr i (At5 h2 (Af3 q h3 hq k1 k2)))
theorem sK(k:Q .normal σ)(h:B8 c=0:=by kernel_rfl):AWP P E c Q σ:=Bh1 h k
theorem rT(k:Q .ret σ)(h:B8 c=8:=by kernel_rfl):AWP P E c Q σ:=st_ret h k
theorem bL(i:Nat)(k:AWP P E (cB c) (B6x i Q) σ)(h:B8 c=100+2*i:=by kernel_rfl):AWP P E c Q σ:=B7b i h k
theorem eX(i:Nat)(k:Q (.exit i) σ)(h:B8 c=101+2*i:=by kernel_rfl):AWP P E c Q σ:=Bh2 i h k
theorem dC(p:Prop)[Decidable p](k1:p→AWP P E (cT c) Q σ)(k2:¬p→AWP P E (cF c) Q σ)(h:B8 c=4:=by kernel_rfl)(hq:σ.ev (cQ c)=some (.b (decide p)):=by kernel_rfl):AWP P E c Q σ:=Af3 p h hq k1 k2
theorem sL{X:Type}(H:X→St)(dec:X→Nat)(inv:X→Prop)(ks kb:List Nat)(x0:X)(hi:inv x0)(hs:∀ x,inv x→AWP P E (cB c) (B1o (A1y H dec inv ks kb (dec x)) Q) (H x))(h:B8 c=6:=by kernel_rfl)(h0:σ.norm [] ks kb=H x0:=by kernel_rfl):AWP P E c Q σ:=Bh4 H dec inv ks kb x0 h h0 hi hs
theorem nX{X:Type}{H:X→St}{dec:X→Nat}{inv:X→Prop}{ks kb:List Nat}{n:Nat}(x:X)(h2:dec x < n)(h3:inv x)(h1:σ.norm [] ks kb=H x:=by kernel_rfl):A1y H dec inv ks kb n σ:=B2i x h1 h2 h3
theorem sC{f:FuncId}{fn:Func}{args:List AV}{res:AV}(hT:TabOk P T)(rs:List ResultVar)(nt:Nat)(hf:P.funcs[f]?=some fn)(h:∀ E:Env,Ctx P T E nt→AWP P E (A16 fn) (Bt1 T rs res) ⟨O9 0 args,[]⟩)(hm:P.follows .mixedOrders=true:=by kernel_rfl)
  (hb:(fn.body.isSome && !(fn.name == "runtime.NumGoroutine") && fn.ntmps == nt && Nat.ble args.length nt && Nat.ble rs.length 4)=true:=by kernel_rfl) (hts:fn.results=rs.toArray:=by kernel_rfl):Con P f args res:=st_con hT hm rs nt hf hb hts h
theorem lN{α:Type}{f:FuncId}{fn:Func}{args:List AV}{res:AV}(j:Nat)(g:α→List AV)(xs:List α)(hf:P.funcs[f]?=some fn)(k:xs.length≤9223372036854775807→Con P f args res)(hj:args[j]?=some (.sl (xs.map g)):=by kernel_rfl)(hb:(fn.body.isSome && !(fn.name == "runtime.NumGoroutine"))=true:=by kernel_rfl):Con P f args res:=B7d j g xs hj hf hb k
theorem nR{N:St→Prop}(h:Q .ret σ):B1o N Q .ret σ:=h
theorem nE{N:St→Prop}{i:Nat}(h:Q (.exit i) σ):B1o N Q (.exit i) σ:=h
theorem bN{i:Nat}(h:Q .normal σ):B6x i Q .normal σ:=h
theorem bR{i:Nat}(h:Q .ret σ):B6x i Q .ret σ:=h
theorem bH{i:Nat}(h:Q .normal σ):B6x i Q (.exit i) σ:=B2h h
theorem qR{rs:List ResultVar}{res:AV}(r:AV)(h3:B9 r res)(h1:B72 T rs σ=some (r,[]):=by kernel_rfl):Bt1 T rs res .ret σ:=A43 h1 trivial h3
end
end Go.E
namespace Go.E
open Go.RowKit
section
variable {P : Program} {E : Env} {T : Tab} {σ : St} {c : Code} {nt : Nat}
def Bh6 (rv : ResultVar) (ty:Nat) (k : BK) (σ : St) : Prop :=
  ∃ t, rv = .tmp t ∧
    ((∃ id ver sz rows, look σ.slots t = some (.own id ver) ∧ look σ.hp id = some ⟨ver, ty, .row sz rows⟩ ∧ k = .row sz rows) ∨
     (∃ sz,look σ.slots t=some .nl∧k=.row sz []) ∨
     (∃ id ver cells,look σ.slots t=some (.ptr id ver 0 0)∧look σ.hp id=some ⟨ver,ty,.arr cells⟩∧k=.arr cells))
def B0i(rv:ResultVar)(ty:Nat)(k:BK):Exit→St→Prop
 | .normal,σ=>Bh6 rv ty k σ
 | .ret,σ=>Bh6 rv ty k σ
 | _,_=>False
theorem At6{a:Act}{w:World}{pl:Nat→Value}{rv:ResultVar}{ty:Nat}{k:BK}(h:RelX E σ pl a w)(hr:Bh6 rv ty k σ) :
  ∃ v,(G3 a.tmps rv).run P w=.ok v w∧BlkRel E.w0.heap.size (fun _=>none) (fun _=>.bool false) (fun b=>(E.S0 b∨(E.lo b∧b < w.heap.size))∧blkOf v≠some b) w v ⟨0,ty,k⟩:=by
 obtain⟨t,rfl,hr⟩:=hr
 have slot:∀ av,look σ.slots t=some av→∃ v,(G3 a.tmps (.tmp t)).run P w=.ok v w∧RelV (look σ.hp) pl (SS E (look σ.hp) pl w) w av v:=by
  intro av hs
  obtain⟨v,h1,h2⟩:=h.slots t av hs
  exact⟨v,by simp [G3,Array.getD_eq_getD_getElem?,h1],h2⟩
 have hS:∀ {id:Nat} {B:Blk},look σ.hp id=some B→B.live=true→∀ b,SS E (look σ.hp) pl w b→(E.S0 b∨(E.lo b∧b < w.heap.size))∧blkOf (pl id)≠some b:=by
  intro id B hB hl b hb
  rcases hb with hb | ⟨h1,h2,h3⟩
  ·refine⟨.inl hb,fun e=>?_⟩
   have:=(h.blk_lt hB hl e).1
   have:=E.hS0 b hb
   omega
  ·exact⟨.inr ⟨h1,h2⟩,h3 id B hB hl⟩
 rcases hr with⟨id,ver,sz,rows,h1,h2,rfl⟩ | ⟨sz,h1,rfl⟩ | ⟨id,ver,cells,h1,h2,rfl⟩
 ·obtain⟨v,e1,e2⟩:=slot _ h1
  have hl:(⟨ver,ty,.row sz rows⟩:Blk).live=true:=rfl
  have:=F2 e2 h2 rfl hl
  subst this
  obtain⟨c1,xs,c2,c3,c4⟩:=h.rowCell h2 rfl
  exact⟨_,e1,c1,xs,c2,c3,fun j b u hb hu=>(c4 j b u hb hu).mono (hS h2 hl) (fun _ _=>rfl)⟩
 ·obtain⟨v,e1,e2⟩:=slot _ h1
  have:=A3b e2
  subst this
  exact⟨_,e1,fun r hr=>by simp at hr,[],World.ownsRow_nil _ _ _ _,fun u hu=>by simp at hu,fun j b u hb=>by simp at hb⟩
 ·obtain⟨v,e1,e2⟩:=slot _ h1
  have hl:(⟨ver,ty,.arr cells⟩:Blk).live=true:=rfl
  obtain⟨g,hg,he⟩:=K1 e2 h2 rfl hl
  obtain⟨g',vs,d1,d2,d3,d4,d5⟩:=h.arrCell h2 rfl
  have hgg:g'=g:=by rw[d1]at hg;simpa [blkOf]using hg
  subst hgg
  simp only [Blk.off,Nat.add_zero]at he
  subst he
  refine⟨_,e1,g',vs,rfl,?_,d2,d3,d4,fun j b u hb hu=>(d5 j b u hb hu).mono (fun b hb=>?_) (fun _ _=>rfl)⟩
  ·exact(h.blk_lt h2 hl hg).1
  ·have:=hS h2 hl b hb
   rw[d1]at this
   exact this
theorem B7e{a:Act}{w:World}{pl:Nat→Value}{rv:ResultVar}{ty sz:Nat}{rows:List (List AV)}(h:RelX E σ pl a w)(hr:Bh6 rv ty (.row sz rows) σ){v:Value}(hv:(G3 a.tmps rv).run P w=.ok v w){k:Nat}(hk:SS E (look σ.hp) pl w k):blkOf v≠some k:=by
 obtain⟨t,rfl,hr⟩:=hr
 have slot:∀ av,look σ.slots t=some av→RelV (look σ.hp) pl (SS E (look σ.hp) pl w) w av v:=by
  intro av hs
  obtain⟨v',h1,h2⟩:=h.slots t av hs
  have:v'=v:=by
   have h3:(G3 a.tmps (.tmp t)).run P w=.ok v' w:=by simp [G3,Array.getD_eq_getD_getElem?,h1]
   rw[h3]at hv
   injection hv
  rw[← this]
  exact h2
 rcases hr with⟨id,ver,sz',rows',h1,h2,h3⟩ | ⟨sz',h1,h3⟩ | ⟨id,ver,cells,h1,h2,h3⟩
 ·have hl:(⟨ver,ty,.row sz' rows'⟩:Blk).live=true:=rfl
  have:=F2 (slot _ h1) h2 rfl hl
  rw[this]
  rcases hk with hk | ⟨_,_,hk⟩
  ·intro e
   have:=(h.blk_lt h2 hl e).1
   have:=E.hS0 k hk
   omega
  ·exact hk id _ h2 hl
 ·have:=A3b (slot _ h1)
  rw[this]
  simp [blkOf]
 ·cases h3
theorem resB_J{a:Act}{w:World}{pl:Nat→Value}{rv:ResultVar}{ty sz:Nat}{rows:List (List AV)}(h:RelX E σ pl a w)(hr:Bh6 rv ty (.row sz rows) σ){v:Value}(hv:(G3 a.tmps rv).run P w=.ok v w){k:Nat}(hk:blkOf v=some k)(hlt:k < E.w1.heap.size):E.J k:=by
 obtain⟨t,rfl,hr⟩:=hr
 have slot:∀ av,look σ.slots t=some av→RelV (look σ.hp) pl (SS E (look σ.hp) pl w) w av v:=by
  intro av hs
  obtain⟨v',h1,h2⟩:=h.slots t av hs
  have:v'=v:=by
   have h3:(G3 a.tmps (.tmp t)).run P w=.ok v' w:=by simp [G3,Array.getD_eq_getD_getElem?,h1]
   rw[h3]at hv
   injection hv
  rw[← this]
  exact h2
 rcases hr with⟨id,ver,sz',rows',h1,h2,h3⟩ | ⟨sz',h1,h3⟩ | ⟨id,ver,cells,h1,h2,h3⟩
 ·have hl:(⟨ver,ty,.row sz' rows'⟩:Blk).live=true:=rfl
  have:=F2 (slot _ h1) h2 rfl hl
  rw[this]at hk
  exact h.kept.2.2 id _ h2 hl k hk hlt
 ·have:=A3b (slot _ h1)
  rw[this]at hk
  simp [blkOf]at hk
 ·cases h3
theorem An5{f:FuncId}{fn:Func}{args:List AV}{ty:Nat}{k:BK}(rv:ResultVar)(hf:P.funcs[f]?=some fn)(hb:fn.body=some c)(hn:(fn.name == "runtime.NumGoroutine")=false)(hl:Nat.ble args.length fn.ntmps=true)
  (hts:fn.results=#[rv]) (h:∀ E:Env,E.nt=fn.ntmps→AWP P E c (B0i rv ty k) ⟨O9 0 args,[]⟩):A48 P f args ty k:=by
 have hl':args.length≤fn.ntmps:=Nat.le_of_ble_eq_true hl
 refine⟨⟨fn,hf,hn,by rw[hb];rfl⟩,fun w S0 vs hS0 hvl hv=>?_⟩
 refine calls_of_wp hf hb ?_
 have hrel:RelX ⟨w,S0,fn.ntmps,hS0,fun _=>False,w,fun _=>True⟩ ⟨O9 0 args,[]⟩ (fun _=>undef) { tmps:=vs.toArray++Array.replicate (fn.ntmps-vs.toArray.size) undef,defers:=[] } w:=by
  refine⟨by simp;omega,rfl,Below.refl _ _,fun t av ht=>?_,fun id B hB=>by simp [look]at hB,fun id id' B B' hB=>by simp [look]at hB,Nat.le_refl _,fun k hk=>hk.elim,fun _ _ _ _ _ _ _=>trivial⟩
  rw[X3,if_pos (by omega),Nat.sub_zero]at ht
  have hlt:t < args.length:=by
   by_cases e:t < args.length
   ·exact e
   ·rw[List.getElem?_eq_none (by omega)]at ht;cases ht
  have h1:vs[t]?=some (vs[t]'(by omega)):=List.getElem?_eq_getElem (by omega)
  refine⟨vs[t]'(by omega),?_,.pure _ _ ((hv t av _ ht h1).mono (fun k hk=>.inl hk) (fun _ _=>rfl))⟩
  rw[Array.getElem?_append_left (by simp;omega)]
  simp [h1]
 refine wp_mono (h ⟨w,S0,fn.ntmps,hS0,fun _=>False,w,fun _=>True⟩ rfl _ w ⟨_,hrel⟩) fun e a' w' ⟨σ',h1,pl,h2⟩=>?_
 have fin:Bh6 rv ty k σ'→a'.defers=[]∧∃ v,(results fn a'.tmps).run P w'=.ok v w'∧∃ v',Ending.returned v=.returned v' ∧
   BlkRel w.heap.size (fun _=>none) (fun _=>.bool false) (fun b=>(S0 b∨(w.heap.size≤b∧b < w'.heap.size))∧blkOf v'≠some b) w' v' ⟨0,ty,k⟩∧Below w.heap.size w w':=by
  intro hr
  obtain⟨v,e1,e2⟩:=At6 (P:=P) h2 hr
  exact⟨h2.dfr,v,A05 hts e1,v,rfl,e2.keep (Al5.refl _ _) (fun b hb=>⟨hb.1.elim .inl fun h=>.inr ⟨h.1.1,h.2⟩,hb.2⟩) (fun _ _=>rfl) (fun _ _ _=>rfl),h2.below⟩
 cases e with
 | normal=>exact fin h1
 | ret=>exact fin h1
 | _=>exact h1.elim
theorem A8y{f:FuncId}{fn:Func}{args:List AV}{ty:Nat}{k:BK}(hT:TabOk P T)(hm:P.follows .mixedOrders=true)(rv:ResultVar)(nt:Nat)(hf:P.funcs[f]?=some fn)
  (hb:(fn.body.isSome && !(fn.name == "runtime.NumGoroutine") && fn.ntmps == nt && Nat.ble args.length nt)=true)
  (hts:fn.results=#[rv]) (h:∀ E:Env,Ctx P T E nt→AWP P E (A16 fn) (B0i rv ty k) ⟨O9 0 args,[]⟩):A48 P f args ty k:=by
 simp only [Bool.and_eq_true,Bool.not_eq_true',beq_iff_eq]at hb
 obtain⟨⟨⟨h1,h2⟩,h3⟩,h4⟩:=hb
 obtain⟨b,hb'⟩:=Option.isSome_iff_exists.1 h1
 refine An5 (c:=b) rv hf hb' h2 (by rw[h3];exact h4) hts fun E hE=>?_
 have:A16 fn=b:=by simp [A16,hb']
 rw[← this]
 exact h E ⟨hT,hm,by rw[hE,h3]⟩
def A07(w:World)(g:Nat):World:={ w with heap:=w.heap.extract 0 g }
theorem K5{w:World}{g:Nat}(h:g≤w.heap.size):(A07 w g).heap.size=g:=by simp [A07];omega
theorem A50{w:World}{g:Nat}(h:g≤w.heap.size):Below g (A07 w g) w :=
 ⟨rfl,rfl,rfl,by rw[K5 h];exact h,fun k hk=>by simp [A07,Array.getElem?_extract];omega⟩
theorem An6{f:FuncId}{fn:Func}{args:List AV}{ty sz:Nat}{rows rs:List (List AV)}(rv:ResultVar)(hf:P.funcs[f]?=some fn)(hb:fn.body=some c)(hn:(fn.name == "runtime.NumGoroutine")=false)(hl:Nat.ble (args.length+1) fn.ntmps=true)
  (hts:fn.results=#[rv]) (hsz:∀ r∈rows,r.length=sz) (hrs:∀ r∈rs,r.length=sz) (h:∀ E:Env,E.nt=fn.ntmps→AWP P E c (B0i rv ty (.row sz rs)) ⟨(0,.own 0 0) :: O9 1 args,[(0,⟨0,ty,.row sz rows⟩)]⟩):Bs9 P f ty sz rows args rs:=by
 have hl':args.length+1≤fn.ntmps:=Nat.le_of_ble_eq_true hl
 refine⟨⟨fn,hf,hn,by rw[hb];rfl⟩,hrs,fun w base v S xs vs hbase hS hvS ho hx1 hxr hvl hv=>?_⟩
 refine calls_of_wp hf hb ?_
 -- the block of the row,or the heap's end
 obtain⟨g,hg,hgb,hgo,hgS⟩:∃ g,g≤w.heap.size∧base≤g∧w.ownsRow g ty sz v rows.length xs∧(∀ k,blkOf v=some k→k=g∧g < w.heap.size):=by
  rcases ho.2 with⟨e1,e2⟩ | ⟨g,cap,cur,e1,e2,e3,e4⟩
  ·exact⟨w.heap.size,Nat.le_refl _,hbase,⟨ho.1,.inl ⟨e1,e2⟩⟩,fun k hk=>by rw[e1]at hk;simp [blkOf]at hk⟩
  ·have hlt:g < w.heap.size:=(Array.getElem?_eq_some_iff.1 e3).1
   exact⟨g,Nat.le_of_lt hlt,e2,⟨ho.1,.inr ⟨g,cap,cur,e1,Nat.le_refl _,e3,e4⟩⟩,fun k hk=>by rw[e1]at hk;simp [blkOf]at hk;omega⟩
 have hE0:∀ k,(S k∧k < g)→k <(A07 w g).heap.size:=fun k hk=>by rw[K5 hg];exact hk.2
 let E:Env:=⟨A07 w g,fun k=>S k∧k < g,fn.ntmps,hE0,fun k=>g≤k∧k < w.heap.size∧blkOf v≠some k,w,fun k=>S k∨blkOf v=some k⟩
 have hlook:∀ id B,look [(0,(⟨0,ty,.row sz rows⟩:Blk))] id=some B→id=0∧B=⟨0,ty,.row sz rows⟩:=by
  intro id B hB
  simp only [look]at hB
  split at hB
  ·rename_i e
   simp only [Option.some.injEq]at hB
   exact⟨(by simpa using e:(0:Nat)=id).symm,hB.symm⟩
  ·cases hB
 have hSS:∀ k,S k→SS E (look [(0,(⟨0,ty,.row sz rows⟩:Blk))]) (fun _=>v) w k:=by
  intro k hk
  by_cases e:k < g
  ·exact .inl ⟨hk,e⟩
  ·exact .inr ⟨⟨by show(A07 w g).heap.size≤k;rw[K5 hg];omega,fun _=>.inl hk⟩,hS k hk,fun id B hB hl e2=>hvS k e2 hk⟩
 have hrel:RelX E ⟨(0,.own 0 0) :: O9 1 args,[(0,⟨0,ty,.row sz rows⟩)]⟩ (fun _=>v) { tmps:=(v :: vs).toArray++Array.replicate (fn.ntmps-(v :: vs).toArray.size) undef,defers:=[] } w:=by
  refine⟨by simp [E];omega,rfl,by show Below (A07 w g).heap.size (A07 w g) w;rw[K5 hg];exact A50 hg,fun t av ht=>?_,fun id B hB=>?_,fun id id' B B' hB hB' hl hl' hne=>?_,Nat.le_refl _,fun k hk=>⟨(Classical.em (S k)).elim (fun h=>.inl (hSS k h)) fun h=>.inr ⟨hk.2.1,fun hJ=>hJ.elim h hk.2.2⟩,rfl⟩,fun id B hB hl k hk _=>.inr hk⟩
  ·simp only [look]at ht
   split at ht
   ·rename_i e
    have e:t=0:=(by simpa using e:(0:Nat)=t).symm
    subst e
    simp only [Option.some.injEq]at ht
    subst ht
    have h1:v.oneCell'=true:=by
     rcases ho.2 with⟨e0,_⟩ | ⟨g,cap,cur,e0,_⟩ <;> rw[e0] <;> rfl
    exact⟨v,by rw[Array.getElem?_append_left (by simp)];simp,.own 0 0 v ⟨0,ty,.row sz rows⟩ (by simp [look]) (Nat.le_refl _) h1 (fun _ _=>rfl)⟩
   ·rename_i e
    have e:t≠0:=fun k=>e (by simp [k])
    rw[X3]at ht
    split at ht
    ·have hlt:t-1 < args.length:=by
      by_cases e:t-1 < args.length
      ·exact e
      ·rw[List.getElem?_eq_none (by omega)]at ht;cases ht
     have h1:vs[t-1]?=some (vs[t-1]'(by omega)):=List.getElem?_eq_getElem (by omega)
     refine⟨vs[t-1]'(by omega),?_,.pure _ _ ((hv (t-1) av _ ht h1).mono hSS (fun _ _=>rfl))⟩
     rw[Array.getElem?_append_left (by simp;omega)]
     obtain⟨t,rfl⟩:∃ u,t=u+1:=⟨t-1,by omega⟩
     simp
    ·cases ht
  ·obtain⟨rfl,rfl⟩:=hlook id B hB
   refine⟨hsz,xs,by show w.ownsRow (A07 w g).heap.size ty sz v rows.length xs;rw[K5 hg];exact hgo,hx1,fun j b u hb hu=>(hxr j b u hb hu).mono hSS (fun _ _=>rfl)⟩
  ·obtain⟨rfl,rfl⟩:=hlook id B hB
   obtain⟨rfl,rfl⟩:=hlook id' B' hB'
   exact absurd rfl hne
 refine wp_mono (h E rfl _ w ⟨_,hrel⟩) fun e a' w' ⟨σ',h1,pl,h2⟩=>?_
 have fin:Bh6 rv ty (.row sz rs) σ'→a'.defers=[]∧∃ u,(results fn a'.tmps).run P w'=.ok u w'∧∃ v' xs',Ending.returned u=.returned v'∧w'.ownsRow base ty sz v' rs.length xs'∧(∀ u∈xs',u.oneCell'=true) ∧
   (∀(j:Nat) (a:AV) (u:Value),rs.flatten[j]?=some a→xs'[j]?=some u→RelV0 (fun b=>S b∨(((w.heap.size≤b∧b < w'.heap.size)∨blkOf v=some b)∧blkOf v'≠some b)) w' a u)∧w.grownBy w' (blkOf v)∧(∀ k,blkOf v'=some k→blkOf v=some k∨(w.heap.size≤k∧k < w'.heap.size)):=by
  intro hr
  obtain⟨v',e1,e2⟩:=At6 (P:=P) h2 hr
  obtain⟨_,xs',o1,o2,o3⟩:=e2
  have hbel:Below g (A07 w g) w':=by have:=h2.below;rw[show E.w0.heap.size=g from K5 hg]at this;exact this
  have o1':w'.ownsRow g ty sz v' rs.length xs':=by rw[show E.w0.heap.size=g from K5 hg]at o1;exact o1
  refine⟨h2.dfr,v',A05 hts e1,v',xs',rfl,?_,o2,fun j b u hb hu=>?_,⟨hbel.os,hbel.tape,hbel.output,h2.kept.1,fun k hk hne=>?_⟩,fun k hk=>?_⟩
  ·rcases o1' with⟨q1,q2⟩
   refine⟨q1,?_⟩
   rcases q2 with q2 | ⟨g',cap,cur,q3,q4,q5⟩
   ·exact .inl q2
   ·exact .inr ⟨g',cap,cur,q3,Nat.le_trans hgb q4,q5⟩
  ·refine(o3 j b u hb hu).mono (fun k hk=>?_) (fun _ _=>rfl)
   rcases hk with⟨hk | hk,hne⟩
   ·exact .inl hk.1
   ·by_cases e:k < w.heap.size
    ·rcases hk.1.2 e with hJ | hJ
     ·exact .inl hJ
     ·exact .inr ⟨.inr hJ,hne⟩
    ·exact .inr ⟨.inl ⟨by omega,hk.2⟩,hne⟩
  ·by_cases e:k < g
   ·rw[hbel.block k e,←(A50 hg).block k e]
   ·exact(h2.kept.2.1 k ⟨by omega,hk,fun e=>hne e.symm⟩).2
  ·have hk1:g≤k∧k < w'.heap.size:=by
    rcases o1'.2 with⟨q2,_⟩ | ⟨g',cap,cur,q3,q4,q5,_⟩
    ·rw[q2]at hk;simp [blkOf]at hk
    ·rw[q3]at hk
     simp only [blkOf,Option.map_some,Option.some.injEq]at hk
     have:=(Array.getElem?_eq_some_iff.1 q5).1
     omega
   by_cases e:blkOf v=some k
   ·exact .inl e
   ·by_cases e2:w.heap.size≤k
    ·exact .inr ⟨e2,hk1.2⟩
    ·-- a block that was there,and not the row's: it is kept as shared,so not one's own
     rcases(h2.kept.2.1 k ⟨hk1.1,by omega,e⟩).1 with this | this
     ·exact absurd hk (B7e h2 hr e1 this)
     ·exact absurd (resB_J h2 hr e1 hk this.1) this.2
 cases e with
 | normal=>exact fin h1
 | ret=>exact fin h1
 | _=>exact h1.elim
theorem At7{α:Type}(f:α→List AV)(ys:List α)(l:Nat):AV.sl (List.drop l (List.take ((none:Option Int).getD ((List.map f ys).length:Int)).toNat (List.map f ys)))=AV.sl (List.map f (List.drop l ys)):=by
 rw[List.take_of_length_le (by simp),List.map_drop]
theorem B7f{α:Type}(f:α→List AV)(ys:List α)(h:Nat):AV.sl (List.drop 0 (List.take h (List.map f ys)))=AV.sl (List.map f (List.take h ys)):=by
 rw[List.map_take,List.drop_zero]
theorem B2m{f:FuncId}{fn:Func}{args:List AV}{ty sz:Nat}{rows rs:List (List AV)}(hT:TabOk P T)(hm:P.follows .mixedOrders=true)(rv:ResultVar)(nt:Nat)(hf:P.funcs[f]?=some fn)
  (hb:(fn.body.isSome && !(fn.name == "runtime.NumGoroutine") && fn.ntmps == nt && Nat.ble (args.length+1) nt)=true)
  (hts:fn.results=#[rv]) (hsz:∀ r∈rows,r.length=sz) (hrs:∀ r∈rs,r.length=sz) (h:∀ E:Env,Ctx P T E nt→AWP P E (A16 fn) (B0i rv ty (.row sz rs)) ⟨(0,.own 0 0) :: O9 1 args,[(0,⟨0,ty,.row sz rows⟩)]⟩):Bs9 P f ty sz rows args rs:=by
 simp only [Bool.and_eq_true,Bool.not_eq_true',beq_iff_eq]at hb
 obtain⟨⟨⟨h1,h2⟩,h3⟩,h4⟩:=hb
 obtain⟨b,hb'⟩:=Option.isSome_iff_exists.1 h1
 refine An6 (c:=b) rv hf hb' h2 (by rw[h3];exact h4) hts hsz hrs fun E hE=>?_
 have:A16 fn=b:=by simp [A16,hb']
 rw[← this]
 exact h E ⟨hT,hm,by rw[hE,h3]⟩
theorem A3s{rv:ResultVar}{ty sz:Nat}{rows rows':List (List AV)}(e:Exit)(he:e=.normal∨e=.ret)(t id ver:Nat)(hr:rv=.tmp t)(hs:look σ.slots t=some (.own id ver))(hB:look σ.hp id=some ⟨ver,ty,.row sz rows'⟩)(hk:rows'=rows):B0i rv ty (.row sz rows) e σ:=by
 subst hk
 rcases he with rfl | rfl <;> exact⟨t,hr,.inl ⟨id,ver,sz,rows',hs,hB,rfl⟩⟩
theorem qb_ptr{rv:ResultVar}{ty:Nat}{cells cells':List AV}(e:Exit)(he:e=.normal∨e=.ret)(t id ver:Nat)(hr:rv=.tmp t)(hs:look σ.slots t=some (.ptr id ver 0 0))(hB:look σ.hp id=some ⟨ver,ty,.arr cells'⟩)(hk:cells'=cells):B0i rv ty (.arr cells) e σ:=by
 subst hk
 rcases he with rfl | rfl <;> exact⟨t,hr,.inr (.inr ⟨id,ver,cells',hs,hB,rfl⟩)⟩
theorem A48.le{f:FuncId}{args args':List AV}{ty:Nat}{k:BK}(h:A48 P f args' ty k)(hl:ZLe args args'):A48 P f args ty k:=by
 refine⟨h.1,fun w S0 vs hS hv hr=>h.2 w S0 vs hS (hv.trans hl.1) fun j y u hy hu=>?_⟩
 have hj:j < args.length:=by
  have:=hl.1
  by_cases e:j < args.length
  ·exact e
  ·rw[List.getElem?_eq_none (by omega)]at hy;cases hy
 exact hl.2 j _ y (List.getElem?_eq_getElem hj) hy S0 w u (hr j _ u (List.getElem?_eq_getElem hj) hu)
theorem B7g{f:FuncId}{args:List AV}{ty:Nat}{k:BK}(j:Nat){rows:List (List AV)}(hj:args[j]?=some (.sl rows))(hc:E6 P f)(kk:rows.length≤maxLen→A48 P f args ty k):A48 P f args ty k:=by
 refine⟨hc,fun w S0 vs hS hl hv=>?_⟩
 have hlt:j < args.length:=by
  by_cases e:j < args.length
  ·exact e
  ·rw[List.getElem?_eq_none (by omega)]at hj;cases hj
 have hm:rows.length≤maxLen:=by
  have h0:=hv j _ _ hj (List.getElem?_eq_getElem (by omega:j < vs.length))
  generalize vs[j]'(by omega)=v at h0
  cases h0 with
  | sl _ A cap sz u hc hm=>exact hm
 exact(kk hm).2 w S0 vs hS hl hv
theorem A24{α:Type}{f:FuncId}{fn:Func}{args:List AV}{ty:Nat}{k:BK}(j:Nat)(g:α→List AV)(xs:List α)(hj:args[j]?=some (.sl (xs.map g)))(hf:P.funcs[f]?=some fn)(hb:(fn.body.isSome && !(fn.name == "runtime.NumGoroutine"))=true)(kk:xs.length≤9223372036854775807→A48 P f args ty k):A48 P f args ty k :=
 B7g j hj (An4 hf hb) fun h=>kk (by rw[List.length_map]at h;exact h)
end
end Go.E
namespace Go.E
open Go.RowKit
def E8{α:Type}(enc:α→List AV)(n:Nat)(T:Nat→List α):List AV:=(List.range n).map fun j=>AV.sl ((T j).map enc)
def L4{α:Type}(T:Nat→α)(k:Nat)(v:α):Nat→α:=fun j=>if j=k then v else T j
theorem S7{α:Type}(enc:α→List AV)(n:Nat)(T:Nat→List α):(E8 enc n T).length=n:=by simp [E8]
theorem E7{α:Type}{enc:α→List AV}{n:Nat}{T:Nat→List α}{j:Nat}(h:j < n):(E8 enc n T)[j]?=some (.sl ((T j).map enc)):=by
 simp [E8,h]
theorem B7h{α:Type}{enc:α→List AV}{n:Nat}{T:Nat→List α}{j:Nat}{l:List α}{rows:List (List AV)}(h:rows=l.map enc):(E8 enc n T).set j (.sl rows)=E8 enc n (L4 T j l):=by
 subst h
 apply List.ext_getElem?
 intro i
 rw[List.getElem?_set]
 by_cases hi:i < n
 ·rw[E7 hi,S7]
  by_cases e:j=i
  ·subst e;rw[if_pos rfl,if_pos hi,E7 hi];simp [L4]
  ·rw[if_neg e,E7 hi]
   have:¬ i=j:=fun h=>e h.symm
   simp [L4,this]
 ·have e1:(E8 enc n T)[i]?=none:=List.getElem?_eq_none (by rw[S7];omega)
  have e2:(E8 enc n (L4 T j l))[i]?=none:=List.getElem?_eq_none (by rw[S7];omega)
  rw[e1,e2,S7]
  split
  ·rw[if_neg (by omega)]
  ·rfl
theorem A51{α:Type}{enc:α→List AV}{n:Nat}{T:Nat→List α}{j:Nat}{l:List α}{a:AV}(h:a=.sl (l.map enc)):(E8 enc n T).set j a=E8 enc n (L4 T j l):=by
 rw[h]
 exact B7h rfl
def C3{α:Type}(b ty sz n:Nat)(f:α→List AV)(T:Nat→List α):List (Nat×Blk):=(List.range n).map fun j=>(b+j,⟨0,ty,.row sz ((T j).map f)⟩)
def G6(b n:Nat):List AV:=(List.range n).map fun j=>.own (b+j) 0
theorem ZLe.of_eq{a b:List AV}(h:a=b):ZLe a b:=by rw[h];exact ZLe.refl b
section
variable {P : Program} {E : Env} {T : Tab} {σ : St} {Q : Exit → St → Prop} {c : Code} {nt : Nat}
def St.arrVar(σ:St)(d:Nat):Option St:=match look σ.hp d with
 | some B=>(match B.k with | .arr cells=>some ⟨σ.slots,put σ.hp d { B with k:=.var cells }⟩ | _=>none)
 | none=>none
theorem Rel.arrVar{σ':St}{d:Nat}{a:Act}{w:World}(hs:σ.arrVar d=some σ')(h:Rel E σ a w):Rel E σ' a w:=by
 unfold St.arrVar at hs
 split at hs
 ·rename_i B hB
  split at hs
  ·rename_i cells hk
   simp only [Option.some.injEq]at hs
   subst hs
   obtain⟨pl,h⟩:=h
   have hl:B.live=true:=by simp [Blk.live,hk]
   obtain⟨g,vs,e1,e2,e3,e4,e5⟩:=h.arrCell hB hk
   have hb:=(h.blk_lt hB hl (k:=g) (by rw[e1];rfl)).1
   have:=(h.chg (w':=w) d { B with k:=.var cells } (pl d) (.inr ⟨B,hB,hl,rfl,by funext r c;simp [Blk.off,hk],rfl,by simp [Blk.len,hk]⟩) (fun _ _ _=>rfl) rfl rfl rfl (Nat.le_refl _)
    (fun k hk'=>.inr ⟨B,hB,hl,hk'⟩) ⟨g,vs,e1,hb,e2,e3,e4,fun j b u hb' hu=>.pure _ _ (e5 j b u hb' hu)⟩).1
   have epl:D8 pl d (pl d)=pl:=by funext i;unfold D8;split <;> simp_all
   rw[epl]at this
   exact⟨pl,this⟩
  ·cases hs
 ·cases hs
theorem Rel.varArr{d:Nat}{B:Blk}{cells cs:List AV}{a:Act}{w:World}(hB:look σ.hp d=some B)(hk:B.k=.var cells∨B.k=.arr cells)(hp:cells.all W6=true)(hz:ZLe cells cs)(h:Rel E σ a w):Rel E ⟨σ.slots,put σ.hp d { B with k:=.arr cs }⟩ a w:=by
 obtain⟨pl,h⟩:=h
 have hl:B.live=true:=by rcases hk with hk | hk <;> simp [Blk.live,hk]
 have hp':∀ x∈cells,W6 x=true:=by simpa using hp
 have key:∃ g vs,pl d=.pointer (some ⟨g,0,none⟩)∧w.heap[g]?=some (.cells vs B.ty (0,0))∧vs.size=cells.length∧(∀ u∈vs.toList,u.oneCell'=true) ∧
   ∀(j:Nat) (b:AV) (u:Value),cells[j]?=some b→vs[j]?=some u→RelV0 (SS E (look σ.hp) pl w) w b u:=by
  rcases hk with hk | hk
  ·obtain⟨g,vs,e1,e2,e3,e4,e5⟩:=h.varCell hB hk
   exact⟨g,vs,e1,e2,e3,e4,fun j b u hb hu=>L7 (e5 j b u hb hu) (hp' b (List.mem_of_getElem? hb))⟩
  ·exact h.arrCell hB hk
 obtain⟨g,vs,e1,e2,e3,e4,e5⟩:=key
 have hb:=(h.blk_lt hB hl (k:=g) (by rw[e1];rfl)).1
 have:=(h.chg (w':=w) d { B with k:=.arr cs } (pl d) (.inr ⟨B,hB,hl,rfl,by funext r c;rcases hk with hk | hk <;> simp [Blk.off,hk],rfl,by rcases hk with hk | hk <;> simp [Blk.len,hk,hz.1]⟩) (fun _ _ _=>rfl) rfl rfl rfl (Nat.le_refl _)
  (fun k hk'=>.inr ⟨B,hB,hl,hk'⟩) ⟨g,vs,e1,hb,e2,by rw[e3];exact hz.1,e4,fun j b u hb' hu=>by
   have hj:j < cells.length:=by
    have:=hz.1
    have:=lt_of_getElem? hb'
    omega
   exact hz.2 j _ b (List.getElem?_eq_getElem hj) hb' _ _ _ (e5 j _ u (List.getElem?_eq_getElem hj) hu)⟩).1
 have epl:D8 pl d (pl d)=pl:=by funext i;unfold D8;split <;> simp_all
 rw[epl]at this
 exact⟨pl,this⟩
def St.adoptC(σ:St)(d ty sz j id:Nat):Option St:=match look σ.hp d,look σ.hp id with
 | some B,none=>(match B.k with
  | .var cells=>(match cells[j]? with
   | some .nl=>some ⟨σ.slots,put (put σ.hp id ⟨0,ty,.row sz []⟩) d { B with k:=.var (cells.set j (.own id 0)) }⟩
   | _=>none)
  | _=>none)
 | _,_=>none
theorem Rel.adoptC{σ':St}{d ty sz j id:Nat}{a:Act}{w:World}(hs:σ.adoptC d ty sz j id=some σ')(h:Rel E σ a w):Rel E σ' a w:=by
 unfold St.adoptC at hs
 split at hs
 ·rename_i B hB hid
  split at hs
  ·rename_i cells hk
   split at hs
   ·rename_i hc
    simp only [Option.some.injEq]at hs
    subst hs
    obtain⟨pl,h⟩:=h
    have hl:B.live=true:=by simp [Blk.live,hk]
    have hne:¬ id=d:=by rintro rfl;rw[hB]at hid;cases hid
    have h1:=(h.new (Below.refl _ _) id ⟨0,ty,.row sz []⟩ (.slice none 0 0) (fun C hC=>by rw[hid]at hC;cases hC) (fun k hk=>by simp [blkOf]at hk)
     ⟨fun r hr=>by simp at hr,[],World.ownsRow_nil _ _ _ _,fun u hu=>by simp at hu,fun j b u hb=>by simp at hb⟩).1
    have hB1:look (Go.E.put σ.hp id ⟨0,ty,.row sz []⟩) d=some B:=by rw[C8,if_neg hne];exact hB
    obtain⟨g,vs,e1,e2,e3,e4,e5⟩:=h1.varCell (id:=d) hB1 hk
    have hb:=(h1.blk_lt (id:=d) hB1 hl (k:=g) (by rw[e1];rfl)).1
    have h2:=(h1.chg (w':=w) d { B with k:=.var (cells.set j (.own id 0)) } (D8 pl id (.slice none 0 0) d) (.inr ⟨B,hB1,hl,rfl,by funext r c;simp [Blk.off,hk],rfl,by simp [Blk.len,hk]⟩) (fun _ _ _=>rfl) rfl rfl rfl (Nat.le_refl _)
     (fun k hk'=>.inr ⟨B,hB1,hl,hk'⟩) ⟨g,vs,e1,hb,e2,by rw[e3];simp,e4,fun i b u hb' hu=>by
      rw[List.getElem?_set]at hb'
      split at hb'
      ·rename_i e
       subst e
       split at hb'
       ·simp only [Option.some.injEq]at hb'
        subst hb'
        have hu':u=.slice none 0 0:=A3b (e5 j .nl u hc hu)
        subst hu'
        exact .own id 0 _ ⟨0,ty,.row sz []⟩ (by simp [C8]) (Nat.le_refl _) rfl fun _ _=>by simp [D8]
       ·cases hb'
      ·exact e5 i b u hb' hu⟩).1
    exact⟨_,h2⟩
   ·cases hs
  ·cases hs
 ·cases hs
def St.adoptCs(d ty sz b:Nat):Nat→St→Option St
 | 0,σ=>some σ
 | n+1,σ=>match St.adoptCs d ty sz b n σ with
  | some σ'=>σ'.adoptC d ty sz n (b+n)
  | none=>none
theorem Rel.adoptCs{d ty sz b:Nat}{a:Act}{w:World}:∀ {n:Nat} {σ σ':St},St.adoptCs d ty sz b n σ=some σ'→Rel E σ a w→Rel E σ' a w
 | 0,σ,σ',hs,h=>by simp only [St.adoptCs,Option.some.injEq]at hs;subst hs;exact h
 | n+1,σ,σ',hs,h=>by
  simp only [St.adoptCs]at hs
  split at hs
  ·rename_i σ1 h1
   exact Rel.adoptC hs (Rel.adoptCs h1 h)
  ·cases hs
def St.tabIn(σ:St)(d ty sz b n:Nat):Option St:=(σ.arrVar d).bind (St.adoptCs d ty sz b n)
theorem A8z{α:Type}{enc:α→List AV}{n:Nat}{T:Nat→List α}{j:Nat}(h:j < n):(List.drop (j*1) (E8 enc n T))[0]?=some (.sl ((T j).map enc)):=by
 rw[List.getElem?_drop,Nat.add_zero,Nat.mul_one,E7 h]
theorem A7i(d ty sz j id:Nat){σ':St}(he:σ.adoptC d ty sz j id=some σ')(h:AWP P E c Q σ'):AWP P E c Q σ:=A0j (fun a w hr=>Rel.adoptC he hr) h
theorem A25(d ty sz b n:Nat){σ':St}(he:σ.tabIn d ty sz b n=some σ')(h:AWP P E c Q σ'):AWP P E c Q σ:=A0j (fun a w hr=>by
 unfold St.tabIn at he
 cases h1:σ.arrVar d with
 | none=>rw[h1]at he;cases he
 | some σ1=>rw[h1]at he;exact(hr.arrVar h1).adoptCs he) h
theorem I2(d:Nat)(B:Blk)(cells cs:List AV){σ':St}(hB:look σ.hp d=some B)(hk:Nat.beq (match B.k with | .var _=>1 | .arr _=>1 | _=>0) 1=true)(hc:(match B.k with | .var cells=>cells | .arr cells=>cells | _=>[])=cells)(hp:cells.all W6=true)(hz:ZLe cells cs)
  (he:(⟨σ.slots,put σ.hp d { B with k:=.arr cs }⟩:St)=σ') (h:AWP P E c Q σ'):AWP P E c Q σ:=A0j (fun a w hr=>by
 subst he
 refine Rel.varArr hB ?_ hp hz hr
 subst hc
 cases hkk:B.k <;> rw[hkk]at hk <;> simp at hk ⊢) h
def St.nlUp(σ:St)(d j:Nat):Option St:=match look σ.hp d with
 | some B=>(match B.k with
  | .var cells=>(match cells[j]? with
   | some .nl=>some ⟨σ.slots,put σ.hp d { B with k:=.var (cells.set j (.sl [])) }⟩
   | _=>none)
  | _=>none)
 | none=>none
theorem Rel.nlUp{σ':St}{d j:Nat}{a:Act}{w:World}(hs:σ.nlUp d j=some σ')(h:Rel E σ a w):Rel E σ' a w:=by
 unfold St.nlUp at hs
 split at hs
 ·rename_i B hB
  split at hs
  ·rename_i cells hk
   split at hs
   ·rename_i hc
    injection hs with hs
    subst hs
    obtain⟨pl,h⟩:=h
    have hl:B.live=true:=by simp [Blk.live,hk]
    obtain⟨g,vs,e1,e2,e3,e4,e5⟩:=h.varCell hB hk
    have hb:=(h.blk_lt hB hl (k:=g) (by rw[e1];rfl)).1
    have h':=(h.chg (w':=w) d { B with k:=.var (cells.set j (.sl [])) } (pl d) (.inr ⟨B,hB,hl,rfl,by funext r c;simp [Blk.off,hk],rfl,by simp [Blk.len,hk]⟩) (fun _ _ _=>rfl) rfl rfl rfl (Nat.le_refl _)
     (fun k hk'=>.inr ⟨B,hB,hl,hk'⟩) ⟨g,vs,e1,hb,e2,by rw[e3,List.length_set],e4,fun q b u hb' hu=>by
      by_cases e:j=q
      ·subst e
       have hj:=lt_of_getElem? hc
       rw[List.getElem?_set_self hj,Option.some.injEq]at hb'
       subst hb'
       exact .pure _ _ (B9.nl _ _ _ (L7 (e5 j _ u hc hu) rfl))
      ·rw[List.getElem?_set_ne e]at hb'
       exact e5 q b u hb' hu⟩).1
    have epl:D8 pl d (pl d)=pl:=by funext i;unfold D8;split <;> simp_all
    rw[epl]at h'
    exact⟨pl,h'⟩
   ·cases hs
  ·cases hs
 ·cases hs
theorem At8(d j:Nat){σ':St}(he:σ.nlUp d j=some σ')(h:AWP P E c Q σ'):AWP P E c Q σ:=A0j (fun a w hr=>Rel.nlUp he hr) h
def B7i(Φ:Int→Prop):Prop:=Φ 0∧Φ 1∧Φ 2∧Φ 3∧Φ 4∧Φ 5∧Φ 6∧Φ 7∧Φ 8∧Φ 9∧Φ 10∧Φ 11∧Φ 12∧Φ 13∧Φ 14∧Φ 15
theorem B7i.at{Φ:Int→Prop}(h:B7i Φ){r:Int}(h0:0≤r)(h1:r < 16):Φ r:=by
 obtain⟨a0,a1,a2,a3,a4,a5,a6,a7,a8,a9,a10,a11,a12,a13,a14,a15⟩:=h
 have:r=0∨r=1∨r=2∨r=3∨r=4∨r=5∨r=6∨r=7∨r=8∨r=9∨r=10∨r=11∨r=12∨r=13∨r=14∨r=15:=by omega
 rcases this with rfl | rfl | rfl | rfl | rfl | rfl | rfl | rfl | rfl | rfl | rfl | rfl | rfl | rfl | rfl | rfl <;> assumption
theorem B7j{F G:Int→St}{A:Int→Prop}(cx:Ctx P T E nt)(ovs:Int→List (Nat×Ov))(ks kb:List Nat)(r:Int)(h0:0≤r)(h1:r < 16)(h:B8 c=1)(he:σ=F r)
  (hr:B7i fun k=>Bt2 P T (ovs k) nt c (F k) ks kb=some (A k,G k)) (hA:A r) (k:Q .normal (G r)):AWP P E c Q σ:=by
 subst he
 exact Bb4 cx (ovs r) ks kb h (hr.at h0 h1) hA k
theorem A0k{F G:Int→St}{A:Int→Prop}(cx:Ctx P T E nt)(ovs:Int→List (Nat×Ov))(ks kb:List Nat)(r:Int)(h0:0≤r)(h1:r < 16)(h:B8 c=2)(he:σ=F r)
  (hr:B7i fun k=>Bt3 P T (ovs k) nt c (F k) ks kb=some (A k,G k)) (hA:A r) (k:Q .normal (G r)):AWP P E c Q σ:=by
 subst he
 exact Bb5 cx (ovs r) ks kb h (hr.at h0 h1) hA k
theorem B2n{α:Type}(enc:α→List AV)(n:Nat):ZLe (List.replicate n AV.nl) (E8 enc n fun _=>[]):=by
 refine⟨by simp [S7],fun j x y hx hy=>?_⟩
 have hj:j < n:=by have:=lt_of_getElem? hx;simpa using this
 rw[E7 hj]at hy
 simp only [List.map_nil,Option.some.injEq]at hy
 subst hy
 simp [hj]at hx
 subst hx
 exact B9.nl
end
end Go.E
namespace Go.E
open Go.RowKit
def sizeT(T:Tab)(t:Nat):Nat:=((look T t).map TI.size).getD 0
def At9(T:Tab)(t:Nat):Nat:=((look T t).map TI.bytes).getD 0
def S8(T:Tab):Nat→List Field→Option Nat
 | off,[]=>some off
 | off,f :: fs=>if f.offset == off then S8 T (off+sizeT T f.type) fs else none
def N6(T:Tab):Nat→Nat→Bool
 | 0,_=>false
 | n+1,t=>match look T t with
  | some ti=>(match ti.desc with
   | .bool=>true
   | .int _=>true
   | .string=>true
   | .slice e=>Nat.ble 1 (sizeT T e) && N6 T n e
   | .struct fs=>S8 T 0 fs.toList == some ti.size && fs.toList.all fun f=>N6 T n f.type
   | .array k e=>k*sizeT T e == ti.size && N6 T n e
   | _=>false)
  | none=>false
def B2o(C:Nat→List AV→Prop):List Field→List AV→Prop
 | [],cs=>cs=[]
 | f :: fs,cs=>∃ a b,cs=a++b∧C f.type a∧B2o C fs b
/-! How much a reading holds: values and letters, each as often as it is met. -/
mutual
def bulkD {H : Type} : DataW H → Nat
  | .lit (.string bytes) => bytes.length + 1
  | .lit _ => 1
  | .nil => 1
  | .ptr d => bulkD d + 1
  | .slice elems spare => bulkDs elems + bulkDs spare + 1
  | .agg parts => bulkDs parts + 1
  | .iface _ d => bulkD d + 1
  | .map entries => bulkDm entries + 1
  | .held _ => 1
def bulkDs {H : Type} : List (DataW H) → Nat
  | [] => 0
  | d :: r => bulkD d + bulkDs r
def bulkDm {H : Type} : List (Lit × DataW H) → Nat
  | [] => 0
  | x :: r => bulkDe x + bulkDm r
def bulkDe {H : Type} : Lit × DataW H → Nat
  | (.string bytes, d) => bytes.length + bulkD d + 1
  | (_, d) => bulkD d + 1
end
theorem B2p{H:Type}(d:DataW H):1≤bulkD d:=by
 cases d with
 | lit l=>cases l <;> simp [bulkD]
 | nil=>simp [bulkD]
 | ptr d=>simp [bulkD]
 | slice elems spare=>simp [bulkD]
 | agg parts=>simp [bulkD]
 | iface t d=>simp [bulkD]
 | map entries=>simp [bulkD]
 | held h=>simp [bulkD]
theorem A0l{H:Type}{d:DataW H}:∀ {l:List (DataW H)},d∈l→bulkD d≤bulkDs l
 | x :: r,h=>by
  simp only [bulkDs]
  rcases List.mem_cons.1 h with rfl | h
  ·omega
  ·have:=A0l h;omega
theorem A7j{H:Type}:∀(l:List (DataW H)),l.length≤bulkDs l
 | []=>by simp [bulkDs]
 | x :: r=>by have:=B2p x;have:=A7j r;simp only [bulkDs,List.length_cons];omega
def TyC(T:Tab)(L:Nat):Nat→Nat→List AV→Prop
 | 0,_,_=>False
 | n+1,t,cs=>match look T t with
  | some ti=>(match ti.desc with
   | .bool=>∃ b,cs=[.b b]
   | .int k=>∃ x,cs=[.i k x]∧k.min≤x∧x≤k.max
   | .string=>∃ s,cs=[.s s]∧s.size≤maxLen∧s.size≤140737488351232∧s.size≤L
   | .slice e=>∃ rows,cs=[.sl rows]∧rows.length≤maxLen∧rows.length*At9 T e≤140737488351232∧rows.length≤L∧∀ r∈rows,TyC T L n e r
   | .struct fs=>B2o (TyC T L n) fs.toList cs
   | .array k e=>∃ rows:List (List AV),cs=rows.flatten∧rows.length=k∧∀ r∈rows,TyC T L n e r
   | _=>False)
  | none=>False
def Q4(S:Nat→Prop)(w:World)(avs:List AV)(cs:List Value):Prop :=
 avs.length=cs.length∧(∀ u∈cs,u.oneCell'=true)∧∀(j:Nat) (a:AV) (u:Value),avs[j]?=some a→cs[j]?=some u→RelV0 S w a u
theorem Q4.one{S:Nat→Prop}{w:World}{a:AV}{u:Value}(h:RelV0 S w a u)(h1:u.oneCell'=true):Q4 S w [a] [u] :=
 ⟨rfl,fun x hx=>by rw[List.mem_singleton.1 hx];exact h1,fun j b v hb hv=>by
  cases j with
  | zero=>simp at hb hv;subst hb hv;exact h
  | succ j=>simp at hb⟩
theorem Q4.append{S:Nat→Prop}{w:World}{a b:List AV}{c d:List Value}(h1:Q4 S w a c)(h2:Q4 S w b d):Q4 S w (a++b) (c++d):=by
 refine⟨by simp [h1.1,h2.1],fun u hu=>?_,fun j x u hx hu=>?_⟩
 ·rcases List.mem_append.1 hu with hu | hu
  ·exact h1.2.1 u hu
  ·exact h2.2.1 u hu
 ·by_cases hj:j < a.length
  ·rw[List.getElem?_append_left hj]at hx
   rw[List.getElem?_append_left (by rw[← h1.1];exact hj)]at hu
   exact h1.2.2 j x u hx hu
  ·rw[List.getElem?_append_right (by omega)]at hx
   rw[List.getElem?_append_right (by rw[← h1.1];omega),← h1.1]at hu
   exact h2.2.2 _ x u hx hu
theorem Q4.nil{S:Nat→Prop}{w:World}:Q4 S w [] []:=⟨rfl,fun u hu=>by simp at hu,fun j a u ha=>by simp at ha⟩
theorem A52{Q:Nat→List AV→Prop}:∀(n:Nat),(∀ i,i < n→∃ r,Q i r)→∃ rows:List (List AV),rows.length=n∧∀(i:Nat) (r:List AV),rows[i]?=some r→Q i r
 | 0,_=>⟨[],rfl,fun i r h=>by simp at h⟩
 | n+1,h=>by
  obtain⟨rows,h1,h2⟩:=A52 n fun i hi=>h i (by omega)
  obtain⟨r,hr⟩:=h n (by omega)
  refine⟨rows++[r],by simp [h1],fun i q hq=>?_⟩
  by_cases hi:i < rows.length
  ·rw[List.getElem?_append_left hi]at hq
   exact h2 i q hq
  ·rw[List.getElem?_append_right (by omega)]at hq
   have:i=n:=by
    by_cases e:i-rows.length=0
    ·omega
    ·rw[List.getElem?_eq_none (by simp;omega)]at hq;cases hq
   subst this
   rw[h1,Nat.sub_self]at hq
   simp at hq
   subst hq
   exact hr
section
variable {P : Program} {T : Tab} {H : Type} {enc : TypeId × Value → H} {W : World} {spare : Nat → Bool} {held : Bool}
theorem J5(hT:TabOk P T){t:Nat}{ti:TI}(h:look T t=some ti):P.cellsOf t=sizeT T t:=by
 have h2:=(hT t ti h).2
 unfold Program.cellsOf sizeT
 rw[h]
 cases hi:P.info? t with
 | none=>rw[hi]at h2;simp at h2
 | some i =>
  rw[hi]at h2
  simp only [Option.map_some,Option.some.injEq,Prod.mk.injEq]at h2
  simp [h2.1]
theorem A72(hT:TabOk P T){t:Nat}{ti:TI}(h:look T t=some ti):P.bytesOf t=At9 T t:=by
 have h2:=(hT t ti h).2
 unfold Program.bytesOf At9
 rw[h]
 cases hi:P.info? t with
 | none=>rw[hi]at h2;simp at h2
 | some i =>
  rw[hi]at h2
  simp only [Option.map_some,Option.some.injEq,Prod.mk.injEq]at h2
  simp [h2.2.1]
theorem Q5{t:Nat}:∀ {ds:List (DataW H)} {d:DataW H},d∈ds→∀ n∈d.weights P t,n∈DataW.weightsAll P t ds
 | [],d,h,_,_=>by simp at h
 | d0 :: ds,d,h,n,hn=>by
  simp only [DataW.weightsAll,List.mem_append]
  rcases List.mem_cons.1 h with rfl | h
  ·exact .inl hn
  ·exact .inr (Q5 h n hn)
theorem V3{n t:Nat}(h:N6 T n t=true):∃ ti,look T t=some ti:=by
 cases n with
 | zero=>simp [N6]at h
 | succ n =>
  unfold N6 at h
  split at h
  ·rename_i ti hti;exact⟨ti,hti⟩
  ·cases h
def Opens(P:Program)(T:Tab)(H:Type)(enc:TypeId×Value→H)(W:World)(spare:Nat→Bool)(held:Bool)(n t:Nat):Prop :=
 ∀ fuel cs d ps,DataW.trod enc P W 0 spare held fuel t cs=some (d,ps)→(∀ m∈d.weights P t,m≤reachBytes)→∀ L,bulkD d≤L→∃ avs,Q4 (fun k=>k < W.heap.size) W avs cs∧TyC T L n t avs
theorem A3t{C:Nat→List AV→Prop}{cs:List Value}:∀(fs:List Field) (off m:Nat),S8 T off fs=some m→m=cs.length→off≤cs.length →
  (∀ f∈fs,∃ avs,Q4 (fun k=>k < W.heap.size) W avs ((cs.drop f.offset).take (sizeT T f.type))∧C f.type avs)→∃ avs,Q4 (fun k=>k < W.heap.size) W avs (cs.drop off)∧B2o C fs avs
 | [],off,m,hc,hm,hoff,_=>by
  simp only [S8,Option.some.injEq]at hc
  have:cs.drop off=[]:=by simp;omega
  rw[this]
  exact⟨[],.nil,rfl⟩
 | f :: fs,off,m,hc,hm,hoff,h=>by
  simp only [S8]at hc
  split at hc
  ·rename_i e
   have e':f.offset=off:=by simpa using e
   have hle:off+sizeT T f.type≤m:=by
    clear h
    have:∀(fs:List Field) (o m:Nat),S8 T o fs=some m→o≤m:=by
     intro fs
     induction fs with
     | nil=>intro o m h;simp [S8]at h;omega
     | cons g gs ih =>
      intro o m h
      simp only [S8]at h
      split at h
      ·have:=ih _ _ h;omega
      ·cases h
    exact this fs _ _ hc
   obtain⟨a,h1,h2⟩:=h f (by simp)
   obtain⟨b,h3,h4⟩:=A3t fs _ m hc hm (by omega) fun g hg=>h g (List.mem_cons_of_mem _ hg)
   rw[e']at h1
   refine⟨a++b,?_,a,b,rfl,h2,h4⟩
   have:cs.drop off=(cs.drop off).take (sizeT T f.type)++cs.drop (off+sizeT T f.type):=by
    rw[← List.drop_drop,List.take_append_drop]
   rw[this]
   exact h1.append h3
  ·cases hc
theorem A53{C:List AV→Prop}{cs:List Value}{sz:Nat}:∀(k i:Nat),(i+k)*sz=cs.length →
  (∀ j,i≤j→j < i+k→∃ avs,Q4 (fun k=>k < W.heap.size) W avs ((cs.drop (j*sz)).take sz)∧C avs) →
  ∃ rows:List (List AV),Q4 (fun k=>k < W.heap.size) W rows.flatten (cs.drop (i*sz))∧rows.length=k∧∀ r∈rows,C r
 | 0,i,hl,_=>by
  have:cs.drop (i*sz)=[]:=by simp;simp at hl;omega
  rw[this]
  exact⟨[],.nil,rfl,fun r hr=>by simp at hr⟩
 | k+1,i,hl,h=>by
  obtain⟨a,h1,h2⟩:=h i (Nat.le_refl _) (by omega)
  obtain⟨rows,h3,h4,h5⟩:=A53 k (i+1) (by rw[← hl];congr 1;omega) fun j hj hj'=>h j (by omega) (by omega)
  refine⟨a :: rows,?_,by simp [h4],fun r hr=>?_⟩
  ·have:cs.drop (i*sz)=(cs.drop (i*sz)).take sz++cs.drop ((i+1)*sz):=by
    rw[Nat.add_mul,Nat.one_mul,← List.drop_drop,List.take_append_drop]
   rw[this,List.flatten_cons]
   exact h1.append h3
  ·rcases List.mem_cons.1 hr with rfl | hr
   ·exact h2
   ·exact h5 r hr
theorem B7k(hT:TabOk P T):∀(n t:Nat),N6 T n t=true→Opens P T H enc W spare held n t
 | 0,t,h=>by simp [N6]at h
 | n+1,t,h=>by
  obtain⟨ti,hti⟩:=V3 h
  have hu:=(hT t ti hti).1
  have hsz:=J5 hT hti
  intro fuel cs d ps htr hwt L hL
  cases fuel with
  | zero=>simp [DataW.trod]at htr
  | succ fuel =>
   unfold N6 at h
   rw[hti]at h
   simp only at h
   unfold TyC
   rw[hti]
   simp only
   unfold DataW.trod at htr
   rw[hu]at htr
   cases hd:ti.desc with
   | bool =>
    rw[hd]at htr h
    split at htr <;> simp_all
    rename_i b
    refine⟨[.b b],.one (.b b) rfl,?_⟩
    cases b <;> simp
   | int k =>
    rw[hd]at htr h
    split at htr <;> simp_all
    rename_i k' x _
    obtain⟨⟨rfl,hw⟩,_⟩:=htr
    refine⟨[.i k' x],.one (.i k' x) rfl,x,rfl,?_⟩
    simpa [Lit.wf]using hw
   | string =>
    rw[hd]at htr h
    split at htr <;> simp_all
    rename_i s
    refine⟨[.s s],.one (.s s) rfl,s,rfl,htr.1,?_,?_⟩
    ·have:=hwt s.data.toList.length (by rw[← htr.2.1];simp [DataW.weights])
     simpa [reachBytes]using this
    ·rw[← htr.2.1]at hL
     simp only [bulkD]at hL
     have e:s.data.toList.length=s.size:=by rw[Array.length_toList];rfl
     omega
   | slice e =>
    rw[hd]at h
    simp only [Bool.and_eq_true]at h
    obtain⟨tei,htei⟩:=V3 h.2
    have hse:=J5 hT htei
    have hpos:0 < sizeT T e:=by have:=Nat.le_of_ble_eq_true h.1;omega
    have hop:=B7k hT n e h.2
    rw[hd]at htr
    split at htr
    all_goals first | (simp_all;done) | skip
    ·rename_i e' heq
     refine⟨[.sl []],.one (.sl [] none 0 0 (fun _ _=>.bool false) (by simp) (by simp) (fun _=>rfl) (fun r hr=>by simp at hr) (fun h=>by simp at h) (fun _ _=>rfl) (fun j q r a hr=>by simp at hr)) rfl,[],rfl,by simp,by simp,by simp,fun r hr=>by simp at hr⟩
    ·rename_i e' a len cap heq
     simp only [Option.some.injEq,TypeDesc.slice.injEq]at heq
     subst heq
     split at htr
     ·rename_i hb
      obtain⟨_,hlc,hcm⟩:=hb
      cases hm:(List.range len).mapM fun i=>(W.cells? 0 (a.add (i*P.cellsOf e)) (P.cellsOf e)).bind (DataW.trod enc P W 0 spare held fuel e)with
      | none=>simp [hm]at htr
      | some elems =>
       obtain⟨rest,hwd⟩:∃ rest:List (DataW H),d=.slice (elems.map (·.1)) rest:=by
        dsimp only at htr
        rw[hm]at htr
        simp only [Option.bind_some]at htr
        generalize (if spare a.block=true then(List.range (cap-len)).mapM fun j=>(W.cells? 0 (a.add ((len+j)*P.cellsOf e)) (P.cellsOf e)).bind (DataW.trod enc P W 0 spare held fuel e)else some [])=rs at htr
        cases rs with
        | none=>simp at htr
        | some rs =>
         simp only [Option.map_some,Option.some.injEq,Prod.mk.injEq]at htr
         exact⟨_,htr.1.symm⟩
       have hw1:len*At9 T e≤140737488351232:=by
        have:=hwt ((elems.map (·.1)).length+rest.length |>(·*P.bytesOf e)) (by rw[hwd];simp [DataW.weights,hu,hd])
        have hl:=mapM_some_length hm
        rw[List.length_range]at hl
        rw[A72 hT htei]at this
        simp only [List.length_map,hl]at this
        refine Nat.le_trans (Nat.mul_le_mul_right _ (Nat.le_add_right len rest.length)) ?_
        simpa [reachBytes]using this
       have hw2:∀ x∈elems,∀ m∈x.1.weights P e,m≤reachBytes:=fun x hx m hm=>hwt m (by
        rw[hwd]
        simp only [DataW.weights,hu,hd,List.mem_cons,List.mem_append]
        exact .inr (.inl (Q5 (List.mem_map.2 ⟨x,hx,rfl⟩) m hm)))
       have hw3:∀ x∈elems,bulkD x.1≤L:=fun x hx=>by
        rw[hwd]at hL
        simp only [bulkD]at hL
        have:=A0l (List.mem_map.2 ⟨x,hx,rfl⟩:x.1∈elems.map (·.1))
        omega
       have hw4:len≤L:=by
        rw[hwd]at hL
        simp only [bulkD]at hL
        have:=A7j (elems.map (·.1))
        have hl:=mapM_some_length hm
        rw[List.length_range]at hl
        rw[List.length_map,hl]at this
        omega
       have hel:∀ i,i < len→∃ csi,W.cells? 0 (a.add (i*sizeT T e)) (sizeT T e)=some csi∧∃ avs,Q4 (fun k=>k < W.heap.size) W avs csi∧TyC T L n e avs:=by
        intro i hi
        have:=mapM_some_get hm i i (by simp [hi])
        have hl:=mapM_some_length hm
        rw[List.length_range]at hl
        rw[List.getElem?_eq_getElem (by omega),hse]at this
        cases hc:W.cells? 0 (a.add (i*sizeT T e)) (sizeT T e)with
        | none=>simp [hc]at this
        | some csi =>
         rw[hc]at this
         simp only [Option.bind_some]at this
         exact⟨csi,rfl,hop fuel csi _ _ this (hw2 _ (List.getElem_mem _)) L (hw3 _ (List.getElem_mem _))⟩
       obtain⟨rows,hrl,hrq⟩:=A52 (Q:=fun i r=>∃ csi,W.cells? 0 (a.add (i*sizeT T e)) (sizeT T e)=some csi∧Q4 (fun k=>k < W.heap.size) W r csi∧TyC T L n e r) len
        (fun i hi=>by obtain⟨csi,h1,avs,h2,h3⟩:=hel i hi;exact⟨avs,csi,h1,h2,h3⟩)
       have hcell:∀ i csi,W.cells? 0 (a.add (i*sizeT T e)) (sizeT T e)=some csi→csi.length=sizeT T e∧∀ q,q < sizeT T e→W.cell? (a.add (i*sizeT T e+q))=csi[q]?:=by
        intro i csi hc
        have hc':=hc
        unfold World.cells? at hc'
        rw[if_pos (Nat.zero_le _)]at hc'
        have hl:=mapM_some_length hc'
        rw[List.length_range]at hl
        refine⟨hl,fun q hq=>?_⟩
        have:=mapM_some_get hc' q q (by simp [hq])
        rw[← this,Addr.add_add]
       refine⟨[.sl rows],.one ?_ rfl,rows,rfl,by omega,by rw[hrl];exact hw1,by rw[hrl];exact hw4,fun r hr=>?_⟩
       ·rw[← hrl]
        refine .sl rows (some a) cap (sizeT T e) (fun j q=>if j < len∧q < sizeT T e then(W.cell? (a.add (j*sizeT T e+q))).getD (.bool false)else .bool false) (by omega) (by omega) (fun h=>by cases h) (fun r hr=>?_) (fun h0=>?_) (fun j q=>?_) (fun j q r b hr hb=>?_)
        ·obtain⟨i,hi,rfl⟩:=List.mem_iff_getElem.1 hr
         obtain⟨csi,h1,h2,_⟩:=hrq i _ (List.getElem?_eq_getElem hi)
         rw[h2.1,(hcell i csi h1).1]
        ·refine⟨a,rfl,?_,fun j q hj hq=>?_⟩
         ·obtain⟨csi,h1,_⟩:=hel 0 (by omega)
          have:=World.cells?_block h1 hpos
          rwa [Q0]at this
         ·obtain⟨csi,h1,_⟩:=hel j (by omega)
          obtain⟨h2,h3⟩:=hcell j csi h1
          rw[if_pos ⟨by omega,hq⟩,h3 q hq,List.getElem?_eq_getElem (by omega)]
          rfl
        ·show Value.oneCell' (if _ then _ else _)=true
         split
         ·rename_i hjq
          obtain⟨csi,h1,avs,h2,_⟩:=hel j hjq.1
          obtain⟨h3,h4⟩:=hcell j csi h1
          rw[h4 q hjq.2,List.getElem?_eq_getElem (by omega)]
          exact h2.2.1 _ (List.getElem_mem _)
         ·rfl
        ·obtain⟨csi,h1,h2,_⟩:=hrq j r hr
         obtain⟨h3,h4⟩:=hcell j csi h1
         have hj:j < rows.length:=lt_of_getElem? hr
         have hq:q < r.length:=lt_of_getElem? hb
         rw[h2.1,h3]at hq
         show RelV0 _ _ b (if _ then _ else _)
         rw[if_pos ⟨by omega,hq⟩,h4 q hq,List.getElem?_eq_getElem (by omega)]
         exact h2.2.2 q b _ hb (List.getElem?_eq_getElem (by omega))
       ·obtain⟨i,hi,rfl⟩:=List.mem_iff_getElem.1 hr
        obtain⟨csi,_,_,h3⟩:=hrq i _ (List.getElem?_eq_getElem hi)
        exact h3
     ·cases htr
   | struct fs =>
    rw[hd]at h
    simp only [Bool.and_eq_true,beq_iff_eq,List.all_eq_true]at h
    rw[hd]at htr
    simp only at htr
    split at htr
    ·rename_i hlen
     cases hm:(fs.toList.mapM fun f=>DataW.trod enc P W 0 spare held fuel f.type ((cs.drop f.offset).take (P.cellsOf f.type)))with
     | none=>simp [hm]at htr
     | some xs =>
      have hszt:ti.size=cs.length:=by rw[hlen,hsz];simp [sizeT,hti]
      obtain⟨avs,h1,h2⟩:=A3t (T:=T) (W:=W) (C:=TyC T L n) (cs:=cs) fs.toList 0 ti.size h.1 hszt (Nat.zero_le _) (fun f hf=>by
       obtain⟨i,hi,e⟩:=List.mem_iff_getElem.1 hf
       have:=mapM_some_get hm i f (by rw[← e];exact List.getElem?_eq_getElem hi)
       have hl:=mapM_some_length hm
       rw[List.getElem?_eq_getElem (by omega)]at this
       obtain⟨tf,htf⟩:=V3 (h.2 f hf)
       rw[J5 hT htf]at this
       exact B7k hT n f.type (h.2 f hf) fuel _ _ _ this (fun m hm'=>hwt m (by
        rw[hm]at htr
        simp only [Option.map_some,Option.some.injEq,Prod.mk.injEq]at htr
        rw[← htr.1]
        simp only [DataW.weights,hu,hd]
        exact DataW.weights_mem_each (j:=i) (t:=f.type) (d:=(xs[i]'(by omega)).1) (by rw[List.getElem?_map,← e,List.getElem?_eq_getElem hi];rfl) (by rw[List.getElem?_map,List.getElem?_eq_getElem (by omega)];rfl) m hm')) L (by
        rw[hm]at htr
        simp only [Option.map_some,Option.some.injEq,Prod.mk.injEq]at htr
        rw[← htr.1]at hL
        simp only [bulkD]at hL
        have:=A0l (List.mem_map.2 ⟨_,List.getElem_mem (show i < xs.length by omega),rfl⟩:(xs[i]'(by omega)).1∈xs.map (·.1))
        exact Nat.le_trans this (by omega)))
      exact⟨avs,by simpa using h1,h2⟩
    ·cases htr
   | array k e =>
    rw[hd]at h
    simp only [Bool.and_eq_true,beq_iff_eq]at h
    rw[hd]at htr
    simp only at htr
    obtain⟨tei,htei⟩:=V3 h.2
    have hse:=J5 hT htei
    split at htr
    ·rename_i hlen
     cases hm:((List.range k).mapM fun i=>DataW.trod enc P W 0 spare held fuel e ((cs.drop (i*P.cellsOf e)).take (P.cellsOf e)))with
     | none=>simp [hm]at htr
     | some xs =>
      have hszt:ti.size=cs.length:=by rw[hlen,hsz];simp [sizeT,hti]
      obtain⟨rows,h1,h2,h3⟩:=A53 (W:=W) (C:=TyC T L n e) (cs:=cs) (sz:=sizeT T e) k 0 (by rw[Nat.zero_add,h.1,hszt]) (fun j _ hj=>by
       have:=mapM_some_get hm j j (List.getElem?_range (by omega))
       have hl:=mapM_some_length hm
       rw[List.length_range]at hl
       rw[List.getElem?_eq_getElem (by omega),hse]at this
       exact B7k hT n e h.2 fuel _ _ _ this (fun m hm'=>hwt m (by
        rw[hm]at htr
        simp only [Option.map_some,Option.some.injEq,Prod.mk.injEq]at htr
        rw[← htr.1]
        simp only [DataW.weights,hu,hd]
        exact Q5 (List.mem_map.2 ⟨_,List.getElem_mem (by omega),rfl⟩) m hm')) L (by
        rw[hm]at htr
        simp only [Option.map_some,Option.some.injEq,Prod.mk.injEq]at htr
        rw[← htr.1]at hL
        simp only [bulkD]at hL
        have:=A0l (List.mem_map.2 ⟨_,List.getElem_mem (show j < xs.length by omega),rfl⟩:(xs[j]'(by omega)).1∈xs.map (·.1))
        exact Nat.le_trans this (by omega)))
      exact⟨rows.flatten,by simpa using h1,rows,rfl,h2,h3⟩
    ·cases htr
   | _=>rw[hd]at h;first | exact absurd h Bool.false_ne_true | cases h
end
end Go.E
namespace Go.E
open Go.RowKit
def R7(P:Program)(T:Tab):Nat→Nat→Bool
 | 0,_=>false
 | n+1,t=>match look T t with
  | some ti=>(match ti.desc with
   | .bool=>ti.size == 1
   | .int _=>ti.size == 1
   | .string=>ti.size == 1
   | .struct fs=>S8 T 0 fs.toList == some ti.size && (fs.toList.all fun f=>f.name != "_" && R7 P T n f.type) && !P.stoodInHeld t
   | .array k e=>k*sizeT T e == ti.size && R7 P T n e
   | _=>false)
  | none=>false
def FlC(T:Tab):Nat→Nat→List AV→Prop
 | 0,_,_=>False
 | n+1,t,cs=>match look T t with
  | some ti=>(match ti.desc with
   | .bool=>∃ b,cs=[.b b]
   | .int k=>∃ x,cs=[.i k x]
   | .string=>∃ s,cs=[.s s]
   | .struct fs=>B2o (FlC T n) fs.toList cs
   | .array k e=>∃ rows:List (List AV),cs=rows.flatten∧rows.length=k∧∀ r∈rows,FlC T n e r
   | _=>False)
  | none=>False
def Bt5(T:Tab)(t:Nat):Bool:=((look T t).map TI.isAgg).getD false
def Au0(T:Tab)(t:Nat)(cs:List AV):Value:=if Bt5 T t then .agg (cs.map valA).toArray else valA (cs.headD .dead)
theorem A54{T:Tab}{C:Nat→List AV→Prop}:∀(fs:List Field) (off m:Nat) (cs:List AV),S8 T off fs=some m→(∀ f∈fs,∀ a,C f.type a→a.length=sizeT T f.type)→B2o C fs cs→off+cs.length=m
 | [],off,m,cs,hc,_,h=>by
  simp only [S8,Option.some.injEq]at hc
  simp only [B2o]at h
  subst h
  simpa using hc
 | f :: fs,off,m,cs,hc,hl,h=>by
  simp only [S8]at hc
  split at hc
  ·obtain⟨a,b,rfl,ha,hb⟩:=h
   have:=A54 fs _ m b hc (fun g hg=>hl g (List.mem_cons_of_mem _ hg)) hb
   have:=hl f (by simp) a ha
   simp only [List.length_append]
   omega
  ·cases hc
theorem A26{n:Nat}:∀(rows:List (List AV)),(∀ r∈rows,r.length=n)→rows.flatten.length=rows.length*n
 | [],_=>by simp
 | r :: rows,h=>by
  have:=A26 rows fun q hq=>h q (List.mem_cons_of_mem _ hq)
  simp only [List.flatten_cons,List.length_append,List.length_cons,this,h r (by simp),Nat.add_mul,Nat.one_mul]
  omega
theorem P4{P:Program}{T:Tab}:∀(n t:Nat) (cs:List AV),R7 P T n t=true→FlC T n t cs→cs.length=sizeT T t
 | 0,t,cs,h,_=>by simp [R7]at h
 | n+1,t,cs,h,hc=>by
  unfold R7 at h
  unfold FlC at hc
  unfold sizeT
  cases hl:look T t with
  | none=>rw[hl]at h;simp at h
  | some ti =>
   rw[hl]at h hc
   simp only [Option.map_some,Option.getD_some]at h hc ⊢
   cases hd:ti.desc with
   | bool=>rw[hd]at h hc;obtain⟨b,rfl⟩:=hc;simp at h;simp [h]
   | int k=>rw[hd]at h hc;obtain⟨b,rfl⟩:=hc;simp at h;simp [h]
   | string=>rw[hd]at h hc;obtain⟨b,rfl⟩:=hc;simp at h;simp [h]
   | struct fs =>
    rw[hd]at h hc
    simp only [Bool.and_eq_true,beq_iff_eq,List.all_eq_true]at h
    have:=A54 fs.toList 0 _ cs h.1.1 (fun f hf a ha=>P4 n f.type a (h.1.2 f hf).2 ha) hc
    omega
   | array k e =>
    rw[hd]at h hc
    simp only [Bool.and_eq_true,beq_iff_eq]at h
    obtain⟨rows,rfl,hk,hr⟩:=hc
    rw[A26 rows fun r hr'=>P4 n e r h.2 (hr r hr'),hk,h.1]
   | _=>rw[hd]at h;simp at h
section
variable {P : Program} {T : Tab}
theorem V4{n t:Nat}(h:R7 P T n t=true):∃ ti,look T t=some ti:=by
 cases n with
 | zero=>simp [R7]at h
 | succ n =>
  unfold R7 at h
  cases hl:look T t with
  | none=>rw[hl]at h;simp at h
  | some ti=>exact⟨ti,rfl⟩
theorem A55(A cs B:List AV):(((A++cs++B).map valA).toArray.extract A.length (A.length+cs.length))=(cs.map valA).toArray:=by
 apply Array.ext'
 rw[Array.toList_extract]
 simp [List.extract,List.map_append]
theorem A90(hT:TabOk P T){n t:Nat}(hf:R7 P T n t=true)(A cs B:List AV)(hc:FlC T n t cs)(w:World):(part t ((A++cs++B).map valA).toArray A.length).run P w=.ok (Au0 T t cs) w:=by
 have hlen:=P4 n t cs hf hc
 cases n with
 | zero=>simp [R7]at hf
 | succ n =>
  obtain⟨ti,hl⟩:=V4 hf
  have hu:=(hT t ti hl).1
  have hsz:=J5 hT hl
  obtain⟨i,hi⟩:=info_of_underlying hu
  unfold R7 at hf
  unfold FlC at hc
  rw[hl]at hf hc
  simp only at hf hc
  have hg:Bt5 T t=ti.isAgg:=by simp [Bt5,hl]
  have one:∀ a,cs=[a]→((A++cs++B).map valA).toArray[A.length]?=some (valA a):=by
   intro a e;subst e;simp
  cases hd:ti.desc with
  | bool =>
   rw[hd]at hu hc;obtain⟨b,hb⟩:=hc
   have:=one _ hb
   subst hb
   simp only [part,isAgg,Sem.run_bind,run_underlying hu,Result.andThen_ok,this]
   simp [Au0,hg,TI.isAgg,hd]
  | int k =>
   rw[hd]at hu hc;obtain⟨b,hb⟩:=hc
   have:=one _ hb
   subst hb
   simp only [part,isAgg,Sem.run_bind,run_underlying hu,Result.andThen_ok,this]
   simp [Au0,hg,TI.isAgg,hd]
  | string =>
   rw[hd]at hu hc;obtain⟨b,hb⟩:=hc
   have:=one _ hb
   subst hb
   simp only [part,isAgg,Sem.run_bind,run_underlying hu,Result.andThen_ok,this]
   simp [Au0,hg,TI.isAgg,hd]
  | struct fs =>
   rw[hd]at hu
   simp only [part,isAgg,Sem.run_bind,run_underlying hu,Result.andThen_ok,run_sizeOf w hi,hsz,← hlen,A55]
   simp [Au0,hg,TI.isAgg,hd,run_sizeOf w hi,hsz,← hlen]
  | array k e =>
   rw[hd]at hu
   simp only [part,isAgg,Sem.run_bind,run_underlying hu,Result.andThen_ok,run_sizeOf w hi,hsz,← hlen,A55]
   simp [Au0,hg,TI.isAgg,hd,run_sizeOf w hi,hsz,← hlen]
  | _=>rw[hd]at hf;simp at hf
def EqT(P:Program)(T:Tab)(d n t:Nat):Prop:=∀(cs ds:List AV),FlC T n t cs→FlC T n t ds→∀ w,∃ r:Bool,(Op.equalIn d t (Au0 T t cs) (Au0 T t ds)).run P w=.ok r w∧(r=true↔cs=ds)
theorem B2q{a b c d:List AV}(h:a.length=c.length):a++b=c++d↔a=c∧b=d :=
 ⟨fun e=>List.append_inj e h,fun⟨e1,e2⟩=>by rw[e1,e2]⟩
theorem Af4(hT:TabOk P T){d n:Nat}(w:World):∀(fs:List Field) (A A' cs ds:List AV) (m:Nat),S8 T A.length fs=some m→A.length=A'.length →
  (∀ f∈fs,f.name≠"_"∧R7 P T n f.type=true∧EqT P T d n f.type)→B2o (FlC T n) fs cs→B2o (FlC T n) fs ds →
  ∃ r:Bool,(Op.eqFields d ((A++cs).map valA).toArray ((A'++ds).map valA).toArray fs).run P w=.ok r w∧(r=true↔cs=ds)
 | [],A,A',cs,ds,m,_,_,_,h1,h2=>by
  simp only [B2o]at h1 h2
  subst h1 h2
  exact⟨true,by simp [Op.eqFields],by simp⟩
 | f :: fs,A,A',cs,ds,m,hc,hA,hall,h1,h2=>by
  simp only [S8]at hc
  split at hc
  ·rename_i hoff
   have hoff:f.offset=A.length:=by simpa using hoff
   obtain⟨a,b,rfl,ha,hb⟩:=h1
   obtain⟨a',b',rfl,ha',hb'⟩:=h2
   obtain⟨hn,hf,hE⟩:=hall f (by simp)
   have la:=P4 n f.type a hf ha
   have la':=P4 n f.type a' hf ha'
   have p1:=A90 hT hf A a b ha w
   have p2:=A90 hT hf A' a' b' ha' w
   rw[← hA]at p2
   obtain⟨r,hr,hiff⟩:=hE a a' ha ha' w
   obtain⟨r',hr',hiff'⟩:=Af4 hT w fs (A++a) (A'++a') b b' m (by rw[List.length_append,la];exact hc) (by simp [hA,la,la']) (fun g hg=>hall g (List.mem_cons_of_mem _ hg)) hb hb'
   rw[List.append_assoc]at hr' p1 p2
   rw[List.append_assoc]at hr'
   simp only [Op.eqFields,hn,ne_eq,not_false_eq_true,if_true,Sem.run_bind,hoff,p1,p2,hr,Result.andThen_ok,B2q (la.trans la'.symm)]
   cases r
   ·exact⟨false,by simp,by simp;intro e;exact absurd (hiff.2 e) (by simp)⟩
   ·refine⟨r',by simpa using hr',?_⟩
    rw[hiff']
    simp [hiff.1 rfl]
  ·cases hc
theorem Au1(hT:TabOk P T){d n e:Nat}(w:World)(hf:R7 P T n e=true)(hE:EqT P T d n e):∀(rows rows' A A':List (List AV)),rows.length=rows'.length→A.length=A'.length →
  (∀ r∈rows,FlC T n e r)→(∀ r∈rows',FlC T n e r)→(∀ r∈A,FlC T n e r)→(∀ r∈A',FlC T n e r) →
  ∃ r:Bool,(Op.eqItems d e (P.cellsOf e) (((A++rows).flatten).map valA).toArray (((A'++rows').flatten).map valA).toArray (List.range' A.length rows.length)).run P w=.ok r w∧(r=true↔rows.flatten=rows'.flatten)
 | [],[],A,A',_,_,_,_,_,_=>⟨true,by simp [Op.eqItems],by simp⟩
 | [],_ :: _,_,_,h,_,_,_,_,_=>by simp at h
 | _ :: _,[],_,_,h,_,_,_,_,_=>by simp at h
 | a :: rows,a' :: rows',A,A',hl,hA,h1,h2,h3,h4=>by
  obtain⟨ti,hlook⟩:=V4 hf
  have hsz:=J5 hT hlook
  have ha:=h1 a (by simp)
  have ha':=h2 a' (by simp)
  have la:=P4 n e a hf ha
  have la':=P4 n e a' hf ha'
  have lA:=A26 A fun r hr=>P4 n e r hf (h3 r hr)
  have lA':=A26 A' fun r hr=>P4 n e r hf (h4 r hr)
  have p1:=A90 hT hf A.flatten a rows.flatten ha w
  have p2:=A90 hT hf A'.flatten a' rows'.flatten ha' w
  rw[lA]at p1
  rw[lA',← hA]at p2
  obtain⟨r,hr,hiff⟩:=hE a a' ha ha' w
  obtain⟨r',hr',hiff'⟩:=Au1 hT w hf hE rows rows' (A++[a]) (A'++[a']) (by simpa using hl) (by simp [hA]) (fun q hq=>h1 q (List.mem_cons_of_mem _ hq)) (fun q hq=>h2 q (List.mem_cons_of_mem _ hq))
   (fun q hq=>by rcases List.mem_append.1 hq with hq | hq;exact h3 q hq;rw[List.mem_singleton.1 hq];exact ha) (fun q hq=>by rcases List.mem_append.1 hq with hq | hq;exact h4 q hq;rw[List.mem_singleton.1 hq];exact ha')
  have e1:(A++a :: rows).flatten=A.flatten++a++rows.flatten:=by simp
  have e2:(A'++a' :: rows').flatten=A'.flatten++a'++rows'.flatten:=by simp
  have e3:(A++[a]++rows).flatten=A.flatten++a++rows.flatten:=by simp
  have e4:(A'++[a']++rows').flatten=A'.flatten++a'++rows'.flatten:=by simp
  have e5:(A++[a]).length=A.length+1:=by simp
  rw[e3,e4,e5]at hr'
  rw[e1,e2,List.length_cons,List.range'_succ,hsz]
  rw[hsz]at hr'
  simp only [Op.eqItems,Sem.run_bind,p1,p2,hr,Result.andThen_ok,List.flatten_cons,B2q (la.trans la'.symm)]
  cases r
  ·exact⟨false,by simp,by simp;intro e;exact absurd (hiff.2 e) (by simp)⟩
  ·refine⟨r',by simpa using hr',?_⟩
   rw[hiff']
   simp [hiff.1 rfl]
theorem An7(hT:TabOk P T):∀(n d t:Nat),R7 P T n t=true→EqT P T (d+n) n t
 | 0,d,t,h=>by simp [R7]at h
 | n+1,d,t,h=>by
  intro cs ds hc hd w
  obtain⟨ti,hl⟩:=V4 h
  have hu:=(hT t ti hl).1
  unfold R7 at h
  unfold FlC at hc hd
  rw[hl]at h hc hd
  simp only at h hc hd
  have hg:Bt5 T t=ti.isAgg:=by simp [Bt5,hl]
  cases hdc:ti.desc with
  | bool =>
   rw[hdc]at hu hc hd
   obtain⟨x,rfl⟩:=hc
   obtain⟨y,rfl⟩:=hd
   refine⟨x == y,?_,by simp⟩
   simp only [Au0,hg,TI.isAgg,hdc,Bool.false_eq_true,if_false,List.headD_cons,valA]
   exact run_equalIn_bool' w (d+n) t x y hu
  | int k =>
   rw[hdc]at hu hc hd
   obtain⟨x,rfl⟩:=hc
   obtain⟨y,rfl⟩:=hd
   refine⟨x == y,?_,by simp⟩
   simp only [Au0,hg,TI.isAgg,hdc,Bool.false_eq_true,if_false,List.headD_cons,valA]
   exact run_equalIn_int w (d+n) t k k x y hu
  | string =>
   rw[hdc]at hu hc hd
   obtain⟨x,rfl⟩:=hc
   obtain⟨y,rfl⟩:=hd
   refine⟨x.toList == y.toList,?_,?_⟩
   rotate_left
   ·rw[beq_iff_eq]
    constructor
    ·intro e
     rw[ByteArray.toList_eq,ByteArray.toList_eq]at e
     have:x=y:=ByteArray.ext (Array.ext' e)
     rw[this]
    ·intro e
     simp only [List.cons.injEq,AV.s.injEq,and_true]at e
     rw[e]
   simp only [Au0,hg,TI.isAgg,hdc,Bool.false_eq_true,if_false,List.headD_cons,valA]
   exact run_equalIn_string w (d+n) t x y hu
  | struct fs =>
   rw[hdc]at hu hc hd h
   simp only [Bool.and_eq_true,beq_iff_eq,List.all_eq_true,bne_iff_ne,ne_eq,Bool.not_eq_true']at h
   have hfs:P.fieldsOf t=fs:=by simp [Program.fieldsOf,hu]
   have:=Af4 hT (d:=d+n) (n:=n) w fs.toList [] [] cs ds ti.size h.1.1 rfl (fun f hf=>⟨(h.1.2 f hf).1,(h.1.2 f hf).2,An7 hT n d f.type (h.1.2 f hf).2⟩) hc hd
   obtain⟨r,hr,hiff⟩:=this
   refine⟨r,?_,hiff⟩
   simp only [Au0,hg,TI.isAgg,hdc,if_true]
   rw[show d+(n+1)=(d+n)+1 from rfl,run_equalIn_struct w (d+n) t _ _ (by rw[hfs];exact hu) h.2,hfs]
   exact hr
  | array k e =>
   rw[hdc]at hu hc hd h
   simp only [Bool.and_eq_true,beq_iff_eq]at h
   obtain⟨rows,rfl,hk,hr⟩:=hc
   obtain⟨rows',rfl,hk',hr'⟩:=hd
   obtain⟨te,hle⟩:=V4 h.2
   obtain⟨i,hi⟩:=info_of_underlying (hT e te hle).1
   obtain⟨r,hrun,hiff⟩:=Au1 hT (d:=d+n) w h.2 (An7 hT n d e h.2) rows rows' [] [] (by omega) rfl hr hr' (fun r hr=>by simp at hr) (fun r hr=>by simp at hr)
   refine⟨r,?_,hiff⟩
   simp only [Au0,hg,TI.isAgg,hdc,if_true]
   rw[show d+(n+1)=(d+n)+1 from rfl,run_equalIn_array w (d+n) _ _ hu hi,List.range_eq_range',← hk]
   exact hrun
  | _=>rw[hdc]at h;simp at h
theorem A56{n:Nat}(hT:TabOk P T):∀(n t:Nat) (cs:List AV),R7 P T n t=true→FlC T n t cs→∀ a∈cs,∃ v,toV a=some v∧v=valA a
 | 0,t,cs,h,_=>by simp [R7]at h
 | n+1,t,cs,h,hc=>by
  obtain⟨ti,hl⟩:=V4 h
  unfold R7 at h
  unfold FlC at hc
  rw[hl]at h hc
  simp only at h hc
  intro a ha
  cases hd:ti.desc with
  | bool=>rw[hd]at hc;obtain⟨x,rfl⟩:=hc;rw[List.mem_singleton.1 ha];exact⟨_,rfl,rfl⟩
  | int k=>rw[hd]at hc;obtain⟨x,rfl⟩:=hc;rw[List.mem_singleton.1 ha];exact⟨_,rfl,rfl⟩
  | string=>rw[hd]at hc;obtain⟨x,rfl⟩:=hc;rw[List.mem_singleton.1 ha];exact⟨_,rfl,rfl⟩
  | struct fs =>
   rw[hd]at hc h
   simp only [Bool.and_eq_true,beq_iff_eq,List.all_eq_true]at h
   have key:∀(fs:List Field) (cs:List AV),(∀ f∈fs,R7 P T n f.type=true)→B2o (FlC T n) fs cs→∀ a∈cs,∃ v,toV a=some v∧v=valA a:=by
    intro fs
    induction fs with
    | nil=>intro cs _ h1 a ha;simp only [B2o]at h1;subst h1;simp at ha
    | cons f fs ih =>
     intro cs h0 h1 a ha
     obtain⟨x,y,rfl,hx,hy⟩:=h1
     rcases List.mem_append.1 ha with ha | ha
     ·exact A56 (n:=n) hT n f.type x (h0 f (by simp)) hx a ha
     ·exact ih y (fun g hg=>h0 g (List.mem_cons_of_mem _ hg)) hy a ha
   exact key fs.toList cs (fun f hf=>(h.1.2 f hf).2) hc a ha
  | array k e =>
   rw[hd]at hc h
   simp only [Bool.and_eq_true]at h
   obtain⟨rows,rfl,_,hr⟩:=hc
   obtain⟨r,hr',ha'⟩:=List.mem_flatten.1 ha
   exact A56 (n:=n) hT n e r h.2 (hr r hr') a ha'
  | _=>rw[hd]at h;simp at h
theorem A7k(hT:TabOk P T){n t:Nat}{cs:List AV}(h:R7 P T n t=true)(hc:FlC T n t cs){S:Nat→Prop}{w:World}{v:Value}(hv:RelV0 S w (.agg cs) v):v=.agg (cs.map valA).toArray:=by
 cases hv with
 | agg _ vs hl h1 hr =>
  congr 2
  apply List.ext_getElem (by simpa using hl)
  intro j j1 j2
  have hj:j < cs.length:=by omega
  have hrel:=hr j _ _ (List.getElem?_eq_getElem hj) (List.getElem?_eq_getElem j1)
  obtain⟨u,hu,he⟩:=A56 (n:=n) hT n t cs h hc cs[j] (List.getElem_mem hj)
  rw[List.getElem_map]
  generalize cs[j]=q at hrel hu
  generalize vs[j]=y at hrel
  cases q with
  | b x=>cases hrel;rfl
  | i k x=>cases hrel;rfl
  | s x=>cases hrel;rfl
  | _=>simp [toV]at hu
theorem A91(hT:TabOk P T){n t:Nat}(hn:n≤10000)(h:(R7 P T n t && Bt5 T t && !(P.eqGuardType P.depth t))=true){cs ds:List AV}(hc:FlC T n t cs)(hd:FlC T n t ds){z:Bool}(hz:z=true↔cs=ds):A6y P t cs ds z:=by
 simp only [Bool.and_eq_true,Bool.not_eq_true']at h
 obtain⟨⟨h1,h2⟩,h3⟩:=h
 intro S w v u hv hu
 rw[A7k hT h1 hc hv,A7k hT h1 hd hu]
 obtain⟨r,hr,hiff⟩:=An7 hT n (10000-n) t h1 cs ds hc hd w
 rw[show 10000-n+n=10000 by omega]at hr
 simp only [Au0,h2,if_true]at hr
 rw[Sem.run_bind,run_eqGuard_agg w .eql t (.tmp 0) (.tmp 0) _ _ h3,Result.andThen_ok,run_eql_struct,hr,Result.andThen_ok]
 have:r=z:=by
  cases r <;> cases z <;> simp_all
 rw[this]
end
theorem V5{P:Program}{t:Nat}{cs ds:List AV}{p:Prop}[Decidable p](h:A6y P t cs ds (decide p)):A6y P t cs ds (!decide (¬p)):=by
 have:(!decide (¬p))=decide p:=by by_cases hp:p <;> simp [hp]
 rw[this];exact h
end Go.E
namespace Go.Proofs.YtokhjapfekbobaaGreat
open Go.E
set_option maxRecDepth 100000
set_option maxHeartbeats 4000000
structure Dot where
 rep:Int
 num:Int
 deriving Inhabited,DecidableEq
structure Span where
 rep:Int
 lo:Int
 hi:Int
 deriving Inhabited,DecidableEq
def c3(n:Int):List AV:=[.i .i64 n]
def c23(v:List Int):List AV:=[.sl (v.map c3)]
def c65(d:Dot):List AV:=[.i .i64 d.rep,.i .i64 d.num]
def B5(s:Span):List AV:=[.i .i64 s.rep,.i .i64 s.lo,.i .i64 s.hi]
theorem fl65(x:Dot):FlC tab 3 65 (c65 x):=⟨[_],[_],rfl,⟨_,rfl⟩,[_],[],rfl,⟨_,rfl⟩,rfl⟩
theorem eq65(x y:Dot):A6y Tryz.prog 65 (c65 x) (c65 y) (decide (x=y)):=by
 refine A91 A9 (n:=3) (by decide) (by kernel_rfl) (fl65 x) (fl65 y) ?_
 cases x;cases y;simp [c65]
theorem fl109(x:Span):FlC tab 3 109 (B5 x):=⟨[_],[_,_],rfl,⟨_,rfl⟩,[_],[_],rfl,⟨_,rfl⟩,[_],[],rfl,⟨_,rfl⟩,rfl⟩
theorem eq109(x y:Span):A6y Tryz.prog 109 (B5 x) (B5 y) (decide (x=y)):=by
 refine A91 A9 (n:=3) (by decide) (by kernel_rfl) (fl109 x) (fl109 y) ?_
 cases x;cases y;simp [B5]
theorem A92{α:Type}[Inhabited α]{a:List α}{i:Nat}(h:i < a.length):a[i]!∈a:=by
 rw[getElem!_pos a i h];exact List.getElem_mem h
theorem E1{α:Type}[Inhabited α]{a:List α}{i:Int}(h0:0≤i)(h:i < a.length):a.take i.toNat++[a[i.toNat]!]=a.take (i+1).toNat:=by
 have e:(i+1).toNat=i.toNat+1:=by omega
 have hl:i.toNat < a.length:=by omega
 rw[e,List.take_succ_eq_append_getElem hl,getElem!_pos a _ hl]
structure Entry where
 dot:Dot
 sku:ByteArray
 qty:Int
 deriving Inhabited,DecidableEq
structure Run where
 lo:Int
 hi:Int
 deriving Inhabited,DecidableEq
structure Past where
 vec:List Int
 cloud:List Span
 deriving Inhabited,DecidableEq
def c67(e:Entry):List AV:=[.i .i64 e.dot.rep,.i .i64 e.dot.num,.s e.sku,.i .i64 e.qty]
def c181(r:Run):List AV:=[.i .i64 r.lo,.i .i64 r.hi]
def c26(p:Past):List AV:=[.sl (p.vec.map c3),.sl (p.cloud.map B5)]
theorem fl67(x:Entry):FlC tab 4 67 (c67 x):=⟨[_,_],[_,_],rfl,⟨[_],[_],rfl,⟨_,rfl⟩,[_],[],rfl,⟨_,rfl⟩,rfl⟩,[_],[_],rfl,⟨_,rfl⟩,[_],[],rfl,⟨_,rfl⟩,rfl⟩
theorem eq67(x y:Entry):A6y Tryz.prog 67 (c67 x) (c67 y) (decide (x=y)):=by
 refine A91 A9 (n:=4) (by decide) (by kernel_rfl) (fl67 x) (fl67 y) ?_
 obtain⟨⟨a,b⟩,c,d⟩:=x;obtain⟨⟨a',b'⟩,c',d'⟩:=y;simp [c67,and_assoc]
structure Record where
 sku:ByteArray
 past:Past
 deriving Inhabited,DecidableEq
structure Facts where
 adds:List Entry
 gone:Past
 recs:List Record
 deriving Inhabited,DecidableEq
def c83(r:Record):List AV:=[.s r.sku,.sl (r.past.vec.map c3),.sl (r.past.cloud.map B5)]
def c29(f:Facts):List AV:=[.sl (f.adds.map c67),.sl (f.gone.vec.map c3),.sl (f.gone.cloud.map B5),.sl (f.recs.map c83)]
end Go.Proofs.YtokhjapfekbobaaGreat
namespace Go.E
open Go.Sort
variable {α : Type} [Inhabited α]
def A73(a b n k:Nat):Nat:=if a≤k∧k < a+n then k-a+b else if b≤k∧k < b+n then k-b+a else k
def G7(a m b k:Nat):Nat:=if a≤k∧k < a+(b-m)then k-a+m else if a+(b-m)≤k∧k < b then k-(b-m)else k
theorem B2r(a b k:Nat):A73 a b 0 k=k:=by unfold A73;rw[if_neg (by omega),if_neg (by omega)]
theorem Bh7{d dk:Array α}{a b n:Nat}(hab:a+(n+1)≤b)(hb:b+(n+1)≤d.size)(hs:dk.size=d.size)(h:∀ k,dk[k]! = d[A73 a b n k]!) :
  ∀ k,(swp dk (a+n) (b+n))[k]! = d[A73 a b (n+1) k]!:=by
 intro k
 rw[swp_get dk (by omega) (by omega),h,h,h]
 by_cases e1:k=b+n
 ·rw[if_pos e1]
  congr 1
  unfold A73
  rw[if_neg (by omega),if_neg (by omega),if_neg (by omega),if_pos (by omega)];omega
 ·rw[if_neg e1]
  by_cases e2:k=a+n
  ·rw[if_pos e2]
   congr 1
   unfold A73
   rw[if_neg (by omega),if_neg (by omega),if_pos (by omega)];omega
  ·rw[if_neg e2]
   congr 1
   unfold A73
   by_cases h1:a≤k∧k < a+n
   ·rw[if_pos h1,if_pos (by omega)]
   ·rw[if_neg h1,if_neg (show ¬(a≤k∧k < a+(n+1))by omega)]
    by_cases h2:b≤k∧k < b+n
    ·rw[if_pos h2,if_pos (by omega)]
    ·rw[if_neg h2,if_neg (by omega)]
theorem B7l{m i j k:Nat}(hi:i≤m)(hj:0 < j)(h:j < i):A73 (m-i) m j (G7 (m-(i-j)) m (m+j) k)=G7 (m-i) m (m+j) k:=by
 unfold G7
 by_cases c1:m-i≤k∧k < m-i+j
 ·rw[if_neg (by omega),if_neg (by omega),if_pos (by omega)]
  unfold A73;rw[if_pos (by omega)]
 ·by_cases c2:m-(i-j)≤k∧k < m-(i-j)+j
  ·rw[if_pos (by omega),if_neg (by omega),if_pos (by omega)]
   unfold A73;rw[if_neg (by omega),if_pos (by omega)];omega
  ·by_cases c3:m-(i-j)+j≤k∧k < m+j
   ·rw[if_neg (by omega),if_pos (by omega),if_neg (by omega),if_pos (by omega)]
    unfold A73;rw[if_neg (by omega),if_neg (by omega)]
   ·rw[if_neg (by omega),if_neg (by omega),if_neg (by omega),if_neg (by omega)]
    unfold A73;rw[if_neg (by omega),if_neg (by omega)]
theorem B2s{m i j k:Nat}(hi:i≤m)(h0:0 < i)(h:i < j):A73 (m-i) (m+j-i) i (G7 (m-i) m (m+(j-i)) k)=G7 (m-i) m (m+j) k:=by
 unfold G7
 by_cases c1:m-i≤k∧k < m-i+(j-i)
 ·rw[if_pos (by omega),if_pos (by omega)]
  unfold A73;rw[if_neg (by omega)]
  by_cases c:m+j-i≤k-(m-i)+m
  ·omega
  ·rw[if_neg (by omega)]
 ·by_cases c2:m-i+(j-i)≤k∧k < m+(j-i)
  ·rw[if_neg (by omega),if_pos (by omega),if_pos (by omega)]
   unfold A73;rw[if_pos (by omega)];omega
  ·by_cases c3:m+(j-i)≤k∧k < m+j
   ·rw[if_neg (by omega),if_neg (by omega),if_neg (by omega),if_pos (by omega)]
    unfold A73;rw[if_neg (by omega),if_pos (by omega)];omega
   ·rw[if_neg (by omega),if_neg (by omega),if_neg (by omega),if_neg (by omega)]
    unfold A73;rw[if_neg (by omega),if_neg (by omega)]
theorem B7m{m i k:Nat}(hi:i≤m):A73 (m-i) m i k=G7 (m-i) m (m+i) k:=by
 unfold A73 G7
 by_cases c1:m-i≤k∧k < m-i+i
 ·rw[if_pos c1,if_pos (show m-i≤k∧k < m-i+(m+i-m)by omega)]
 ·rw[if_neg c1]
  by_cases c2:m≤k∧k < m+i
  ·rw[if_pos c2,if_neg (show ¬(m-i≤k∧k < m-i+(m+i-m))by omega),if_pos (show m-i+(m+i-m)≤k∧k < m+i by omega)];omega
  ·rw[if_neg c2,if_neg (show ¬(m-i≤k∧k < m-i+(m+i-m))by omega),if_neg (show ¬(m-i+(m+i-m)≤k∧k < m+i)by omega)]
theorem B2t(a k:Nat):G7 a (a+1) (a+1) k=k:=by unfold G7;rw[if_neg (by omega)];split <;> omega
theorem Bh8{d dk:Array α}{a c:Nat}(hac:a≤c)(hb:c+1 < d.size)(hs:dk.size=d.size)(h:∀ k,dk[k]! = d[G7 a (a+1) (c+1) k]!) :
  ∀ k,(swp dk c (c+1))[k]! = d[G7 a (a+1) (c+2) k]!:=by
 intro k
 rw[swp_get dk (by omega) (by omega),h,h,h]
 unfold G7
 by_cases e1:k=c+1
 ·rw[if_pos e1];congr 1
  rw[if_neg (by omega),if_pos (by omega),if_neg (by omega),if_pos (by omega)];omega
 ·rw[if_neg e1]
  by_cases e2:k=c
  ·rw[if_pos e2];congr 1
   rw[if_neg (by omega),if_neg (by omega),if_pos (by omega)];omega
  ·rw[if_neg e2];congr 1
   by_cases h1:a≤k∧k < a+(c+1-(a+1))
   ·rw[if_pos h1,if_pos (by omega)]
   ·rw[if_neg h1,if_neg (show ¬(a≤k∧k < a+(c+2-(a+1)))by omega),if_neg (by omega),if_neg (by omega)]
theorem B2u{d dk:Array α}{c m:Nat}(hcm:c+1≤m)(hb:m < d.size)(hs:dk.size=d.size)(h:∀ k,dk[k]! = d[G7 (c+1) m (m+1) k]!) :
  ∀ k,(swp dk (c+1) c)[k]! = d[G7 c m (m+1) k]!:=by
 intro k
 rw[swp_get dk (by omega) (by omega),h,h,h]
 unfold G7
 by_cases e1:k=c
 ·rw[if_pos e1];congr 1
  rw[if_pos (by omega),if_pos (by omega)];omega
 ·rw[if_neg e1]
  by_cases e2:k=c+1
  ·rw[if_pos e2];congr 1
   rw[if_neg (by omega),if_neg (by omega),if_neg (by omega),if_pos (by omega)];omega
  ·rw[if_neg e2];congr 1
   by_cases h1:c+1+(m+1-m)≤k∧k < m+1
   ·rw[if_neg (by omega),if_pos h1,if_neg (by omega),if_pos (by omega)]
   ·rw[if_neg (by omega),if_neg h1,if_neg (by omega),if_neg (by omega)]
theorem B2v(m k:Nat):G7 m m (m+1) k=k:=by unfold G7;split <;>(try split) <;> omega
variable {lt : α → α → Bool}
theorem A74(hO:SWO lt){d d':Array α}{a i b:Nat}(hs:SortedIn lt (a+1) b d)(h1:a+1≤i)(h2:i≤b)(hl:∀ h,a+1≤h→h < i→lt d[h]! d[a]! = true)(hr:∀ h,i≤h→h < b→lt d[h]! d[a]! = false)
  (hd:∀ k,d'[k]! = d[G7 a (a+1) i k]!):SortedIn lt a b d':=by
 intro p q hp hpq hq
 rw[hd,hd]
 unfold G7
 by_cases cq:q < i-1
 ·rw[if_pos (by omega),if_pos (by omega)]
  exact hs _ _ (by omega) (by omega) (by omega)
 ·by_cases cq2:q=i-1
  ·rw[if_neg (by omega),if_pos (by omega),if_pos (by omega)]
   have e:q-(i-(a+1))=a:=by omega
   rw[e]
   exact hO.asymmA (hl _ (by omega) (by omega))
  ·rw[if_neg (by omega),if_neg (show ¬(a+(i-(a+1))≤q∧q < i)by omega)]
   by_cases cp:p < i-1
   ·rw[if_pos (by omega)]
    exact hs _ _ (by omega) (by omega) (by omega)
   ·by_cases cp2:p=i-1
    ·rw[if_neg (by omega),if_pos (by omega)]
     have e:p-(i-(a+1))=a:=by omega
     rw[e]
     exact hr _ (by omega) hq
    ·rw[if_neg (by omega),if_neg (by omega)]
     exact hs _ _ (by omega) (by omega) (by omega)
theorem A57(hO:SWO lt){d d':Array α}{a i m:Nat}(hs:SortedIn lt a m d)(h1:a≤i)(h2:i≤m)(hl:∀ h,a≤h→h < i→lt d[m]! d[h]! = false)(hr:∀ h,i≤h→h < m→lt d[m]! d[h]! = true)
  (hd:∀ k,d'[k]! = d[G7 i m (m+1) k]!):SortedIn lt a (m+1) d':=by
 intro p q hp hpq hq
 rw[hd,hd]
 unfold G7
 by_cases cp:p < i
 ·rw[if_neg (show ¬(i≤p∧p < i+(m+1-m))by omega),if_neg (show ¬(i+(m+1-m)≤p∧p < m+1)by omega)]
  by_cases cq:q < i
  ·rw[if_neg (by omega),if_neg (by omega)];exact hs _ _ hp hpq (by omega)
  ·by_cases cq2:q=i
   ·rw[if_pos (by omega)]
    have e:q-i+m=m:=by omega
    rw[e];exact hl _ hp cp
   ·rw[if_neg (by omega),if_pos (by omega)];exact hs _ _ hp (by omega) (by omega)
 ·by_cases cp2:p=i
  ·rw[if_pos (show i≤p∧p < i+(m+1-m)by omega),if_neg (show ¬(i≤q∧q < i+(m+1-m))by omega),if_pos (show i+(m+1-m)≤q∧q < m+1 by omega)]
   have e:p-i+m=m:=by omega
   rw[e];exact hO.asymmA (hr _ (by omega) (by omega))
  ·rw[if_neg (show ¬(i≤p∧p < i+(m+1-m))by omega),if_pos (show i+(m+1-m)≤p∧p < m+1 by omega),if_neg (show ¬(i≤q∧q < i+(m+1-m))by omega),if_pos (show i+(m+1-m)≤q∧q < m+1 by omega)]
   exact hs _ _ (by omega) (by omega) (by omega)
structure Cut (lt:α→α→Bool) (a m b start:Nat) (d:Array α):Prop where
 lo:a≤start
 lo2:(a+b) / 2+m-start≤b
 hi:start≤m
 hi2:start≤(a+b) / 2
 below:∀ c,a≤c→(a+b) / 2+m≤b+c→c < start→lt d[(a+b) / 2+m-1-c]! d[c]! = false
 above:∀ c,start≤c→c < m→c <(a+b) / 2→lt d[(a+b) / 2+m-1-c]! d[c]! = true
theorem B2w(hO:SWO lt){d d':Array α}{a m b start:Nat}(h1:SortedIn lt a m d)(h2:SortedIn lt m b d)(ham:a < m)(hmb:m < b)(hc:Cut lt a m b start d)
  (hd:∀ k,d'[k]! = d[G7 start m ((a+b) / 2+m-start) k]!) :
  SortedIn lt a start d'∧SortedIn lt start ((a+b) / 2) d'∧SortedIn lt ((a+b) / 2) ((a+b) / 2+m-start) d'∧SortedIn lt ((a+b) / 2+m-start) b d' ∧
   ∀ p q,a≤p→p <(a+b) / 2→(a+b) / 2≤q→q < b→lt d'[q]! d'[p]! = false:=by
 obtain⟨c1,c2,c3,c4,c5,c6⟩:=hc
 have hmid:a≤(a+b) / 2∧(a+b) / 2≤b∧a+b≤2*((a+b) / 2)+1∧2*((a+b) / 2)≤a+b:=by omega
 generalize (a+b) / 2=mid at *
 -- where the four pieces come from
 have g1:∀ k,k < start→d'[k]! = d[k]!:=fun k hk=>by rw[hd];unfold G7;rw[if_neg (by omega),if_neg (by omega)]
 have g2:∀ k,start≤k→k < mid→d'[k]! = d[k-start+m]!:=fun k hk hk2=>by rw[hd];unfold G7;rw[if_pos (by omega)]
 have g3:∀ k,mid≤k→k < mid+m-start→d'[k]! = d[k-(mid-start)]!:=fun k hk hk2=>by
  rw[hd];unfold G7;rw[if_neg (by omega),if_pos (by omega)];congr 1;omega
 have g4:∀ k,mid+m-start≤k→d'[k]! = d[k]!:=fun k hk=>by rw[hd];unfold G7;rw[if_neg (by omega),if_neg (by omega)]
 refine⟨fun p q hp hpq hq=>?_,fun p q hp hpq hq=>?_,fun p q hp hpq hq=>?_,fun p q hp hpq hq=>?_,fun p q hp hpm hqm hq=>?_⟩
 ·rw[g1 q hq,g1 p (by omega)];exact h1 _ _ hp hpq (by omega)
 ·rw[g2 q (by omega) hq,g2 p hp (by omega)];exact h2 _ _ (by omega) (by omega) (by omega)
 ·rw[g3 q (by omega) hq,g3 p hp (by omega)];exact h1 _ _ (by omega) (by omega) (by omega)
 ·rw[g4 q (by omega),g4 p hp];exact h2 _ _ (by omega) hpq hq
 ·by_cases cp:p < start
  ·rw[g1 p cp]
   by_cases cq:q < mid+m-start
   ·rw[g3 q hqm cq]
    by_cases e:p < q-(mid-start)
    ·exact h1 _ _ hp e (by omega)
    ·omega
   ·rw[g4 q (by omega)]
    -- p <= start-1;d[n-start] not less than d[start-1];q from n-start on
    have k1:=c5 (start-1) (by omega) (by omega) (by omega)
    have e:mid+m-1-(start-1)=mid+m-start:=by omega
    rw[e]at k1
    have k2:lt d[q]! d[start-1]! = false:=by
     by_cases eq:q=mid+m-start
     ·rw[eq];exact k1
     ·exact hO.ntrans _ _ _ (h2 _ _ (by omega) (by omega) hq) k1
    by_cases ep:p=start-1
    ·rw[ep];exact k2
    ·exact hO.ntrans _ _ _ k2 (h1 _ _ hp (by omega) (by omega))
  ·rw[g2 p (by omega) hpm]
   by_cases cq:q < mid+m-start
   ·rw[g3 q hqm cq]
    -- d[p'] <= d[n-start-1] < d[start] <= d[q']
    have hsm:start < m:=by omega
    have k1:=c6 start (Nat.le_refl _) hsm (by omega)
    have e:mid+m-1-start=mid-1-start+m:=by omega
    rw[e]at k1
    have k2:lt d[mid-1-start+m]! d[q-(mid-start)]! = true∨lt d[q-(mid-start)]! d[mid-1-start+m]! = false:=by
     by_cases eq:q-(mid-start)=start
     ·rw[eq];exact .inl k1
     ·right
      exact hO.ntrans _ _ _ (h1 start _ c1 (by omega) (by omega)) (hO.asymmA k1)
    have k3:lt d[q-(mid-start)]! d[mid-1-start+m]! = false:=k2.elim hO.asymmA id
    by_cases ep:p-start+m=mid-1-start+m
    ·rw[ep];exact k3
    ·exact hO.ntrans _ _ _ k3 (h2 _ _ (by omega) (by omega) (by omega))
   ·rw[g4 q (by omega)]
    exact h2 _ _ (by omega) (by omega) hq
theorem A93{d:Array α}{a mid b:Nat}(h1:SortedIn lt a mid d)(h2:SortedIn lt mid b d)(h3:∀ p q,a≤p→p < mid→mid≤q→q < b→lt d[q]! d[p]! = false):SortedIn lt a b d:=by
 intro p q hp hpq hq
 by_cases c1:q < mid
 ·exact h1 p q hp hpq c1
 ·by_cases c2:p < mid
  ·exact h3 p q hp c2 (by omega) hq
  ·exact h2 p q (by omega) hpq hq
theorem K6{d d':Array α}{a b:Nat}(h:SortedIn lt a b d)(he:∀ i,a≤i→i < b→d'[i]! = d[i]!):SortedIn lt a b d':=fun p q hp hpq hq=>by
 rw[he p hp (by omega),he q (by omega) hq];exact h p q hp hpq hq
theorem B0j{d d':Array α}{a mid b:Nat}(ham:a≤mid)(hmb:mid≤b)(hb:b≤d.size)(h1:PermIn a mid d d')(h3:∀ p q,a≤p→p < mid→mid≤q→q < b→lt d[q]! d[p]! = false) :
  ∀ p q,a≤p→p < mid→mid≤q→q < b→lt d'[q]! d'[p]! = false:=fun p q hp hpm hmq hq=>by
 rw[h1.2.1 q (by omega)]
 exact permIn_all d d' a mid (fun x=>lt d[q]! x=false) (by omega) h1 (fun i hi him=>h3 i q hi him hmq hq) p hp hpm
theorem An8{d d':Array α}{a mid b:Nat}(ham:a≤mid)(hmb:mid≤b)(hb:b≤d.size)(h1:PermIn mid b d d')(h3:∀ p q,a≤p→p < mid→mid≤q→q < b→lt d[q]! d[p]! = false) :
  ∀ p q,a≤p→p < mid→mid≤q→q < b→lt d'[q]! d'[p]! = false:=fun p q hp hpm hmq hq=>by
 rw[h1.2.1 p (by omega)]
 exact permIn_all d d' mid b (fun x=>lt x d[p]! = false) hb h1 (fun i hi him=>h3 p i hp hpm hi him) q hmq hq
theorem J7{d d':Array α}{a b a' b':Nat}(h1:a'≤a)(h2:b≤b')(hb:b'≤d.size)(h:PermIn a b d d'):PermIn a' b' d d':=permIn_mono d d' a b a' b' h1 h2 hb h
end Go.E
namespace Go.E
open Go.Sort Go.RowKit
structure Box (p:Prop):Prop where
 out:p
def wDr(w:World)(q:Nat):World:={ w with drawn:=q }
section
variable {α : Type} [Inhabited α] {enc : α → List Value} {k : Nat} {w0 W W' : World} {blk off : Nat} {d d' : Array α}
def Fam(enc:α→List Value)(k blk off:Nat)(w0:World)(d:Array α)(W:World):Prop:=∃ q os,W=wDr (grow (putRowK enc k w0 blk off d) os) q
theorem An9(w:World)(q:Nat)(d:Array α):putRowK enc k (wDr w q) blk off d=wDr (putRowK enc k w blk off d) q:=rfl
theorem Au2(w:World)(q:Nat)(os:Array Obj):grow (wDr w q) os=wDr (grow w os) q:=rfl
theorem B2x(w:World)(q p:Nat):wDr (wDr w q) p=wDr w p:=rfl
theorem B7n(w:World):wDr w w.drawn=w:=rfl
theorem B0k(w:World)(q:Nat)(d:Array α)(h:HoldsK enc k w blk off d):HoldsK enc k (wDr w q) blk off d:=h
theorem Fam.start(h:HoldsK enc k w0 blk off d):Fam enc k blk off w0 d w0:=⟨w0.drawn,#[],by rw[putRowK_self enc k w0 blk off d h,grow_empty,B7n]⟩
theorem Fam.size(h:Fam enc k blk off w0 d W):w0.heap.size≤W.heap.size:=by
 obtain⟨q,os,rfl⟩:=h
 show w0.heap.size≤(grow (putRowK enc k w0 blk off d) os).heap.size
 rw[size_grow,size_putRowK];omega
theorem Fam.grown(h:Fam enc k blk off w0 d W)(q:Nat)(os:Array Obj):Fam enc k blk off w0 d (wDr (grow W os) q):=by
 obtain⟨p,os',rfl⟩:=h
 exact⟨q,os'++os,by rw[Au2,B2x,grow_grow]⟩
theorem Fam.alloc(h:Fam enc k blk off w0 d W)(o:Obj):Fam enc k blk off w0 d (W.alloc o):=by
 have:=h.grown W.drawn #[o]
 rw[← alloc_eq_grow]at this
 exact this
theorem Fam.trans(h:Fam enc k blk off w0 d W)(hb:blk < w0.heap.size)(h':Fam enc k blk off W d' W')(hs:d'.size=d.size):Fam enc k blk off w0 d' W':=by
 obtain⟨q,os,rfl⟩:=h
 obtain⟨q',os',rfl⟩:=h'
 refine⟨q',os++os',?_⟩
 have:=grow_step_growK (enc:=enc) (k:=k) w0 os os' 0 0 blk off d d' hb hs
 simp only [ahead_zero,Nat.add_zero]at this
 rw[An9,Au2,B2x,this]
theorem Fam.cell(h:Fam enc k blk off w0 d W){a:Addr}(ha:a.block < w0.heap.size)(hne:a.block≠blk):W.cell? a=w0.cell? a:=by
 obtain⟨q,os,rfl⟩:=h
 show(grow (putRowK enc k w0 blk off d) os).cell? a=_
 rw[cell?_grow _ _ _ (by rw[size_putRowK];exact ha),cell?_putRowK_other _ _ _ _ _ _ _ hne]
theorem Fam.holds{d0:Array α}(h:Fam enc k blk off w0 d W)(hb:blk < w0.heap.size)(h0:HoldsK enc k w0 blk off d0)(hs:d.size=d0.size):HoldsK enc k W blk off d:=by
 obtain⟨q,os,rfl⟩:=h
 exact B0k _ q d (holdsK_grow enc k _ os blk off d (by rw[size_putRowK];exact hb) (holdsK_putRowK enc k w0 blk off d0 d h0 hs))
theorem Fam.swap (h : Fam enc k blk off w0 d W) (hk : ∀ x, (enc x).length = k) (hb : blk < w0.heap.size) (i j:Nat) (hi : i < d.size) (hj : j < d.size) :
    Fam enc k blk off w0 (swp d i j) ((W.setCells blk (off + i * k) (enc d[j]!)).setCells blk (off + j * k) (enc d[i]!)) := by
  obtain⟨q,os,rfl⟩:=h
  refine⟨q,os,?_⟩
  have e : ∀ (w : World) (o:Nat) (vs : List Value), (wDr w q).setCells blk o vs = wDr (w.setCells blk o vs) q := by
    intro w o vs
    induction vs generalizing w o with
    | nil=>rfl
    | cons v vs ih => show ((wDr w q).setCell ⟨blk, o, none⟩ v).setCells blk (o + 1) vs = _
                      rw[show(wDr w q).setCell ⟨blk,o,none⟩ v=wDr (w.setCell ⟨blk,o,none⟩ v) q from rfl,ih];rfl
  rw[e,e,← putRowK_grow enc k w0 os blk off d hb,putRowK_swp enc k hk _ blk off d i j hi hj,putRowK_grow enc k w0 os blk off _ hb]
theorem Fam.below(h:Fam enc k blk off w0 d W)(hb:Below W.heap.size W W'):Fam enc k blk off w0 d W':=by
 have e:W'=wDr (grow W (W'.heap.extract W.heap.size W'.heap.size)) W'.drawn:=by
  have hh:W'.heap=W.heap++W'.heap.extract W.heap.size W'.heap.size:=by
   apply Array.ext'
   rw[Array.toList_append,Array.toList_extract]
   apply List.ext_getElem?
   intro i
   by_cases hi:i < W.heap.size
   ·rw[List.getElem?_append_left (by simpa using hi)]
    have:=hb.block i hi
    simpa using this
   ·rw[List.getElem?_append_right (by simpa using hi)]
    simp only [List.extract,Array.length_toList,List.getElem?_take,List.getElem?_drop]
    have hs:=hb.size
    have e2:W.heap.size+(i-W.heap.size)=i:=by omega
    rw[e2]
    split
    ·rfl
    ·rw[List.getElem?_eq_none (by simp;omega)]
  have h1:=hb.os
  have h2:=hb.tape
  have h3:=hb.output
  cases W' with
  | mk heap tape drawn os output =>
   simp only [wDr,grow]at *
   subst h1 h2 h3
   rw[← hh]
 rw[e]
 exact h.grown _ _
end
end Go.E
namespace Go.E
open Go.Sort Go.RowKit
section
variable {α : Type} [Inhabited α] {enc : α → List Value} {k : Nat} {w0 W W' : World} {blk off : Nat} {d d' : Array α}
theorem A7l(hk:∀ x,(enc x).length=k)(d:Array α):(flatK enc k d).toList=(d.toList.map enc).flatten:=by
 have hsz:∀ r∈d.toList.map enc,r.length=k:=by
  intro r hr
  obtain⟨x,_,rfl⟩:=List.mem_map.1 hr
  exact hk x
 apply List.ext_getElem?
 intro t
 by_cases ht:t < d.size*k
 ·have k0:0 < k:=by
   rcases Nat.eq_zero_or_pos k with h | h
   ·subst h;simp at ht
   ·exact h
  have hq:t % k < k:=Nat.mod_lt _ k0
  have hj:t / k < d.size:=(Nat.div_lt_iff_lt_mul k0).2 ht
  have hr:(d.toList.map enc)[t / k]?=some (enc d[t / k]):=by simp [hj]
  have:=F5 hsz hr hq
  rw[show t / k*k+t % k=t by rw[Nat.mul_comm];exact Nat.div_add_mod t k]at this
  rw[this,Array.getElem?_toList,getElem?_pos _ t (by simpa using ht)]
  have e:=get_flatK enc k d t ht
  rw[getElem!_pos _ t (by simpa using ht)]at e
  rw[e,getElem!_pos d _ hj,getElem?_pos _ (t % k) (by rw[hk];exact hq),getElem!_pos _ (t % k) (by rw[hk];exact hq)]
 ·rw[List.getElem?_eq_none (by simp;omega),List.getElem?_eq_none (by rw[C5 hsz];simp;omega)]
theorem Fam.facts(h:Fam enc k blk off w0 d W):W.os=w0.os∧W.tape=w0.tape∧W.output=w0.output∧∀ j,j < w0.heap.size→j≠blk→W.heap[j]?=w0.heap[j]?:=by
 obtain⟨q,os,rfl⟩:=h
 refine⟨rfl,rfl,rfl,fun j hj hne=>?_⟩
 show((w0.heap.modify blk _)++os)[j]?=_
 rw[Array.getElem?_append_left (by simpa using hj),Array.getElem?_modify,if_neg (Ne.symm hne)]
theorem Fam.block(h:Fam enc k blk off w0 d W){cur:Array Value}{e:TypeId}{fz:Nat×Nat}(hc:w0.heap[blk]?=some (.cells cur e fz)):∃ cur',cur'.size=cur.size∧W.heap[blk]?=some (.cells cur' e fz):=by
 obtain⟨q,os,rfl⟩:=h
 have hb:blk < w0.heap.size:=(Array.getElem?_eq_some_iff.1 hc).1
 refine⟨putCells id off (flatK enc k d) cur,by simp [putCells],?_⟩
 show((w0.heap.modify blk _)++os)[blk]?=_
 rw[Array.getElem?_append_left (by simpa using hb),Array.getElem?_modify,if_pos rfl,hc]
 rfl
theorem P5(hk:∀ x,(enc x).length=k){base ty n cap:Nat}{xs:List Value}(ho:w0.ownsRow base ty k (.slice (some ⟨blk,0,none⟩) n cap) n xs)(hn:n=d.size)(hx:xs=(d.toList.map enc).flatten):HoldsK enc k w0 blk 0 d:=by
 obtain⟨_,h⟩:=ho
 rcases h with⟨h,_⟩ | ⟨g,cap',cur,e1,hb,hh,h1,h2,h3,h4⟩
 ·cases h
 ·simp only [Value.slice.injEq,Option.some.injEq,Addr.mk.injEq]at e1
  obtain⟨⟨rfl,_,_⟩,_,rfl⟩:=e1
  intro j hj
  rw[← A7l hk]at hx
  rw[hx]at h4
  have hj':j < n*k:=by rw[hn];simpa using hj
  have e:cur[j]?=some (flatK enc k d)[j]!:=by
   have:=congrArg (fun l=>l[j]?) h4
   simp only [List.getElem?_take,hj',if_true,Array.getElem?_toList]at this
   rw[this,getElem?_pos _ j hj,getElem!_pos _ j hj]
  refine⟨?_,?_⟩
  ·simp [World.cell?,hh,e]
  ·simp [World.frozen?,hh]
theorem A94(hk:∀ x,(enc x).length=k){base ty n cap:Nat}{cur:Array Value}(hH:HoldsK enc k W blk 0 d)(hn:n=d.size)(hb:base≤blk)(hh:W.heap[blk]?=some (.cells cur ty (0,0)))(h1:n≤cap)(h2:cap≤maxLen)(h3:cur.size=cap*k) :
  W.ownsRow base ty k (.slice (some ⟨blk,0,none⟩) n cap) n (d.toList.map enc).flatten:=by
 rw[← A7l hk]
 refine⟨by simp [hn],.inr ⟨blk,cap,cur,rfl,hb,hh,h1,h2,h3,?_⟩⟩
 have hle:n*k≤cur.size:=by rw[h3];exact Nat.mul_le_mul_right _ h1
 apply List.ext_getElem?
 intro j
 by_cases hj:j < n*k
 ·have:=(hH j (by simpa [hn]using hj)).1
  simp only [World.cell?,Nat.zero_add,hh,Option.isSome_none,Bool.false_eq_true,if_false,id]at this
  rw[List.getElem?_take,if_pos hj,Array.getElem?_toList,this,Array.getElem?_toList,getElem?_pos _ j (by simpa [hn]using hj),getElem!_pos _ j (by simpa [hn]using hj)]
 ·rw[List.getElem?_eq_none (by simp;omega),List.getElem?_eq_none (by simp [← hn];omega)]
theorem Fam.owns(hk:∀ x,(enc x).length=k)(h:Fam enc k blk 0 w0 d' W)(hs:d'.size=d.size){base ty n cap:Nat}{xs:List Value}(hx:xs=(d.toList.map enc).flatten)(hn:n=d.size)(ho:w0.ownsRow base ty k (.slice (some ⟨blk,0,none⟩) n cap) n xs) :
  W.ownsRow base ty k (.slice (some ⟨blk,0,none⟩) n cap) n (d'.toList.map enc).flatten:=by
 have hH:=P5 hk ho hn hx
 obtain⟨_,h0⟩:=ho
 rcases h0 with⟨h0,_⟩ | ⟨g,cap',cur,e1,hb,hh,h1,h2,h3,h4⟩
 ·cases h0
 ·simp only [Value.slice.injEq,Option.some.injEq,Addr.mk.injEq]at e1
  obtain⟨⟨rfl,_,_⟩,_,rfl⟩:=e1
  have hlt:blk < w0.heap.size:=(Array.getElem?_eq_some_iff.1 hh).1
  obtain⟨cur',c1,c2⟩:=h.block hh
  exact A94 hk (h.holds hlt hH hs) (by rw[hn,hs]) hb c2 h1 h2 (by rw[c1,h3])
end
end Go.E
namespace Go.Proofs.YtokhjapfekbobaaGreat
open Go.E
set_option maxRecDepth 100000
set_option maxHeartbeats 4000000
open Go Go.Sort Go.RowKit Go.Lib Go.Shelf Go.Proofs
def Bh9:Go.Shelf.Ren:=⟨fun
 | 6=>211 | 14=>218 | 15=>126 | 20=>220 | 21=>221 | 22=>222
 | 23=>223 | 24=>224 | 25=>225 | 26=>226 | 27=>227 | 28=>166 | 29=>167
 | 46=>229 | 47=>206 | 48=>207 | 49=>230 | 50=>231 | 57=>232 | n=>n,
 fun | 0=>0 | 3=>3 | 4=>4 | 5=>5 | 9=>9 | 22=>139 | 24=>181 | 25=>240 | 39=>166 | 45=>217 | 46=>218 | 50=>210 | 53=>201 | 55=>203 | 66=>233 | 70=>230 | 76=>244 | 77=>171 | n=>n,
 fun n=>n⟩
theorem Bb6:Go.Proofs.SlLaysF0.n6 Tryz.prog Bh9:={
 mixed:=(by kernel_rfl),
 f6:=⟨Tryz.f211.name,by decide,Tryz.func211.trans (congrArg some (by kernel_rfl))⟩,
 f14:=⟨Tryz.f218.name,by decide,Tryz.func218.trans (congrArg some (by kernel_rfl))⟩,
 f15:=Tryz.func126.trans (congrArg some (by kernel_rfl)),
 f20:=⟨Tryz.f220.name,by decide,Tryz.func220.trans (congrArg some (by kernel_rfl))⟩,
 f21:=⟨Tryz.f221.name,by decide,Tryz.func221.trans (congrArg some (by kernel_rfl))⟩,
 f22:=⟨Tryz.f222.name,by decide,Tryz.func222.trans (congrArg some (by kernel_rfl))⟩,
 f23:=⟨Tryz.f223.name,by decide,Tryz.func223.trans (congrArg some (by kernel_rfl))⟩,
 f24:=⟨Tryz.f224.name,by decide,Tryz.func224.trans (congrArg some (by kernel_rfl))⟩,
 f25:=⟨Tryz.f225.name,by decide,Tryz.func225.trans (congrArg some (by kernel_rfl))⟩,
 f26:=⟨Tryz.f226.name,by decide,Tryz.func226.trans (congrArg some (by kernel_rfl))⟩,
 f27:=⟨Tryz.f227.name,by decide,Tryz.func227.trans (congrArg some (by kernel_rfl))⟩,
 f28:=Tryz.func166.trans (congrArg some (by kernel_rfl)),
 f29:=Tryz.func167.trans (congrArg some (by kernel_rfl)),
 f46:=⟨Tryz.f229.name,by decide,Tryz.func229.trans (congrArg some (by kernel_rfl))⟩,
 f47:=Tryz.func206.trans (congrArg some (by kernel_rfl)),
 f48:=Tryz.func207.trans (congrArg some (by kernel_rfl)),
 f49:=⟨Tryz.f230.name,by decide,Tryz.func230.trans (congrArg some (by kernel_rfl))⟩,
 f50:=⟨Tryz.f231.name,by decide,Tryz.func231.trans (congrArg some (by kernel_rfl))⟩,
 f57:=⟨Tryz.f232.name,by decide,Tryz.func232.trans (congrArg some (by kernel_rfl))⟩,
 t0:=Tryz.underlying0,a0:=Tryz.isAgg0,z0:=Tryz.sizeOf0,v0:=Tryz.zeroValue0,
 t3:=Tryz.underlying3,a3:=Tryz.isAgg3,z3:=Tryz.sizeOf3,v3:=Tryz.zeroValue3,
 t4:=Tryz.underlying4,a4:=Tryz.isAgg4,z4:=Tryz.sizeOf4,v4:=Tryz.zeroValue4,
 t5:=Tryz.underlying5,a5:=Tryz.isAgg5,z5:=Tryz.sizeOf5,v5:=Tryz.zeroValue5,
 t9:=Tryz.underlying9,a9:=Tryz.isAgg9,z9:=Tryz.sizeOf9,v9:=Tryz.zeroValue9,
 t22:=Tryz.underlying139,a22:=Tryz.isAgg139,z22:=Tryz.sizeOf139,v22:=Tryz.zeroValue139,
 t25:=Tryz.underlying240,a25:=Tryz.isAgg240,z25:=Tryz.sizeOf240,v25:=Tryz.zeroValue240,
 t39:=Tryz.underlying166,a39:=Tryz.isAgg166,z39:=Tryz.sizeOf166,v39:=Tryz.zeroValue166,
 t45:=Tryz.underlying217,a45:=Tryz.isAgg217,z45:=Tryz.sizeOf217,v45:=Tryz.zeroValue217,
 t46:=Tryz.underlying218,a46:=Tryz.isAgg218,z46:=Tryz.sizeOf218,v46:=Tryz.zeroValue218,
 t50:=Tryz.underlying210,a50:=Tryz.isAgg210,z50:=Tryz.sizeOf210,v50:=Tryz.zeroValue210,
 t53:=Tryz.underlying201,a53:=Tryz.isAgg201,z53:=Tryz.sizeOf201,v53:=Tryz.zeroValue201,
 t55:=Tryz.underlying203,a55:=Tryz.isAgg203,z55:=Tryz.sizeOf203,v55:=Tryz.zeroValue203,
 t66:=Tryz.underlying233,a66:=Tryz.isAgg233,z66:=Tryz.sizeOf233,v66:=Tryz.zeroValue233,
 t70:=Tryz.underlying230,a70:=Tryz.isAgg230,z70:=Tryz.sizeOf230,v70:=Tryz.zeroValue230,
 t76:=Tryz.underlying244,a76:=Tryz.isAgg244,z76:=Tryz.sizeOf244,v76:=Tryz.zeroValue244,
 t77:=Tryz.underlying171,a77:=Tryz.isAgg171,z77:=Tryz.sizeOf171,v77:=Tryz.zeroValue171 }
section
variable {α : Type} {encA : α → List AV}
def B1p(encA:α→List AV)(x:α):List Value:=(encA x).map valA
theorem Af5(d:List α):(d.map (B1p encA)).flatten=((d.map encA).flatten).map valA:=by
 induction d with
 | nil=>rfl
 | cons x d ih=>simp only [List.map_cons,List.flatten_cons,List.map_append,ih,B1p]
end
def okR(r:Run):Prop:=1≤r.lo∧r.lo≤1000000000
instance (r:Run):Decidable (okR r):=by unfold okR;infer_instance
def B2y:Type:={r:Run // okR r}
instance:Inhabited B2y:=⟨⟨⟨1,1⟩,by unfold okR;decide⟩⟩
def toB(r:Run):B2y:=if h:okR r then⟨r,h⟩else default
def Au3(r:B2y):List AV:=c181 r.1
def cfB(x y:B2y):Int:=x.1.lo-y.1.lo
theorem ltB(x y:B2y):ltOf cfB x y=decide (x.1.lo < y.1.lo):=by
 unfold ltOf cfB
 congr 1
 exact propext ⟨fun h=>by omega,fun h=>by omega⟩
theorem swoB:SWO (ltOf cfB):=by
 refine⟨fun x=>?_,fun x y z h1 h2=>?_,fun x y z h1 h2=>?_⟩ <;> simp only [ltB,decide_eq_true_eq,decide_eq_false_iff_not]at*<;> omega
def Bb7(l:List B2y):List B2y:=(pdq (ltOf cfB) l.toArray 0 l.toArray.size (Lib.bitLen l.toArray.size) true true).toList
def A11(l:List Run):List Run:=(Bb7 (l.map toB)).map (·.1)
theorem B2z{l:List Run}(h:∀ r∈l,okR r):(l.map toB).map (·.1)=l:=by
 rw[List.map_map]
 conv=>rhs;rw[← List.map_id l]
 refine List.map_congr_left fun r hr=>?_
 simp [toB,h r hr]
theorem Af6(l:List B2y):(Bb7 l).Perm l:=by
 have h:=(pdq_sorts (ltOf cfB) swoB l.toArray 0 l.toArray.size (Lib.bitLen l.toArray.size) true true (Nat.zero_le _) (Nat.le_refl _) (Or.inl rfl)).1
 obtain⟨hsz,_,hp⟩:=h
 unfold Bb7
 generalize pdq (ltOf cfB) l.toArray 0 l.toArray.size (Lib.bitLen l.toArray.size) true true=d at hsz hp ⊢
 have e1:d.extract 0 l.toArray.size=d:=by rw[← hsz];exact Array.extract_size
 rw[e1,Array.extract_size]at hp
 exact hp
theorem V6{l:List Run}(h:∀ r∈l,okR r):(A11 l).Perm l:=by
 have:=(Af6 (l.map toB)).map (·.1)
 rw[B2z h]at this
 exact this
theorem A7m(l:List Run):(A11 l).Pairwise fun x y=>x.lo≤y.lo:=by
 have h:=pdq_sorts (ltOf cfB) swoB (l.map toB).toArray 0 (l.map toB).toArray.size (Lib.bitLen (l.map toB).toArray.size) true true (Nat.zero_le _) (Nat.le_refl _) (Or.inl rfl)
 have hs:=h.1.1
 have h2:=h.2
 unfold A11 Bb7
 rw[List.pairwise_map,List.pairwise_iff_getElem]
 intro i j hi hj hij
 rw[Array.length_toList]at hi hj
 have:=h2 i j (Nat.zero_le _) hij (by omega)
 rw[ltB,decide_eq_false_iff_not,getElem!_pos _ j hj,getElem!_pos _ i hi]at this
 rw[Array.getElem_toList,Array.getElem_toList]
 omega
set_option maxHeartbeats 4000000 in
theorem cmpB (x y:B2y) (W:World):Calls Tryz.prog 212 #[.agg (B1p Au3 x).toArray,.agg (B1p Au3 y).toArray] W fun e w'=>e=.returned (.int .i64 (cfB x y))∧∃ q os,w'=grow (W.drewN q) os:=by
 have hx:=x.2
 have hy:=y.2
 unfold okR at hx hy
 have wr:IntKind.i64.wrap (x.1.lo-y.1.lo)=x.1.lo-y.1.lo:=by rw[IntKind.wrap_i64];omega
 unfold cfB B1p Au3 c181
 generalize x.1=p at hx wr ⊢
 generalize y.1=q at hy wr ⊢
 obtain⟨a,b⟩:=p
 obtain⟨c,d⟩:=q
 simp only [List.map_cons,List.map_nil,valA]at wr ⊢
 go_enter Tryz.func212,Tryz.ntmps212
 go_wp2
 go_ret
 exact⟨rfl,0,#[_,_],by rw[alloc_eq_grow,alloc_eq_grow,grow_grow];rfl⟩
theorem A95(x:B2y):(B1p Au3 x).length=2:=rfl
theorem B0l(x:B2y):∀ a∈Au3 x,R8 a=true:=by
 intro a ha
 simp only [Au3,c181,List.mem_cons,List.not_mem_nil,or_false]at ha
 rcases ha with rfl | rfl <;> rfl
theorem io211(l:List Run)(hok:∀ r∈l,okR r)(hlen:l.length < 4611686018427387904) :
  Z5 Tryz.prog 211 212 none false 181 2 (l.map c181) ((A11 l).map c181):=by
 have hpm:=V6 hok
 have hone:∀ x,∀ v∈B1p Au3 x,v.oneCell'=true:=by
  intro x v hv
  obtain⟨a,ha,rfl⟩:=List.mem_map.1 hv
  exact A03 (B0l x a ha)
 have hpl:∀ m:List Run,∀ a∈(m.map c181).flatten,R8 a=true:=by
  intro m a ha
  obtain⟨r,hr,har⟩:=List.mem_flatten.1 ha
  obtain⟨x,_,rfl⟩:=List.mem_map.1 hr
  simp only [c181,List.mem_cons,List.not_mem_nil,or_false]at har
  rcases har with rfl | rfl <;> rfl
 have hsz:∀ r∈l.map c181,r.length=2:=fun r hr=>by obtain⟨x,_,rfl⟩:=List.mem_map.1 hr;rfl
 have hB:(l.map toB).map Au3=l.map c181:=by
  conv=>rhs;rw[← B2z hok,List.map_map]
  rfl
 have hBp:(Bb7 (l.map toB)).map Au3=(A11 l).map c181:=by
  unfold A11
  rw[List.map_map]
  rfl
 refine⟨⟨_,Tryz.func211,by kernel_rfl,by kernel_rfl⟩,by rw[List.length_map,List.length_map,hpm.length_eq],fun r hr=>by obtain⟨x,_,rfl⟩:=List.mem_map.1 hr;rfl,fun w base v cv S xs hS hb ho hx1 hxr _=>?_⟩
 have hxs:xs=(l.map c181).flatten.map valA:=by
  apply List.ext_getElem?
  intro j
  by_cases hj:j < xs.length
  ·have hj':j <(l.map c181).flatten.length:=by rw[C5 hsz,← ho.1];exact hj
   rw[List.getElem?_eq_getElem hj,List.getElem?_map,List.getElem?_eq_getElem hj',Option.map_some]
   have:=hxr j _ _ (List.getElem?_eq_getElem hj') (List.getElem?_eq_getElem hj)
   rw[Ad9 (hpl _ _ (List.getElem_mem hj')) this]
  ·rw[List.getElem?_eq_none (by omega),List.getElem?_eq_none (by rw[List.length_map,C5 hsz,← ho.1];omega)]
 rw[hxs,List.length_map]at ho
 rw[List.length_map]
 simp only [Bool.false_eq_true,if_false,B1w]
 have hout:∀(w':World),∀(j:Nat) (a:AV) (u:Value),((A11 l).map c181).flatten[j]?=some a→(((A11 l).map c181).flatten.map valA)[j]?=some u→RelV0 S w' a u:=by
  intro w' j a u ha hu
  rw[List.getElem?_map,ha,Option.map_some,Option.some.injEq]at hu
  rw[← hu]
  exact A4w (hpl _ a (List.mem_of_getElem? ha))
 have hout1:∀ u∈((A11 l).map c181).flatten.map valA,u.oneCell'=true:=by
  intro u hu
  obtain⟨x,hx,rfl⟩:=List.mem_map.1 hu
  exact A03 (hpl _ x hx)
 rcases ho.2 with⟨rfl,h0⟩ | ⟨b,cap,cur,rfl,hb',hh,h1,h2,h3,h4⟩
 ·have:l=[]:=List.eq_nil_of_length_eq_zero h0
  subst this
  refine(AnyF.slices_SortFunc_none (P:=Tryz.prog) (ρ:=Bh9) Bb6 none 0 _ w).mono ?_
  rintro e' w' ⟨rfl,rfl⟩
  have e0:A11 []=[]:=List.eq_nil_of_length_eq_zero (by rw[hpm.length_eq];rfl)
  refine⟨rfl,[],⟨by simp,.inl ⟨rfl,rfl⟩⟩,fun u hu=>by simp at hu,fun j a u ha hu=>by simp at hu,fun j _ _=>rfl,rfl,rfl,rfl,Nat.le_refl _⟩
 ·have hbl:b < w.heap.size:=(Array.getElem?_eq_some_iff.1 hh).1
  have hflat:(l.map c181).flatten.map valA=((l.map toB).map (B1p Au3)).flatten:=by rw[← hB,← Af5]
  rw[hflat]at ho
  have hHd:HoldsK (B1p Au3) 2 w b 0 (l.map toB).toArray:=P5 A95 ho (by simp) (by simp)
  have hw:=AnyQ.slices_SortFunc_eq (P:=Tryz.prog) (ρ:=Bh9) Bb6 2 (fun _=>by kernel_rfl) (fun _=>by kernel_rfl) (B1p Au3) A95 hone cfB swoB 212 #[] b 0 cap (l.map toB).toArray w
   (enters_of Tryz.func212 (by kernel_rfl) rfl) (fun m os dk hs x y=>cmpB x y _) hHd hbl (by simpa using hlen)
  have hsize:(l.map toB).toArray.size=l.length:=by simp
  rw[hsize]at hw
  refine hw.mono ?_
  rintro e' w' ⟨rfl,n,os,hw'⟩
  have hF:Fam (B1p Au3) 2 b 0 w (Bb7 (l.map toB)).toArray w':=⟨w.drawn+n,os,by rw[hw'];unfold Bb7;rw[hsize];rfl⟩
  have f:=hF.facts
  have ow:=hF.owns (d:=(l.map toB).toArray) A95 (by simpa using(Af6 (l.map toB)).length_eq) (by simp) (by simp) ho
  refine⟨rfl,((A11 l).map c181).flatten.map valA,?_,hout1,hout w',fun j hj hjb=>f.2.2.2 j hj (fun e=>hjb (by rw[e];rfl)),f.1,f.2.1,f.2.2.1,hF.size⟩
  have e2:((A11 l).map c181).flatten.map valA=((Bb7 (l.map toB)).map (B1p Au3)).flatten:=by rw[← hBp,← Af5]
  rw[e2]
  simpa using ow
end Go.Proofs.YtokhjapfekbobaaGreat
namespace Go.Proofs.YtokhjapfekbobaaGreat
open Go.E
set_option maxRecDepth 100000
set_option maxHeartbeats 4000000
def A96(out:List Run):Run:=out[((out.length:Int)-1).toNat]!
def A44(out:List Run)(r:Run):List Run :=
 if 0 <(out.length:Int)∧r.lo≤(A96 out).hi+1 then out.set ((out.length:Int)-1).toNat ⟨(A96 out).lo,max (A96 out).hi r.hi⟩else out++[r]
theorem E2{α:Type}[Inhabited α]{l:List α}{i:Nat}(h:i < l.length):l[i]!∈l:=by
 rw[getElem!_pos l i h]
 exact List.getElem_mem h
def F3(r:Run):Run:=⟨max r.lo 1,min r.hi 1000000000⟩
def hiOk(out:List Run):Prop:=∀ x∈out,x.hi≤1000000000∧0≤x.hi
theorem con210(r:Run):Con Tryz.prog 210 [.agg (c181 r)] (.tup [.agg (c181 (F3 r)),.b (decide ((F3 r).lo≤(F3 r).hi))]) :=
 by
 refine sC A9 [.cell 2 181,.tmp 3] 18 Tryz.func210 ?_
 intro e0 cx
 refine sq<|rG cx [1,2] [1,2] z0<|sn<|sq<|rG cx [1,2] [1,2] (tT 2 (A4c:AV.i .i64 (if(1:Int) > r.lo then(1:Int)else r.lo)=AV.i .i64 (max r.lo (1:Int))) (tT 5 (A4d:AV.i .i64 (if(1000000000:Int) < r.hi then(1000000000:Int)else r.hi)=AV.i .i64 (min r.hi (1000000000:Int))) z0))<|sn<|sq<|rA cx [2,3] [2] (tB 5 (max r.lo 1≤min r.hi (1000000000:Int)) z0)<|sn<|rT<|qR (.tup [.agg [.i .i64 (max r.lo (1:Int)),.i .i64 (min r.hi (1000000000:Int))],.b (decide (max r.lo 1≤min r.hi (1000000000:Int)))]) (B9.tup (ZLe.cons (B9.eq (show AV.agg [AV.i .i64 (max r.lo (1:Int)),AV.i .i64 (min r.hi (1000000000:Int))]=AV.agg [AV.i .i64 (F3 r).lo,AV.i .i64 (F3 r).hi]from ?g1)) (ZLe.cons (B9.eq (show AV.b (decide (max r.lo 1≤min r.hi (1000000000:Int)))=AV.b (decide ((F3 r).lo≤(F3 r).hi))from ?g0)) ZLe.nil)));rotate_left 2
 case g0=>exact rfl
 case g1=>exact rfl
theorem con213(out:List Run)(r:Run)(hh:hiOk out)(hb:(out.length+1)*16≤140737488351232):Bs9 Tryz.prog 213 181 2 (out.map c181) [.agg (c181 r)] ((A44 out r).map c181) :=
 by
 have hlast:0 <(out.length:Int)→out[((out.length:Int)-1).toNat]!.hi≤1000000000∧0≤out[((out.length:Int)-1).toNat]!.hi:=fun h=>hh _ (E2 (by omega))
 refine B2m A9 (by kernel_rfl) (.tmp 4) 41 Tryz.func213 (by kernel_rfl) (by kernel_rfl) (by(with_reducible refine O4 (fun _=>?_) _);kernel_rfl) (by(with_reducible refine O4 (fun _=>?_) _);kernel_rfl) ?_
 intro e0 cx
 refine sq<|rG cx [0,3] [0,3] z0<|sn<|sq<|sq<|rG cx [0,3,5] [0,3] (tL 1 c181 out z0)<|sn<|sq<|B3 (σ':=⟨[(0,.own 0 0),(3,.ptr (3) (0) (0) (0)),(5,.i .i64 ((↑out.length:Int))),(21,.b (decide ((0:Int) <(↑out.length:Int)∧r.lo≤out[((↑out.length:Int)-1).toNat]!.hi+1)))],[(0,⟨0,181,.row 2 (List.map c181 out)⟩),(3,⟨0,181,.var [.i .i64 (r.lo),.i .i64 (r.hi)]⟩)]⟩) ?_ ?_
 refine A4 ((0:Int) <(↑out.length:Int)) (fun h1=>?_) (fun h1=>?_)
 refine rA cx [0,3,5,21] [0,3] (tT 1 (A3 h1) (tW 7 ((↑out.length:Int)-1) (fO (0≤(↑out.length:Int)-1) (fP (((↑out.length:Int)-1).toNat <(List.map c181 out).length) (by(first | omega | (simp only [List.length_map];omega))) (fR 2 (fP (E.rowAt { ver:=0,ty:=181,k:=BK.row (2) (List.map c181 out):Blk } ((↑out.length:Int)-1).toNat (c181 out[((↑out.length:Int)-1).toNat]!)) (by exact F7 (by omega)) (tT 11 (B7 (by have:=hlast h1;omega) (by have:=hlast h1;omega):AV.i .i64 (IntKind.i64.wrap (out[((↑out.length:Int)-1).toNat]!.hi+1))=AV.i .i64 (out[((↑out.length:Int)-1).toNat]!.hi+1)) (tB 12 (r.lo≤out[((↑out.length:Int)-1).toNat]!.hi+1) (tD 13 (decide (r.lo≤out[((↑out.length:Int)-1).toNat]!.hi+1)) ((0:Int) <(↑out.length:Int)∧r.lo≤out[((↑out.length:Int)-1).toNat]!.hi+1) (by simp only [eq_true h1,tsl]) (oR 10 (c181 out[((↑out.length:Int)-1).toNat]!) z0)))))))))) ?_
 exact⟨rfl,by kernel_rfl⟩
 refine rA cx [0,3,5,21] [0,3] (tT 1 (A0 h1) (tD 13 false ((0:Int) <(↑out.length:Int)∧r.lo≤out[((↑out.length:Int)-1).toNat]!.hi+1) (by simp only [eq_false h1,tsl]) z0)) ?_
 exact⟨rfl,by kernel_rfl⟩
 refine sn<|dC ((0:Int) <(↑out.length:Int)∧r.lo≤out[((↑out.length:Int)-1).toNat]!.hi+1) (fun h2=>?_) fun h2=>?_
 refine sq<|rA cx [0] [0] (tW 2 ((↑out.length:Int)-1) (tW 5 ((↑out.length:Int)-1) (fO (0≤(↑out.length:Int)-1) (fP (((↑out.length:Int)-1).toNat <(List.map c181 out).length) (by(first | omega | (simp only [List.length_map];omega))) (fR 2 (fP (E.rowAt { ver:=0,ty:=181,k:=BK.row (2) (List.map c181 out):Blk } ((↑out.length:Int)-1).toNat (c181 out[((↑out.length:Int)-1).toNat]!)) (by exact F7 (by omega)) (tT 11 (A4c:AV.i .i64 (if r.hi > out[((↑out.length:Int)-1).toNat]!.hi then r.hi else out[((↑out.length:Int)-1).toNat]!.hi)=AV.i .i64 (max out[((↑out.length:Int)-1).toNat]!.hi r.hi)) (fO (0≤(↑out.length:Int)-1) (fP (((↑out.length:Int)-1).toNat <(List.map c181 out).length) (by(first | omega | (simp only [List.length_map];omega))) (fR 2 (fG c181 out (((↑out.length:Int)-1).toNat) (fR 1 (fP (1+(1:Nat)≤2) (by(first | omega | (simp only [List.length_map];omega))) (fP ((List.map c181 out).set ((↑out.length:Int)-1).toNat (List.take (1) (c181 out[((↑out.length:Int)-1).toNat]!)++E0 (AV.i .i64 (max out[((↑out.length:Int)-1).toNat]!.hi r.hi))++List.drop (1+(1:Nat)) (c181 out[((↑out.length:Int)-1).toNat]!))=List.map c181 (out.set ((↑out.length:Int)-1).toNat { lo:=out[((↑out.length:Int)-1).toNat]!.lo,hi:=max out[((↑out.length:Int)-1).toNat]!.hi r.hi:Run })) (by(with_reducible refine A3d ?_;kernel_rfl)) (oR 8 (c181 out[((↑out.length:Int)-1).toNat]!) (oV 14 { row:=(c181 out[((↑out.length:Int)-1).toNat]!),rows:=some (List.map c181 (out.set ((↑out.length:Int)-1).toNat { lo:=out[((↑out.length:Int)-1).toNat]!.lo,hi:=max out[((↑out.length:Int)-1).toNat]!.hi r.hi:Run })) } z0)))))))))))))))) ?_
 refine sn<|sq<|rG cx [4] [0] z0<|sn<|rT<|nR<|A3s (rows':=(List.map c181 (out.set ((↑out.length:Int)-1).toNat { lo:=out[((↑out.length:Int)-1).toNat]!.lo,hi:=max out[((↑out.length:Int)-1).toNat]!.hi r.hi:Run }))) .ret (.inr rfl) 4 0 0 (by kernel_rfl) (by kernel_rfl) (by kernel_rfl) (by unfold A44 A96;rw[if_pos h2])
 refine sK<|sn<|sq<|rG cx [4] [0] (fR 181 (fR 2 (fR 2 (fX c181 [r] 2 (fS c181 out c181 [r] (fP (((List.map c181 out).length+(List.map c181 [r]).length)*(16:Nat)≤(140737488355328:Nat)) (by(simp only [Go.maxLen,List.length_map,List.length_append,List.length_cons,List.length_nil];omega)) (fM c181 out [r] (oV 3 { rows:=some (List.map c181 (out++[r])) } z0))))))))<|sn<|rT<|A3s (rows':=(List.map c181 (out++[r]))) .ret (.inr rfl) 4 0 0 (by kernel_rfl) (by kernel_rfl) (by kernel_rfl) (by unfold A44 A96;rw[if_neg h2])
end Go.Proofs.YtokhjapfekbobaaGreat
namespace Go.Proofs.YtokhjapfekbobaaGreat
open Go.E
set_option maxRecDepth 100000
set_option maxHeartbeats 4000000
def Bb8(l:List Run):List AV:=[.sl (l.map c181)]
def L5(l:List Run):List Run:=(l.map F3).filter (fun r=>decide (r.lo≤r.hi))
def B0m(l:List Run):List Run:=l.foldl A44 []
def unR(ss:List (List Run)):List Run:=B0m (A11 (L5 ss.flatten))
def A3u(ss:List (List Run))(i:Int)(all:List Run):Prop:=all=L5 (ss.take i.toNat).flatten
def O5(ss:List (List Run))(i j:Int)(all:List Run):Prop:=all=L5 ((ss.take i.toNat).flatten++(ss[i.toNat]!).take j.toNat)
def A7n(l:List Run)(i:Int)(out:List Run):Prop:=out=B0m (l.take i.toNat)
def Ao0(ss:List (List Run))(i:Int)(all:List Run):Prop:=0≤i∧i≤ss.length∧A3u ss i all
def Bi0(ss:List (List Run))(i:Int)(all:List Run):Nat:=(ss.length-i).toNat
def A97(ss:List (List Run))(i:Int)(j:Int)(all:List Run):Prop:=0≤j∧j≤(ss[i.toNat]!).length∧O5 ss i j all
def Bi1(ss:List (List Run))(i:Int)(j:Int)(all:List Run):Nat:=((ss[i.toNat]!).length-j).toNat
def Ao1(s:List Run)(i:Int)(l out:List Run):Prop:=l=s∧0≤i∧i≤l.length∧(out.length:Int)≤i∧hiOk out∧A7n l i out
def Bi2(s:List Run)(i:Int)(l out:List Run):Nat:=(s.length-i).toNat
theorem A58(a b:List Run):L5 (a++b)=L5 a++L5 b:=by simp [L5]
theorem A08(l:List Run):(L5 l).length≤l.length:=by
 unfold L5
 exact Nat.le_trans (List.length_filter_le _ _) (by simp)
def A27(r:Run):Prop:=okR r∧r.lo≤r.hi∧r.hi≤1000000000
theorem I8{l:List Run}:∀ r∈L5 l,A27 r:=by
 intro r hr
 unfold L5 at hr
 obtain⟨h1,h2⟩:=List.mem_filter.1 hr
 obtain⟨x,_,rfl⟩:=List.mem_map.1 h1
 simp only [decide_eq_true_eq]at h2
 unfold A27 okR
 simp only [F3]at *
 omega
theorem B7o{α:Type}(ss:List (List α))(i:Nat):(ss.take i).flatten.length≤ss.flatten.length:=by
 have h:(ss.take i).flatten++(ss.drop i).flatten=ss.flatten:=by rw[← List.flatten_append,List.take_append_drop]
 rw[← h,List.length_append]
 omega
theorem A7o{α:Type}{ss:List (List α)}{i:Int}(h0:0≤i)(h:i < ss.length):(ss.take (i+1).toNat).flatten=(ss.take i.toNat).flatten++ss[i.toNat]!:=by
 rw[← E1 h0 h,List.flatten_append]
 simp
theorem B30{α:Type}{ss:List (List α)}{i:Int}(j:Nat)(h0:0≤i)(h:i < ss.length):((ss.take i.toNat).flatten++(ss[i.toNat]!).take j).length≤ss.flatten.length:=by
 have h1:=B7o ss (i+1).toNat
 rw[A7o h0 h,List.length_append]at h1
 rw[List.length_append,List.length_take]
 omega
theorem B31{ss:List (List Run)}{i j:Int}{all:List Run}(h0:0≤i)(h:i < ss.length)(hk:O5 ss i j all):all.length≤((ss.take i.toNat).flatten++(ss[i.toNat]!).take j.toNat).length:=by
 unfold O5 at hk
 rw[hk]
 exact A08 _
theorem A28(r:Run):L5 [r]=if(F3 r).lo≤(F3 r).hi then[F3 r]else[]:=by
 unfold L5
 by_cases h:(F3 r).lo≤(F3 r).hi <;> simp [List.filter_cons,h]
theorem A7p{ss:List (List Run)}{i j:Int}{all:List Run}(j0:0≤j)(jl:j <(ss[i.toNat]!).length)(hk:O5 ss i j all) :
  O5 ss i (j+1) (if(F3 (ss[i.toNat]!)[j.toNat]!).lo≤(F3 (ss[i.toNat]!)[j.toNat]!).hi then all++[F3 (ss[i.toNat]!)[j.toNat]!]else all):=by
 unfold O5 at *
 rw[← E1 j0 jl,← List.append_assoc,A58,← hk]
 by_cases h:(F3 (ss[i.toNat]!)[j.toNat]!).lo≤(F3 (ss[i.toNat]!)[j.toNat]!).hi
 ·rw[if_pos h,A28,if_pos h]
 ·rw[if_neg h,A28,if_neg h,List.append_nil]
theorem A0m{ss:List (List Run)}{i j:Int}{all:List Run}(hb:ss.flatten.length*16≤140737488351232)(h0:0≤i)(h:i < ss.length)(j0:0≤j)(jl:j <(ss[i.toNat]!).length)(hk:O5 ss i j all):(all.length+1)*16≤140737488351232∧j+1≤9223372036854775807:=by
 have h1:=B31 h0 h hk
 have h2:=B30 (j+1).toNat h0 h
 have h3:=B30 (ss[i.toNat]!).length h0 h
 rw[List.length_append,List.length_take]at h1 h2 h3
 omega
theorem B0n{ss:List (List Run)}{i:Int}{all:List Run}(hk:A3u ss i all):O5 ss i 0 all:=by
 unfold A3u O5 at *
 simpa using hk
theorem B32{ss:List (List Run)}{i j:Int}{all:List Run}(h0:0≤i)(h:i < ss.length)(jl:¬ j <(ss[i.toNat]!).length)(hk:O5 ss i j all):A3u ss (i+1) all:=by
 unfold A3u O5 at *
 rw[A7o h0 h,hk,List.take_of_length_le (l:=ss[i.toNat]!) (by omega)]
theorem X6{ss:List (List Run)}{i:Int}{all:List Run}(h:¬ i < ss.length)(hk:A3u ss i all):all=L5 ss.flatten:=by
 unfold A3u at hk
 rw[hk,List.take_of_length_le (by omega)]
theorem Au4(out:List Run)(r:Run):(A44 out r).length≤out.length+1:=by
 unfold A44
 split <;> simp
theorem Bi3{out:List Run}{r:Run}(h:hiOk out)(h1:r.hi≤1000000000∧0≤r.hi):hiOk (A44 out r):=by
 unfold A44
 split
 ·rename_i hc
  intro x hx
  rcases List.mem_or_eq_of_mem_set hx with hx | rfl
  ·exact h x hx
  ·have:=h _ (E2 (l:=out) (i:=((out.length:Int)-1).toNat) (by omega))
   unfold A96
   simp only
   omega
 ·intro x hx
  rcases List.mem_append.1 hx with hx | hx
  ·exact h x hx
  ·have:x=r:=by simpa using hx
   subst this
   exact h1
theorem B33{l out:List Run}{i:Int}(h0:0≤i)(h:i < l.length)(hf:A7n l i out):A7n l (i+1) (A44 out l[i.toNat]!):=by
 unfold A7n B0m at *
 rw[← E1 h0 h,List.foldl_append,← hf]
 rfl
theorem A1i{l:List Run}(hl:∀ r∈l,A27 r):∀ r∈A11 l,A27 r:=fun r hr=>hl r ((V6 fun r hr=>(hl r hr).1).subset hr)
theorem con191(ss:List (List Run))(hb:ss.flatten.length*16≤140737488351232):A48 Tryz.prog 191 [.sl (ss.map Bb8)] 181 (.row 2 ((unR ss).map c181)) :=
 by
 refine A24 0 (Bb8) (ss) (by kernel_rfl) Tryz.func191 (by kernel_rfl) fun hl_0=>A8y A9 (by kernel_rfl) (.tmp 2) 50 Tryz.func191 (by kernel_rfl) (by kernel_rfl) ?_
 intro e0 cx
 refine sq<|rG cx [0] [] z0<|sn<|sq<|rG cx [0,3] [] z0<|sn<|sq<|sq<|rG cx [3,13,14,15] [] (tL 1 Bb8 ss z0)<|sn<|bL 0<|G0 3 1003 181 2 (σ':=⟨[(3,.own 1003 0),(13,.sl (List.map Bb8 ss)),(14,.i .i64 ((↑ss.length:Int))),(15,.i .i64 ((0:Int)))],[(1003,⟨0,181,.row 2 (List.map c181 [])⟩)]⟩) (by kernel_rfl)<|sL (X:=Int×List Run) (fun x=>⟨[(3,.own 1003 0),(13,.sl (List.map Bb8 ss)),(14,.i .i64 ((↑ss.length:Int))),(15,.i .i64 (x.1))],[(1003,⟨0,181,.row 2 (List.map c181 x.2)⟩)]⟩) (fun x ↦ Bi0 ss x.1 x.2) (fun x ↦ Ao0 ss x.1 x.2) [3,13,14,15] [1003] (((0:Int),[])) (show Ao0 ss (0:Int) []from(by exact⟨by omega,by omega,rfl⟩)) ?_
 rintro⟨i0,a1⟩ h_2
 obtain⟨hh3,h4,hh5⟩:0≤i0∧i0≤(↑ss.length:Int)∧A3u ss i0 a1:=h_2
 refine rE cx [3,13,14,15,16] [1003] (zB 0 (i0 <(↑ss.length:Int))) (fun h6=>?_) fun h6=>?_
 refine sK<|sn<|sq<|bL 1<|sq<|rG cx [3,13,14,15,5] [1003] (fA (0≤i0) (fG Bb8 ss i0.toNat (fR 1 (oR 0 (Bb8 ss[i0.toNat]!) z0))))<|sn<|sq<|rG cx [3,13,14,15,19,20,21] [1003] (tL 1 c181 ss[i0.toNat]! z0)<|sn<|bL 2<|sL (X:=Int×List Run) (fun x=>⟨[(3,.own 1003 0),(13,.sl (List.map Bb8 ss)),(14,.i .i64 ((↑ss.length:Int))),(15,.i .i64 (i0)),(19,.sl (List.map c181 ss[i0.toNat]!)),(20,.i .i64 ((↑ss[i0.toNat]!.length:Int))),(21,.i .i64 (x.1))],[(1003,⟨0,181,.row 2 (List.map c181 x.2)⟩)]⟩) (fun x ↦ Bi1 ss i0 x.1 x.2) (fun x ↦ A97 ss i0 x.1 x.2) [3,13,14,15,19,20,21] [1003] (((0:Int),a1)) (show A97 ss i0 (0:Int) a1 from(by exact⟨by omega,by omega,B0n hh5⟩)) ?_
 rintro⟨j7,a8⟩ h_9
 obtain⟨h10,h11,h12⟩:0≤j7∧j7≤(↑ss[i0.toNat]!.length:Int)∧O5 ss i0 j7 a8:=h_9
 refine rE cx [3,13,14,15,19,20,21,22] [1003] (zB 0 (j7 <(↑ss[i0.toNat]!.length:Int))) (fun h13=>?_) fun h13=>?_
 refine sK<|sn<|sq<|bL 3<|sq<|rG cx [3,13,14,15,19,20,21,7] [1003,7] (fA (0≤j7) (fG c181 ss[i0.toNat]! j7.toNat (fR 2 (fN 2 2 (oR 0 (c181 ss[i0.toNat]![j7.toNat]!) z0)))))<|sn<|sq<|rG cx [3,13,14,15,19,20,21,8,9] [1003,8] (fT (con210 (ss[i0.toNat]![j7.toNat]!)) (oA 1 (.tup [.agg [.i .i64 ((F3 ss[i0.toNat]![j7.toNat]!).lo),.i .i64 ((F3 ss[i0.toNat]![j7.toNat]!).hi)],.b (decide ((F3 ss[i0.toNat]![j7.toNat]!).lo≤(F3 ss[i0.toNat]![j7.toNat]!).hi))]) z0))<|sn<|sq<|rG cx [3,13,14,15,19,20,21,8,30] [1003,8] z0<|sn<|dC ((F3 ss[i0.toNat]![j7.toNat]!).lo≤(F3 ss[i0.toNat]![j7.toNat]!).hi) (fun h14=>?_) fun h14=>?_
 refine rG cx [3,13,14,15,19,20,21] [1003] (fR 181 (fR 2 (fR 2 (fX c181 [F3 ss[i0.toNat]![j7.toNat]!] 2 (fP ((List.map c181 a8).length+(List.map c181 [F3 ss[i0.toNat]![j7.toNat]!]).length≤maxLen) (by have:=A0m hb hh3 h6 h10 h13 h12;simp only [List.length_map,List.length_cons,List.length_nil,Go.maxLen];omega) (fP (((List.map c181 a8).length+(List.map c181 [F3 ss[i0.toNat]![j7.toNat]!]).length)*(16:Nat)≤(140737488355328:Nat)) (by have:=A0m hb hh3 h6 h10 h13 h12;simp only [List.length_map,List.length_cons,List.length_nil];omega) (fM c181 a8 [F3 ss[i0.toNat]![j7.toNat]!] (oV 3 { rows:=some (List.map c181 (a8++[F3 ss[i0.toNat]![j7.toNat]!])) } z0)))))))) ?_
 refine bN<|sn<|rG cx [3,13,14,15,19,20,21] [1003] (tT 0 (B7 (by omega) (by exact(A0m hb hh3 h6 h10 h13 h12).2):AV.i .i64 (IntKind.i64.wrap (j7+1))=AV.i .i64 (j7+1)) z0) ?_
 refine sn<|nX ((j7+1,a8++[F3 ss[i0.toNat]![j7.toNat]!])) (show((↑ss[i0.toNat]!.length:Int)-(j7+1)).toNat <((↑ss[i0.toNat]!.length:Int)-j7).toNat from(by omega)) (show A97 ss i0 (j7+1) (a8++[F3 ss[i0.toNat]![j7.toNat]!])from(by have:=A7p h10 h13 h12;rw[if_pos h14]at this;exact⟨by omega,by omega,this⟩))
 refine sK<|bN<|sn<|rG cx [3,13,14,15,19,20,21] [1003] (tT 0 (B7 (by omega) (by exact(A0m hb hh3 h6 h10 h13 h12).2):AV.i .i64 (IntKind.i64.wrap (j7+1))=AV.i .i64 (j7+1)) z0) ?_
 refine sn<|nX ((j7+1,a8)) (show((↑ss[i0.toNat]!.length:Int)-(j7+1)).toNat <((↑ss[i0.toNat]!.length:Int)-j7).toNat from(by omega)) (show A97 ss i0 (j7+1) a8 from(by have:=A7p h10 h13 h12;rw[if_neg h14]at this;exact⟨by omega,by omega,this⟩))
 refine eX 2<|nE<|nE<|bH<|bN<|sn<|rG cx [3,13,14,15] [1003] (tW 0 (i0+1) z0)<|sn<|nX ((i0+1,a8)) (show((↑ss.length:Int)-(i0+1)).toNat <((↑ss.length:Int)-i0).toNat from(by omega)) (show Ao0 ss (i0+1) a8 from(by exact⟨by omega,by omega,B32 hh3 h6 h13 h12⟩))
 refine eX 0<|nE<|nE<|bH<|sn<|sq<|rG cx [3] [1003] (fP (Z5 Tryz.prog (211:FuncId) (212:FuncId) none false (181:Nat) (2:Nat) (List.map c181 a1) (List.map c181 (A11 a1))) (io211 (a1) ?g9 (by rw[X6 h6 hh5];have:=A08 ss.flatten;omega)) (oV 1 { rows:=some (List.map c181 (A11 a1)) } z0)) ?_;rotate_left
 refine sn<|sq<|rG cx [3,10] [1003] z0<|sn<|sq<|sq<|rG cx [10,39,40,41] [1003] (tL 1 c181 (A11 a1) z0)<|sn<|bL 4<|G0 10 1010 181 2 (σ':=⟨[(10,.own 1010 0),(39,.own 1003 0),(40,.i .i64 ((↑(A11 a1).length:Int))),(41,.i .i64 ((0:Int)))],[(1003,⟨0,181,.row 2 (List.map c181 (A11 a1))⟩),(1010,⟨0,181,.row 2 (List.map c181 [])⟩)]⟩) (by kernel_rfl)<|sL (X:=Int×List Run×List Run) (fun x=>⟨[(10,.own 1010 0),(39,.own 1003 0),(40,.i .i64 ((↑(A11 a1).length:Int))),(41,.i .i64 (x.1))],[(1003,⟨0,181,.row 2 (List.map c181 x.2.1)⟩),(1010,⟨0,181,.row 2 (List.map c181 x.2.2)⟩)]⟩) (fun x ↦ Bi2 (A11 a1) x.1 x.2.1 x.2.2) (fun x ↦ Ao1 (A11 a1) x.1 x.2.1 x.2.2) [10,39,40,41] [1003,1010] (((0:Int),A11 a1,[])) (show Ao1 (A11 a1) (0:Int) (A11 a1) []from(by exact⟨rfl,by omega,by omega,by simp,fun x hx=>by simp at hx,rfl⟩)) ?_
 rintro⟨i15,l16,o17⟩ h_18
 obtain⟨h19,h20,h21,h22,h23,h24⟩:l16=A11 a1∧0≤i15∧i15≤(↑l16.length:Int)∧(↑o17.length:Int)≤i15∧hiOk o17∧A7n l16 i15 o17:=h_18
 refine rE cx [10,39,40,41,42] [1003,1010] (zB 0 (i15 <(↑(A11 a1).length:Int))) (fun h25=>?_) fun h25=>?_
 refine sK<|sn<|sq<|bL 5<|sq<|rG cx [10,39,40,41,12] [1003,1010,12] (fA (0≤i15) (fP (i15.toNat <(List.map c181 l16).length) (by subst h19;simp only [List.length_map];omega) (fR 2 (fP (E.rowAt { ver:=0,ty:=181,k:=BK.row (2) (List.map c181 l16):Blk } i15.toNat (c181 l16[i15.toNat]!)) (by subst h19;exact F7 (by omega)) (fP (0+(2:Nat)≤(c181 l16[i15.toNat]!).length) (by exact Nat.le_of_ble_eq_true rfl) (oR 1 (c181 l16[i15.toNat]!) z0)))))) ?_
 refine sn<|rG cx [10,39,40,41] [1003,1010] (fT (con213 (o17) (l16[i15.toNat]!) (by(with_reducible assumption)) ?g15) (oV 2 { val:=some (.vw (0) (0) (0) (0)),rows:=some (List.map c181 (A44 o17 l16[i15.toNat]!)) } z0)) ?_;rotate_left
 refine bN<|sn<|rG cx [10,39,40,41] [1003,1010] (tT 0 (B7 (by omega) ?g16:AV.i .i64 (IntKind.i64.wrap (i15+1))=AV.i .i64 (i15+1)) z0) ?_;rotate_left
 refine sn<|nX ((i15+1,l16,A44 o17 l16[i15.toNat]!)) (show((↑(A11 a1).length:Int)-(i15+1)).toNat <((↑(A11 a1).length:Int)-i15).toNat from(by omega)) (show Ao1 (A11 a1) (i15+1) l16 (A44 o17 l16[i15.toNat]!)from ?g17);rotate_left
 refine eX 4<|nE<|nE<|bH<|sn<|sq<|rG cx [2] [1010] z0<|sn<|rT<|A3s (rows':=(List.map c181 o17)) .ret (.inr rfl) 2 1010 0 (by kernel_rfl) (by kernel_rfl) (by kernel_rfl) ?g18;rotate_left
 case g9=>revert i0 a1 hh3 h4 hh5 h6;intro i a h0 h1 h2 h3 r hr;rw[X6 h3 h2]at hr;exact(I8 r hr).1
 case g15 =>
  subst h19
  have e:=X6 h6 hh5
  have hg:∀ r∈a1,okR r:=fun r hr=>by rw[e]at hr;exact(I8 r hr).1
  have:=(V6 hg).length_eq
  have h5:=A08 ss.flatten
  rw[← e]at h5
  omega
 case g16 =>
  subst h19
  have e:=X6 h6 hh5
  have hg:∀ r∈a1,okR r:=fun r hr=>by rw[e]at hr;exact(I8 r hr).1
  have:=(V6 hg).length_eq
  have h5:=A08 ss.flatten
  rw[← e]at h5
  omega
 case g17 =>
  revert i0 a1 hh3 h4 hh5 h6 i15 l16 o17 h19 h20 h21 h22 h23 h24 h25
  intro i a h0 h1 h2 h3 j l o k0 k1 k2 k3 k4 k5 k6
  subst k0
  have e:=X6 h3 h2
  have hg:∀ r∈a,A27 r:=fun r hr=>by rw[e]at hr;exact I8 r hr
  have hr:=A1i hg _ (E2 (l:=A11 a) (i:=j.toNat) (by omega))
  have hlo:=Au4 o (A11 a)[j.toNat]!
  unfold A27 okR at hr
  exact⟨rfl,by omega,by omega,by omega,Bi3 k4 (by omega),B33 k1 k6 k5⟩
 case g18 =>
  subst h19
  unfold A7n at h24
  rw[h24,X6 h6 hh5,List.take_of_length_le (by rw[← X6 h6 hh5];omega)]
  rfl
end Go.Proofs.YtokhjapfekbobaaGreat
