/- EN: from a law's contract to its row: 'for every input it answers true, and the input reads as it did'. Conditions: none named, none written. Wx: what is handed in, by its types. Conditions: none. Wy: what is handed in, by its types (acts, facts). Conditions: none. Qj: facts of the program that every row asks for, each by itself. Conditions: none. -/
import Derived.Below
import Derived.OwnWalk
import Derived.WalkKit
import Derived.KernelRfl
import Derived.Laws.MakeOwn
import Derived.Laws.OwnMore
import Derived.Laws.Slices
import Derived.Laws.CopyOwn
import Derived.Laws.AppendOwnNone
import Derived.Laws.Rows
import Derived.Orders
import Derived.DataReads
import Derived.ChangeOld
import Derived.DataElems
import Derived.SizedLaws
import Derived.ProofKit
import Derived.JoinedCond
import Derived.Deep.CondSized
import Derived.Test.YtaiepnaokhpmcaaGreatProg
import Derived.ChangeKeysEq
import Derived.Test.YtaiepnaokhpmcaaGreatRows
import Derived.Sort.LotA
import Derived.Shelf.SlSortFuncK.RowK2
import Derived.Shelf.SlSortCmp.NoneTotal
import Derived.Lib.Walk
import Derived.Shelf.SlLaysE0
import Derived.Shelf.RegionOpenPlain
import Derived.Deep.LoopGhost
import Derived.Lib.SliceRun
import Derived.Lib.Bytealg
import Derived.Test.YtaiepnaokhpmcaaGreatZy5
set_option linter.unusedVariables false
set_option linter.unusedSimpArgs false
namespace Go.E
open Go.RowKit Go.ChangeShapes Go.WideShapes Go.ChangeAt
def TyA (T:Tab) (L n t:Nat) (av:AV):Prop :=
 match look T t with
 | some ti=>if ti.isAgg then ∃ cs,av=.agg cs∧TyC T L n t cs else TyC T L n t [av]
 | none=>False
def TyAll (T:Tab) (L n:Nat):List Nat→List AV→Prop
 | [],[]=>True
 | t :: ts,a :: aL=>TyA T L n t a∧TyAll T L n ts aL
 | _,_=>False
section
variable {P : Program} {T : Tab} {H : Type} {enc : TypeId × Value → H} {W : World} {spare : Nat → Bool} {held : Bool}
theorem plain_not_cell (hT:TabOk P T) {n t:Nat} {ti:TI} (hti:look T t=some ti) (hp:plainT T n t=true) (hg:ti.isAgg=false) {r:Reach} {base:Nat} {v:Value} (hv:Value.okWide P W r base t v):v.oneCell'=true∨∃ x,v=x∧v.cells=#[v]:=by
 have hu:=(hT t ti hti).1
 unfold Value.okWide at hv
 rw [hu] at hv
 cases n with
 | zero=>simp [plainT] at hp
 | succ n =>
  unfold plainT at hp
  rw [hti] at hp
  simp only at hp
  unfold TI.isAgg at hg
  cases hd:ti.desc with
  | bool=>rw [hd] at hv;simp only [Cell.okWide,hu,hd,Cell.ok] at hv;cases v <;> simp_all [Value.oneCell',Value.cells]
  | int k=>rw [hd] at hv;simp only [Cell.okWide,hu,hd,Cell.ok] at hv;cases v <;> simp_all [Value.oneCell',Value.cells]
  | string=>rw [hd] at hv;simp only [Cell.okWide,hu,hd,Cell.ok] at hv;cases v <;> simp_all [Value.oneCell',Value.cells]
  | slice e=>rw [hd] at hv;simp only [Cell.okWide,hu,hd,Cell.ok] at hv;cases v <;> simp_all [Value.oneCell',Value.cells]
  | struct fs=>rw [hd] at hg;simp at hg
  | array k e=>rw [hd] at hg;simp at hg
  | _=>rw [hd] at hp;first | exact absurd hp Bool.false_ne_true | cases hp
theorem open_arg (hT:TabOk P T) {n t:Nat} (hp:plainT T n t=true) {r:Reach} {base:Nat} {v:Value} {d:DataW H} {ps:List MemPlace} (hv:Value.okWide P W r base t v)
  (hd:DataW.Trod enc P W 0 spare held t v d ps) (hw:∀ m∈d.weights P t,m≤reachBytes) {L:Nat} (hL:bulkD d≤L):∃ av,RelV0 (fun k=>k < W.heap.size) W av v∧TyA T L n t av:=by
 obtain ⟨ti,hti⟩:=plain_look hp
 obtain ⟨fuel,hf⟩:=hd
 obtain ⟨avs,hc,hty⟩:=opens hT n t hp fuel _ _ _ hf hw L hL
 by_cases hg:ti.isAgg=true
 ·have hu:=(hT t ti hti).1
  have hv':=hv
  unfold Value.okWide at hv'
  rw [hu] at hv'
  have:∃ cs,v=.agg cs:=by
   unfold TI.isAgg at hg
   split at hg
   ·rename_i fs hd;rw [hd] at hv';obtain ⟨cs,h,_⟩:=hv';exact ⟨cs,h⟩
   ·rename_i k e hd;rw [hd] at hv';obtain ⟨cs,h,_⟩:=hv';exact ⟨cs,h⟩
   ·cases hg
  obtain ⟨cs,rfl⟩:=this
  refine ⟨.agg avs,?_,by unfold TyA;rw [hti];simp only [hg,if_true];exact ⟨avs,rfl,hty⟩⟩
  have:=RelV0.agg (S:=fun k=>k < W.heap.size) (w:=W) avs cs.toList (by rw [hc.1];simp [Value.cells]) (fun u hu=>hc.2.1 u (by simpa [Value.cells] using hu)) (fun j a u ha hu=>hc.2.2 j a u ha (by simpa [Value.cells] using hu))
  simpa using this
 ·have hg':ti.isAgg=false:=by simpa using hg
  have h1:v.cells.toList=[v]:=by
   rcases plain_not_cell hT hti hp hg' hv with h | ⟨_,_,h⟩
   ·cases v <;> simp_all [Value.oneCell',Value.cells]
   ·rw [h]
  rw [h1] at hc
  obtain ⟨c1,_,c3⟩:=hc
  match avs,c1,c3,hty with
  | [a],_,c3,hty=>exact ⟨a,c3 0 a v rfl rfl,by unfold TyA;rw [hti];simp only [hg',Bool.false_eq_true,if_false];exact hty⟩
theorem open_args (hT:TabOk P T) {L n:Nat} {r:Reach} {base:Nat}:∀ (ts:List Nat) (vs:List Value) (ds:List (DataW H)) (ps:List MemPlace),(∀ t∈ts,plainT T n t=true) →
  (∀ (j:Nat) t v,ts[j]?=some t→vs[j]?=some v→Value.okWide P W r base t v)→DataW.TrodAll enc P W 0 spare held ts vs ds ps→(∀ m∈DataW.weightsEach P ts ds,m≤reachBytes)→bulkDs ds≤L →
  ∃ avs:List AV,avs.length=vs.length∧(∀ (j:Nat) (a:AV) (u:Value),avs[j]?=some a→vs[j]?=some u→RelV0 (fun k=>k < W.heap.size) W a u)∧TyAll T L n ts avs∧ds.length=ts.length
 | [],[],[],ps,_,_,_,_,_=>⟨[],rfl,fun j a u ha=>by simp at ha,trivial,rfl⟩
 | t :: ts,v :: vs,d :: ds,ps,hp,hv,hA,hw,hL=>by
  simp only [bulkDs] at hL
  obtain ⟨p,q,h1,h2,_⟩:=hA
  obtain ⟨a,e1,e2⟩:=open_arg hT (hp t (by simp)) (hv 0 t v rfl rfl) h1 (fun m hm=>hw m (by simp only [DataW.weightsEach,List.mem_append];exact .inl hm)) (L:=L) (by omega)
  obtain ⟨aL,f1,f2,f3,f4⟩:=open_args (L:=L) hT ts vs ds q (fun t ht=>hp t (List.mem_cons_of_mem _ ht)) (fun j t v ht hv'=>hv (j+1) t v (by simpa using ht) (by simpa using hv')) h2 (fun m hm=>hw m (by simp only [DataW.weightsEach,List.mem_append];exact .inr hm)) (by omega)
  refine ⟨a :: aL,by simp [f1],fun j b u hb hu=>?_,⟨e2,f3⟩,by simp [f4]⟩
  cases j with
  | zero=>simp at hb hu;subst hb hu;exact e1
  | succ j=>exact f2 j b u (by simpa using hb) (by simpa using hu)
 | [],_ :: _,_,_,_,_,hA,_,_=>hA.elim
 | [],[],_ :: _,_,_,_,hA,_,_=>hA.elim
 | _ :: _,[],_,_,_,_,hA,_,_=>hA.elim
 | _ :: _,_ :: _,[],_,_,_,hA,_,_=>hA.elim
theorem trodAll_stays (hl:laidOutB P=true) {W':World} (hb:Below W.heap.size W W'):∀ (ts:List Nat) (vs:List Value) (ds:List (DataW H)) (ps:List MemPlace),(∀ t∈ts,P.readableRec t=true∧t < P.types.size) →
  (∀ x∈ps,x.block < W.heap.size)→DataW.TrodAll enc P W 0 (fun _=>true) true ts vs ds ps→DataW.TrodAll enc P W' 0 (fun b=>decide (b < W.heap.size)) true ts vs ds ps
 | [],[],[],ps,_,_,h=>h
 | t :: ts,v :: vs,d :: ds,ps,hr,hlt,h=>by
  obtain ⟨p,q,h1,h2,rfl⟩:=h
  exact ⟨p,q,Below.trod hl (hr t (by simp)).1 (hr t (by simp)).2 h1 hb (fun x hx=>hlt x (List.mem_append_left _ hx)),
   trodAll_stays hl hb ts vs ds q (fun t ht=>hr t (List.mem_cons_of_mem _ ht)) (fun x hx=>hlt x (List.mem_append_right _ hx)) h2,rfl⟩
 | [],_ :: _,_,_,_,_,hA=>hA.elim
 | [],[],_ :: _,_,_,_,hA=>hA.elim
 | _ :: _,[],_,_,_,_,hA=>hA.elim
 | _ :: _,_ :: _,[],_,_,_,hA=>hA.elim
end
theorem law_core {T:Tab} {C:Checked} {f:FuncId} {fn:Func} {s:ChangeSpec} {H:Type} {enc:TypeId×Value→H} (ts:List Nat) (tb L n:Nat)
  (hT:TabOk C.prog T) (hl:laidOutB C.prog=true)
  (hts:fn.params=ts.toArray) (htb:fn.resultTypes=#[tb]) (hub:C.prog.underlying tb=some .bool) (hpl:ts.all (fun t=>plainT T n t && C.prog.readableRec t && Nat.blt t C.prog.types.size)=true)
  (hvars:s.vars=[]) (hspec:∀ ds:List (DataW H),ds.length=ts.length→s.fn H (ds++[])={ results:=[.lit (.bool true)],args:=ds })
  (hcon:∀ avs,TyAll T L n ts avs→Con C.prog f avs (.b true)) {W:World} {base:Nat} {args:Array Value} {ds gs:List (DataW H)} {before:List MemPlace} {us:List Nat}
  (hval:∀ (j:Nat) t v,fn.params[j]?=some t→args[j]?=some v→Value.okWide C.prog W .any base t v) (hW:DataW.Whole enc C.prog fn.params.toList s.vars false W args.toList ds gs before)
  (hsz:(DataW.weightsEach C.prog (fn.params.toList++us) (ds++gs)).all (·≤reachBytes)=true) (hbk:bulkDs (ds++gs)≤L) :
  Calls C.prog f args W fun e W'=>∃ v,e=.returned v∧s.post enc C.prog fn false true false false W args v W':=by
 have hW':=hW
 obtain ⟨p,q,hA,hV,rfl,_,_⟩:=hW
 rw [hvars] at hV
 obtain ⟨rfl,rfl⟩:=trodVars_none hV
 rw [List.append_nil] at hW' hbk
 have hpars:fn.params.toList=ts:=by rw [hts]
 have hA':DataW.TrodAll enc C.prog W 0 (fun _=>true) true ts args.toList ds p:=by rw [← hpars];exact hA
 have hpl':∀ t∈ts,plainT T n t=true∧C.prog.readableRec t=true∧t < C.prog.types.size:=by
  intro t ht
  have:=List.all_eq_true.1 hpl t ht
  simp only [Bool.and_eq_true] at this
  exact ⟨this.1.1,this.1.2,by simpa using this.2⟩
 have hw:∀ m∈DataW.weightsEach C.prog ts ds,m≤reachBytes:=by
  intro m hm
  have hsz':=hsz
  rw [List.append_nil,hpars] at hsz'
  have hsub:∀ (ts us:List Nat) (ds:List (DataW H)),∀ m∈DataW.weightsEach C.prog ts ds,m∈DataW.weightsEach C.prog (ts++us) ds:=by
   intro ts us ds
   induction ts generalizing ds with
   | nil=>intro m hm;cases ds <;> simp [DataW.weightsEach] at hm
   | cons t ts ih =>
    intro m hm
    cases ds with
    | nil=>simp [DataW.weightsEach] at hm
    | cons d ds =>
     simp only [DataW.weightsEach,List.cons_append,List.mem_append] at hm ⊢
     rcases hm with hm | hm
     ·exact .inl hm
     ·exact .inr (ih ds m hm)
  have:=List.all_eq_true.1 hsz' m (hsub ts _ ds m hm)
  simpa using this
 obtain ⟨avs,h1,h2,h3,h4⟩:=open_args hT ts args.toList ds p (fun t ht=>(hpl' t ht).1) (fun j t v ht hv=>hval j t v (by rw [hts];simpa using ht) (by simpa using hv)) hA' hw hbk
 have hlt:∀ x∈p,x.block < W.heap.size:=fun x hx=>hW'.lt x hx
 have hsp:=hspec ds h4
 have:=(hcon avs h3).2 W (fun k=>k < W.heap.size) args.toList (fun _ h=>h) (by rw [h1]) h2
 rw [Array.toArray_toList] at this
 refine this.mono fun e W' ⟨v,he,hr,hb⟩=>?_
 cases hr with
 | b =>
  refine ⟨_,he,ds,[],p,[],p,[],hW',?_,?_,?_,hb.frame _,fun h=>by cases h⟩
  ·rw [hsp,htb]
   exact trodAll_mk1 (shut_bool hub true)
  ·rw [hsp,hpars]
   exact trodAll_stays hl hb ts args.toList ds p (fun t ht=>(hpl' t ht).2) hlt hA'
  ·rw [hsp,hvars]
   rfl
theorem law_lifted {T:Tab} {C:Checked} {os:Os} {f:FuncId} {fn:Func} {s:ChangeSpec} {conds:List PathCond} {H:Type} {enc:TypeId×Value→H} (ts:List Nat) (tb n:Nat)
  (hT:TabOk C.prog T) (hl:laidOutB C.prog=true) (own:ownKnob C.prog.godebug=none) (started:os.Started) (noInit:C.prog.inits.idxOf? f=none) (hfn:C.prog.funcs[f]?=some fn)
  (hts:fn.params=ts.toArray) (htb:fn.resultTypes=#[tb]) (hub:C.prog.underlying tb=some .bool) (hpl:ts.all (fun t=>plainT T n t && C.prog.readableRec t && Nat.blt t C.prog.types.size)=true)
  (hvars:s.vars=[]) (hspec:∀ ds:List (DataW H),ds.length=ts.length→s.fn H (ds++[])={ results:=[.lit (.bool true)],args:=ds })
  (witness:∃ (w:World) (tape:Tape) (i:Input),w.os=os∧(w.forCall tape i).Shaped C.prog∧i.vars=[]∧Input.okWide C.prog (w.forCall tape i) .any w.heap.size f i ∧
   s.pre6 enc C.prog fn conds false (w.forCall tape i).memory i.args∧({}:Assume).holds C.prog (lone (Frame.enter C.prog f i.args .normal) [] (w.forCall tape i)))
  (hcon:∀ L avs,TyAll T L n ts avs→Con C.prog f avs (.b true)) :
  ReturnsInHanded {} C os f .any (s.pre6 enc C.prog fn conds false) (s.post enc C.prog fn false true false false):=by
 refine returnsInHanded_of_change_sized own started noInit hfn witness ?_
 intro W base args ds gs before hval hW _ hsz _
 exact law_core ts tb (bulkDs (ds++gs)) n hT hl hts htb hub hpl hvars hspec (hcon _) hval hW hsz (Nat.le_refl _)
theorem rows_typed {α:Type} {g:α→List AV} {Q:α→Prop} {C:List AV→Prop} (h:∀ r,C r→∃ x,r=g x∧Q x):∀ (rows:List (List AV)),(∀ r∈rows,C r)→∃ xs:List α,rows=xs.map g∧∀ x∈xs,Q x
 | [],_=>⟨[],rfl,fun x hx=>by simp at hx⟩
 | r :: rows,hr=>by
  obtain ⟨x,h1,h2⟩:=h r (hr r (by simp))
  obtain ⟨xs,h3,h4⟩:=rows_typed h rows fun q hq=>hr q (List.mem_cons_of_mem _ hq)
  refine ⟨x :: xs,by rw [h1,h3];rfl,fun y hy=>?_⟩
  rcases List.mem_cons.1 hy with rfl | hy
  ·exact h2
  ·exact h4 y hy
end Go.E
namespace Go.Proofs.YtaiepnaokhpmcaaGreat
open Go.E
set_option maxRecDepth 100000
set_option maxHeartbeats 4000000
open Go.ChangeShapes Go.WideShapes Go.ChangeAt Go.RowKit Go
theorem Tryz.own:Go.ownKnob Tryz.prog.godebug=none:=by kernel_rfl
theorem Tryz.laidOut:laidOutB Tryz.prog=true:=by kernel_rfl
def inr (n:Int):Prop:=-9223372036854775808≤n∧n≤9223372036854775807
theorem ty3 {L n:Nat} {cs:List AV} (h:TyC tab L (n+1) 3 cs):∃ x,cs=c3 x∧inr x:=by
 obtain ⟨x,rfl,h1,h2⟩:=h
 exact ⟨x,rfl,h1,h2⟩
theorem ty43 {L n:Nat} {cs:List AV} (h:TyC tab L (n+2) 43 cs):∃ d:Dot,cs=c43 d∧inr d.rep∧inr d.num:=by
 obtain ⟨a,b,rfl,ha,c,d,rfl,hc,rfl⟩:=h
 obtain ⟨x,rfl,hx⟩:=ty3 ha
 obtain ⟨y,rfl,hy⟩:=ty3 hc
 exact ⟨⟨x,y⟩,rfl,hx,hy⟩
theorem one_eq {a b:AV} (h:[a]=[b]):a=b:=by simpa using h
theorem ty9 {L n:Nat} {cs:List AV} (h:TyC tab L (n+1) 9 cs):∃ s:ByteArray,cs=[.s s]∧s.size≤140737488351232:=by
 obtain ⟨s,rfl,_,h2,_⟩:=h
 exact ⟨s,rfl,h2⟩
theorem ty104 {L n:Nat} {cs:List AV} (h:TyC tab L (n+2) 104 cs):∃ d:Span,cs=c104 d∧inr d.rep∧inr d.lo∧inr d.hi:=by
 obtain ⟨a,b,rfl,ha,c,d,rfl,hc,e,f,rfl,he,rfl⟩:=h
 obtain ⟨x,rfl,hx⟩:=ty3 ha
 obtain ⟨y,rfl,hy⟩:=ty3 hc
 obtain ⟨z,rfl,hz⟩:=ty3 he
 exact ⟨⟨x,y,z⟩,rfl,hx,hy,hz⟩
def inE (e:Entry):Prop:=inr e.dot.rep∧inr e.dot.num∧e.sku.size≤140737488351232∧inr e.qty
theorem ty45 {L n:Nat} {cs:List AV} (h:TyC tab L (n+3) 45 cs):∃ e:Entry,cs=c45 e∧inE e:=by
 obtain ⟨a,b,rfl,ha,c,d,rfl,hc,e,f,rfl,he,rfl⟩:=h
 obtain ⟨x,rfl,hx⟩:=ty43 ha
 obtain ⟨y,rfl,hy⟩:=ty9 hc
 obtain ⟨z,rfl,hz⟩:=ty3 he
 exact ⟨⟨x,y,z⟩,rfl,hx.1,hx.2,hy,hz⟩
theorem ty22 {L n:Nat} {cs:List AV} (h:TyC tab L (n+4) 22 cs):∃ xs:List Entry,cs=[.sl (xs.map c45)]∧((∀ x∈xs,inE x)∧xs.length*40≤140737488351232)∧xs.length≤L:=by
 obtain ⟨rows,rfl,h1,h2,hL,h3⟩:=h
 obtain ⟨xs,rfl,hx⟩:=rows_typed (fun r hr=>ty45 hr) rows h3
 exact ⟨xs,rfl,⟨hx,by rw [List.length_map] at h2;exact h2⟩,by rw [List.length_map] at hL;exact hL⟩
theorem ta22 {L:Nat} {a:AV} (h:TyA tab L 9 22 a):∃ xs:List Entry,a=.sl (xs.map c45)∧((∀ x∈xs,inE x)∧xs.length*40≤140737488351232)∧xs.length≤L:=by
 obtain ⟨x,hx,k⟩:=ty22 (L:=L) (n:=5) (cs:=[a]) h
 exact ⟨x,one_eq hx,k⟩
mutual
theorem bulk_eq {H : Type} : ∀ d : DataW H, Rows.uptoBulk d = bulkD d
  | .lit l => by cases l <;> simp [Rows.uptoBulk, bulkD]
  | .nil => by simp [Rows.uptoBulk, bulkD]
  | .ptr d => by simp only [Rows.uptoBulk, bulkD, bulk_eq d]
  | .slice elems spare => by simp only [Rows.uptoBulk, bulkD, bulks_eq elems, bulks_eq spare]
  | .agg parts => by simp only [Rows.uptoBulk, bulkD, bulks_eq parts]
  | .iface _ d => by simp only [Rows.uptoBulk, bulkD, bulk_eq d]
  | .map entries => by simp only [Rows.uptoBulk, bulkD, bulkm_eq entries]
  | .held _ => by simp [Rows.uptoBulk, bulkD]
theorem bulks_eq {H : Type} : ∀ l : List (DataW H), Rows.uptoBulkAll l = bulkDs l
  | [] => by simp [Rows.uptoBulkAll, bulkDs]
  | d :: r => by simp only [Rows.uptoBulkAll, bulkDs, bulk_eq d, bulks_eq r]
theorem bulkm_eq {H : Type} : ∀ l : List (Lit × DataW H), Rows.uptoBulkEntries l = bulkDm l
  | [] => by simp [Rows.uptoBulkEntries, bulkDm]
  | x :: r => by simp only [Rows.uptoBulkEntries, bulkDm, bulke_eq x, bulkm_eq r]
theorem bulke_eq {H : Type} : ∀ x : Lit × DataW H, Rows.uptoBulkEntry x = bulkDe x
  | (l, d) => by cases l <;> simp only [Rows.uptoBulkEntry, bulkDe, bulk_eq d]
end
end Go.Proofs.YtaiepnaokhpmcaaGreat
namespace Go.Proofs.YtaiepnaokhpmcaaGreat
open Go.E
set_option maxRecDepth 100000
set_option maxHeartbeats 4000000
def inPL (L:Nat) (p:Past):Prop:=szP p∧p.cloud.length≤L∧p.vec.length≤L
theorem ly23 {L n:Nat} {cs:List AV} (h:TyC tab L (n+2) 23 cs):∃ xs:List Int,cs=c23 xs∧xs.length*8≤140737488351232∧xs.length≤L:=by
 obtain ⟨rows,rfl,h1,h2,hL,h3⟩:=h
 obtain ⟨xs,rfl,hx⟩:=rows_typed (fun r hr=>ty3 hr) rows h3
 exact ⟨xs,rfl,by rw [List.length_map] at h2;exact h2,by rw [List.length_map] at hL;exact hL⟩
theorem ly24 {L n:Nat} {cs:List AV} (h:TyC tab L (n+3) 24 cs):∃ xs:List Span,cs=[.sl (xs.map c104)]∧xs.length*24≤140737488351232∧xs.length≤L:=by
 obtain ⟨rows,rfl,h1,h2,hL,h3⟩:=h
 obtain ⟨xs,rfl,hx⟩:=rows_typed (fun r hr=>ty104 hr) rows h3
 exact ⟨xs,rfl,by rw [List.length_map] at h2;exact h2,by rw [List.length_map] at hL;exact hL⟩
theorem ly26 {L n:Nat} {cs:List AV} (h:TyC tab L (n+4) 26 cs):∃ p:Past,cs=c26 p∧inPL L p:=by
 obtain ⟨a,b,rfl,ha,c,d,rfl,hc,rfl⟩:=h
 obtain ⟨x,rfl,hx⟩:=ly23 (L:=L) (n:=n+1) ha
 obtain ⟨y,rfl,hy⟩:=ly24 hc
 exact ⟨⟨x,y⟩,rfl,⟨by simp only;omega,by simp only;omega⟩,hy.2,hx.2⟩
theorem ly81 {L n:Nat} {cs:List AV} (h:TyC tab L (n+5) 81 cs):∃ r:Record,cs=c81 r∧inPL L r.past:=by
 obtain ⟨a,b,rfl,ha,c,d,rfl,hc,rfl⟩:=h
 obtain ⟨x,rfl,hx⟩:=ty9 (L:=L) (n:=n+3) ha
 obtain ⟨y,rfl,hy⟩:=ly26 hc
 exact ⟨⟨x,y⟩,rfl,hy⟩
def inRL (L:Nat) (rs:List Record):Prop:=(∀ r∈rs,inPL L r.past)∧rs.length*64≤140737488351232∧rs.length≤L
theorem ly27 {L n:Nat} {cs:List AV} (h:TyC tab L (n+6) 27 cs):∃ rs:List Record,cs=[.sl (rs.map c81)]∧inRL L rs:=by
 obtain ⟨rows,rfl,h1,h2,hL,h3⟩:=h
 obtain ⟨xs,rfl,hx⟩:=rows_typed (fun r hr=>ly81 hr) rows h3
 exact ⟨xs,rfl,hx,by rw [List.length_map] at h2;exact h2,by rw [List.length_map] at hL;exact hL⟩
def inFL (L:Nat) (f:Facts):Prop:=(f.adds.length*40≤140737488351232∧f.adds.length≤L)∧inPL L f.gone∧inRL L f.recs
theorem ly29 {L n:Nat} {cs:List AV} (h:TyC tab L (n+7) 29 cs):∃ f:Facts,cs=c29 f∧inFL L f:=by
 obtain ⟨a,b,rfl,ha,c,d,rfl,hc,e,g,rfl,he,rfl⟩:=h
 obtain ⟨x,rfl,hx⟩:=ty22 (L:=L) (n:=n+2) ha
 obtain ⟨y,rfl,hy⟩:=ly26 (L:=L) (n:=n+2) hc
 obtain ⟨z,rfl,hz⟩:=ly27 he
 exact ⟨⟨x,y,z⟩,rfl,⟨hx.1.2,hx.2⟩,hy,hz⟩
theorem ta29 {L:Nat} {a:AV} (h:TyA tab L 9 29 a):∃ f:Facts,a=.agg (c29 f)∧inFL L f:=by
 obtain ⟨cs,rfl,h2⟩:=(show ∃ cs,a=.agg cs∧TyC tab L 9 29 cs from h)
 obtain ⟨d,rfl,k⟩:=ly29 (L:=L) (n:=2) h2
 exact ⟨d,rfl,k⟩
theorem inF_sz {L:Nat} {f:Facts} (h:inFL L f):szF f:=⟨h.2.1.1,fun r hr=>(h.2.2.1 r hr).1⟩
end Go.Proofs.YtaiepnaokhpmcaaGreat
namespace Go.Proofs.YtaiepnaokhpmcaaGreat
open Go.E
set_option maxRecDepth 100000
set_option maxHeartbeats 4000000
theorem Tryz.rowedM:Go.mapsRowed Tryz.prog=true:=by kernel_rfl
theorem Tryz.stopsH:Tryz.prog.stopsHeard=true:=by kernel_rfl
theorem Tryz.mayE:Tryz.prog.mayEnter=true:=by kernel_rfl
end Go.Proofs.YtaiepnaokhpmcaaGreat
