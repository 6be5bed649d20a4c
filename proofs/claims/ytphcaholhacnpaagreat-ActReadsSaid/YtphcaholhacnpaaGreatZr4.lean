/- Lt: sort.Slice at lines: a row of one's own is put into the order of the SKUs. Conditions: sizes. Lu: lines in plain words: sums of entries, SKU by SKU. Conditions: none. Lc: walks, written by a program of this claim's own, and what each function hands back. Conditions: none. Lq: entries in form: how many there are. Conditions: none. EY: a map gone through: the next entry is any that has not been. Conditions: none. Lv: lines.Lines. Conditions: sizes. Lpa: entries in form, in plain words (first part). Conditions: none. Lw: lines: Line, Total; the document's Lines, Line, Total. Conditions: sizes. Lm: lines: Dots, Inside, Outside. Conditions: sizes. Ya: the library's stable sort, piece by piece: what each function of it does to the row. Conditions: what is asked of 'less' and of 'swap'. Yb: the library's stable sort: symMerge puts two sorted runs into one. Conditions: what is asked of 'less' and of 'swap'; the order. Yc: the library's stable sort, whole: blocks of 20 by insertion, then merged by pairs. Conditions: what is asked of 'less' and of 'swap'; the order. Yd: the library's stable sort: the one order that it gives (by tags: each element with its place), and sort.SliceStable. Conditions: what is asked of 'less'; the order; the types. Ye: sort.SliceStable, walked. Conditions: what is asked of 'less'; the order; the types. Yg: sort.SliceStable as a call that puts a row of one's own into the stable order. Conditions: 'less' by its contract; the order; the types. Le: lines: the library's sort at entries; copies; what sorted lists come to. Conditions: none. Lf: lines: Sort, Find and what the document says of them. Conditions: sizes. Lh: lines: Union, and the library's Grow and Concat at entries. Conditions: sizes. Dr: act.rules: the table. Conditions: none. Da: act: the rules of the acts. Conditions: sizes. -/
import Derived.Below
import Derived.OwnWalk
import Derived.WalkKit
import Derived.KernelRfl
import Derived.Laws.MakeOwn
import Derived.Laws.OwnMore
import Derived.Laws.Slices
import Derived.Laws.CopyOwn
import Derived.Laws.AppendOwnNone
import Derived.Laws.Rows
import Derived.Orders
import Derived.Test.YtphcaholhacnpaaGreatProg
import Derived.DataReads
import Derived.ChangeOld
import Derived.DataElems
import Derived.SizedLaws
import Derived.ChangeKeysEq
import Derived.Sort.LotA
import Derived.Shelf.SlSortFuncK.RowK2
import Derived.Lib.Walk
import Derived.BigQuiet
import Derived.Shelf.SlSortFuncK.WholeK
import Derived.Shelf.GgSortFunc.Tiny
import Derived.Maps.RangeRun
import Derived.Shelf.SlSortCmp.NoneTotal
import Derived.Shelf.SlLaysE0
import Derived.Shelf.RegionOpenPlain
import Derived.Deep.LoopGhost
import Derived.Lib.SliceRun
import Derived.Shelf.SlSortFuncK.SWK
import Derived.Deep.Cut
import Derived.Deep.CutRange
import Derived.Deep.DeepCutAuto
import Derived.Lib.ReflectliteSwap
import Derived.Laws.Externs
import Derived.Lib.ReflectliteSlice
import Derived.Lib.AppendZeros
import Derived.Lib.Bytealg
import Derived.Test.YtphcaholhacnpaaGreatZr3
set_option linter.unusedVariables false
set_option linter.unusedSimpArgs false
set_option linter.unusedSectionVars false
set_option linter.unnecessarySimpa false
namespace Go.Proofs.YtphcaholhacnpaaGreat
open Go.E
set_option maxRecDepth 100000
set_option maxHeartbeats 4000000
open Go Go.Sort Go.RowKit Go.Lib Go.Shelf Go.Proofs
def B36:Go.Shelf.Ren:=⟨fun | 6=>176 | 10=>218 | 11=>219 | 12=>220 | 13=>221 | 14=>222 | 24=>253 | 25=>254 | 26=>255 | 27=>256 | 28=>257 | 29=>258 | 30=>259 | 31=>260 | 32=>261 | 33=>262 | 34=>278 | 35=>279 | 36=>280 | 37=>281 | 38=>282 | 39=>290 | n=>n,
 fun | 0=>0 | 3=>3 | 4=>4 | 5=>5 | 9=>9 | 12=>12 | 17=>17 | 20=>20 | 26=>219 | 32=>246 | 33=>247 | 35=>249 | 37=>251 | 41=>255 | 44=>258 | 49=>270 | 51=>51 | 53=>273 | 54=>274 | 58=>278 | 60=>292 | 64=>296 | 66=>302 | 67=>127 | 75=>320 | 76=>321 | 77=>322 | 78=>323 | 79=>324 | 80=>325 | 82=>327 | n=>n,fun n=>n⟩
theorem Ax6:Go.Proofs.LaysGg.n6 Tryz.prog B36:={
 mixed:=(by kernel_rfl),
 f6:=Tryz.func176.trans (congrArg some (by kernel_rfl)),
 f10:=Tryz.func218.trans (congrArg some (by kernel_rfl)),
 f11:=Tryz.func219.trans (congrArg some (by kernel_rfl)),
 f12:=Tryz.func220.trans (congrArg some (by kernel_rfl)),
 f13:=Tryz.func221.trans (congrArg some (by kernel_rfl)),
 f14:=Tryz.func222.trans (congrArg some (by kernel_rfl)),
 f24:=Tryz.func253.trans (congrArg some (by kernel_rfl)),
 f25:=Tryz.func254.trans (congrArg some (by kernel_rfl)),
 f26:=Tryz.func255.trans (congrArg some (by kernel_rfl)),
 f27:=Tryz.func256.trans (congrArg some (by kernel_rfl)),
 f28:=Tryz.func257.trans (congrArg some (by kernel_rfl)),
 f29:=Tryz.func258.trans (congrArg some (by kernel_rfl)),
 f30:=Tryz.func259.trans (congrArg some (by kernel_rfl)),
 f31:=Tryz.func260.trans (congrArg some (by kernel_rfl)),
 f32:=Tryz.func261.trans (congrArg some (by kernel_rfl)),
 f33:=Tryz.func262.trans (congrArg some (by kernel_rfl)),
 f34:=Tryz.func278.trans (congrArg some (by kernel_rfl)),
 f35:=Tryz.func279.trans (congrArg some (by kernel_rfl)),
 f36:=Tryz.func280.trans (congrArg some (by kernel_rfl)),
 f37:=Tryz.func281.trans (congrArg some (by kernel_rfl)),
 f38:=Tryz.func282.trans (congrArg some (by kernel_rfl)),
 f39:=Tryz.func290.trans (congrArg some (by kernel_rfl)),
 t0:=Tryz.underlying0,a0:=Tryz.isAgg0,z0:=Tryz.sizeOf0,v0:=Tryz.zeroValue0,i0:=(by kernel_rfl),
 t3:=Tryz.underlying3,a3:=Tryz.isAgg3,z3:=Tryz.sizeOf3,v3:=Tryz.zeroValue3,i3:=(by kernel_rfl),
 t4:=Tryz.underlying4,a4:=Tryz.isAgg4,z4:=Tryz.sizeOf4,v4:=Tryz.zeroValue4,i4:=(by kernel_rfl),
 t5:=Tryz.underlying5,a5:=Tryz.isAgg5,z5:=Tryz.sizeOf5,v5:=Tryz.zeroValue5,i5:=(by kernel_rfl),
 t9:=Tryz.underlying9,a9:=Tryz.isAgg9,z9:=Tryz.sizeOf9,v9:=Tryz.zeroValue9,i9:=(by kernel_rfl),
 t12:=Tryz.underlying12,a12:=Tryz.isAgg12,z12:=Tryz.sizeOf12,v12:=Tryz.zeroValue12,i12:=(by kernel_rfl),
 t17:=Tryz.underlying17,a17:=Tryz.isAgg17,z17:=Tryz.sizeOf17,v17:=Tryz.zeroValue17,i17:=(by kernel_rfl),
 t20:=Tryz.underlying20,a20:=Tryz.isAgg20,z20:=Tryz.sizeOf20,v20:=Tryz.zeroValue20,i20:=(by kernel_rfl),
 t26:=Tryz.underlying219,a26:=Tryz.isAgg219,z26:=Tryz.sizeOf219,v26:=Tryz.zeroValue219,i26:=(by kernel_rfl),
 t32:=Tryz.underlying246,a32:=Tryz.isAgg246,z32:=Tryz.sizeOf246,v32:=Tryz.zeroValue246,i32:=(by kernel_rfl),
 t33:=Tryz.underlying247,a33:=Tryz.isAgg247,z33:=Tryz.sizeOf247,v33:=Tryz.zeroValue247,i33:=(by kernel_rfl),
 t35:=Tryz.underlying249,a35:=Tryz.isAgg249,z35:=Tryz.sizeOf249,v35:=Tryz.zeroValue249,i35:=(by kernel_rfl),
 t37:=Tryz.underlying251,a37:=Tryz.isAgg251,z37:=Tryz.sizeOf251,v37:=Tryz.zeroValue251,i37:=(by kernel_rfl),
 t41:=Tryz.underlying255,a41:=Tryz.isAgg255,z41:=Tryz.sizeOf255,v41:=Tryz.zeroValue255,i41:=(by kernel_rfl),
 t44:=Tryz.underlying258,a44:=Tryz.isAgg258,z44:=Tryz.sizeOf258,v44:=Tryz.zeroValue258,i44:=(by kernel_rfl),
 t49:=Tryz.underlying270,a49:=Tryz.isAgg270,z49:=Tryz.sizeOf270,v49:=Tryz.zeroValue270,i49:=(by kernel_rfl),
 t51:=Tryz.underlying51,a51:=Tryz.isAgg51,z51:=Tryz.sizeOf51,v51:=Tryz.zeroValue51,i51:=(by kernel_rfl),
 t53:=Tryz.underlying273,a53:=Tryz.isAgg273,z53:=Tryz.sizeOf273,v53:=Tryz.zeroValue273,i53:=(by kernel_rfl),
 t54:=Tryz.underlying274,a54:=Tryz.isAgg274,z54:=Tryz.sizeOf274,v54:=Tryz.zeroValue274,i54:=(by kernel_rfl),
 t58:=Tryz.underlying278,a58:=Tryz.isAgg278,z58:=Tryz.sizeOf278,v58:=Tryz.zeroValue278,i58:=(by kernel_rfl),
 t60:=Tryz.underlying292,a60:=Tryz.isAgg292,z60:=Tryz.sizeOf292,v60:=Tryz.zeroValue292,i60:=(by kernel_rfl),
 t64:=Tryz.underlying296,a64:=Tryz.isAgg296,z64:=Tryz.sizeOf296,v64:=Tryz.zeroValue296,i64:=(by kernel_rfl),
 t66:=Tryz.underlying302,a66:=Tryz.isAgg302,z66:=Tryz.sizeOf302,v66:=Tryz.zeroValue302,i66:=(by kernel_rfl),
 t67:=Tryz.underlying127,a67:=Tryz.isAgg127,z67:=Tryz.sizeOf127,v67:=Tryz.zeroValue127,i67:=(by kernel_rfl),
 t75:=Tryz.underlying320,a75:=Tryz.isAgg320,z75:=Tryz.sizeOf320,v75:=Tryz.zeroValue320,i75:=(by kernel_rfl),
 t76:=Tryz.underlying321,a76:=Tryz.isAgg321,z76:=Tryz.sizeOf321,v76:=Tryz.zeroValue321,i76:=(by kernel_rfl),
 t77:=Tryz.underlying322,a77:=Tryz.isAgg322,z77:=Tryz.sizeOf322,v77:=Tryz.zeroValue322,i77:=(by kernel_rfl),
 t78:=Tryz.underlying323,a78:=Tryz.isAgg323,z78:=Tryz.sizeOf323,v78:=Tryz.zeroValue323,i78:=(by kernel_rfl),
 t79:=Tryz.underlying324,a79:=Tryz.isAgg324,z79:=Tryz.sizeOf324,v79:=Tryz.zeroValue324,i79:=(by kernel_rfl),
 t80:=Tryz.underlying325,a80:=Tryz.isAgg325,z80:=Tryz.sizeOf325,v80:=Tryz.zeroValue325,i80:=(by kernel_rfl),
 t82:=Tryz.underlying327,a82:=Tryz.isAgg327,z82:=Tryz.sizeOf327,v82:=Tryz.zeroValue327,i82:=(by kernel_rfl) }
noncomputable def Ax7:TypeInfo:=(Tryz.prog.info? 167).get!
noncomputable def tiL:TypeInfo:=(Tryz.prog.info? 61).get!
def swL(n:Nat):Nat:=if n=0 then 244 else if n=1 then 245 else 252
theorem swKL(n:Nat)(h2:2≤n):swapperK n tiL 25=9:=by
 have b:tiL.bytes=32:=by kernel_rfl
 have c:(n == 0)=false:=by simp;omega
 have d:(n == 1)=false:=by simp;omega
 simp [swapperK,b,c,d]
theorem A6p(n:Nat):Tryz.prog.funcs.findIdx? (fun g=>g.name == "internal/reflectlite"++".Swapper$"++toString (swapperK n tiL 25))=some (swL n):=by
 match n with
 | 0=>show _=some 244;kernel_rfl
 | 1=>show _=some 245;kernel_rfl
 | n+2 =>
  rw[swKL _ (by omega)]
  simp only [swL]
  rw[if_neg (by omega),if_neg (by omega)]
  show _=some 252
  kernel_rfl
def ltL(a b:Line):Bool:=sLt a.sku b.sku
theorem Ab6:SWO ltL:=by
 refine⟨fun x=>?_,fun x y z h1 h2=>?_,fun x y z h1 h2=>?_⟩
 ·exact Bool.eq_false_iff.2 (W0 _)
 ·exact Q8 h1 h2
 ·unfold ltL at *
  rw[Bool.eq_false_iff]at *
  intro h
  by_cases k:sLt z.sku y.sku=true
  ·exact h1 (Q8 h k)
  ·exact h1 (by rw[A0o h2 k];exact h)
def A3o(x:Line):List Value:=(c61 x).map valA
theorem A5e(d:List Line):(d.map A3o).flatten=((d.map c61).flatten).map valA:=by
 induction d with
 | nil=>rfl
 | cons x d ih=>simp only [List.map_cons,List.flatten_cons,List.map_append,ih,A3o]
theorem lessL(W:World)(gv blk n cap:Nat)(i j:Nat)(x y:ByteArray)(hi:i < n)(hj:j < n)
  (hc:W.cell? ⟨gv,0,none⟩=some (.slice (some ⟨blk,0,none⟩) n cap)) (hx:W.cell? ⟨blk,i*3,none⟩=some (.string x)) (hy:W.cell? ⟨blk,j*3,none⟩=some (.string y)) :
  Calls Tryz.prog 177 #[.int .i64 i,.int .i64 j,.pointer (some ⟨gv,0,none⟩)] W fun e w'=>e=.returned (.bool (Go.Op.bytesLess x.toList y.toList))∧∃ q,w'=W.drewN q:=by
 go_enter Tryz.func177,Tryz.ntmps177
 go_wp2
 go_region
 go_wp2
 go_ret
 exact⟨rfl,1,rfl⟩
def A1p(l:List Line):List Line:=(pdq ltL l.toArray 0 l.toArray.size (Lib.bitLen l.toArray.size) true true).toList
theorem A3p(l:List Line):(A1p l).Perm l:=by
 have h:=(pdq_sorts ltL Ab6 l.toArray 0 l.toArray.size (Lib.bitLen l.toArray.size) true true (Nat.zero_le _) (Nat.le_refl _) (Or.inl rfl)).1
 obtain⟨hsz,_,hp⟩:=h
 unfold A1p
 generalize pdq ltL l.toArray 0 l.toArray.size (Lib.bitLen l.toArray.size) true true=d at hsz hp ⊢
 have e1:d.extract 0 l.toArray.size=d:=by rw[← hsz];exact Array.extract_size
 rw[e1,Array.extract_size]at hp
 exact hp
theorem An7(l:List Line):(A1p l).Pairwise fun x y=>ltL y x=false:=by
 have h:=pdq_sorts ltL Ab6 l.toArray 0 l.toArray.size (Lib.bitLen l.toArray.size) true true (Nat.zero_le _) (Nat.le_refl _) (Or.inl rfl)
 have hs:=h.1.1
 have h2:=h.2
 unfold A1p
 rw[List.pairwise_iff_getElem]
 intro i j hi hj hij
 rw[Array.length_toList]at hi hj
 have:=h2 i j (Nat.zero_le _) hij (by omega)
 rw[getElem!_pos _ j hj,getElem!_pos _ i hi]at this
 rw[Array.getElem_toList,Array.getElem_toList]
 exact this
theorem B37(l:List Line):(A1p l).length=l.length:=(A3p l).length_eq
theorem A3q(x:Line):(A3o x).length=3:=rfl
theorem A5f(x:Line):∀ a∈c61 x,L4 a=true:=by
 intro a ha
 simp only [c61,List.mem_cons,List.not_mem_nil,or_false]at ha
 rcases ha with rfl | rfl | rfl <;> rfl
theorem io176(l:List Line)(hlen:l.length < 4611686018427387904) :
  U9 Tryz.prog 176 177 (some 167) true 61 3 (l.map c61) ((A1p l).map c61):=by
 have hpm:=A3p l
 have hone:∀ x,∀ v∈A3o x,v.oneCell'=true:=by
  intro x v hv
  obtain⟨a,ha,rfl⟩:=List.mem_map.1 hv
  exact N1 (A5f x a ha)
 have hpl:∀ m:List Line,∀ a∈(m.map c61).flatten,L4 a=true:=by
  intro m a ha
  obtain⟨r,hr,har⟩:=List.mem_flatten.1 ha
  obtain⟨x,_,rfl⟩:=List.mem_map.1 hr
  exact A5f x a har
 have hsz:∀ r∈l.map c61,r.length=3:=fun r hr=>by obtain⟨x,_,rfl⟩:=List.mem_map.1 hr;rfl
 refine⟨⟨_,Tryz.func176,by kernel_rfl,by kernel_rfl⟩,by rw[List.length_map,List.length_map,hpm.length_eq],fun r hr=>by obtain⟨x,_,rfl⟩:=List.mem_map.1 hr;rfl,fun w base v cv S xs hS hb ho hx1 hxr hcap=>?_⟩
 obtain⟨gv,rfl,q1,q2,q3⟩:=hcap rfl
 have hxs:xs=(l.map c61).flatten.map valA:=by
  apply List.ext_getElem?
  intro j
  by_cases hj:j < xs.length
  ·have hj':j <(l.map c61).flatten.length:=by rw[B8 hsz,← ho.1];exact hj
   rw[List.getElem?_eq_getElem hj,List.getElem?_map,List.getElem?_eq_getElem hj',Option.map_some]
   have:=hxr j _ _ (List.getElem?_eq_getElem hj') (List.getElem?_eq_getElem hj)
   rw[A2x (hpl _ _ (List.getElem_mem hj')) this]
  ·rw[List.getElem?_eq_none (by omega),List.getElem?_eq_none (by rw[List.length_map,B8 hsz,← ho.1];omega)]
 rw[hxs,List.length_map]at ho
 rw[List.length_map]
 simp only [if_true,Ap8]
 have hout:∀(w':World),∀(j:Nat) (a:AV) (u:Value),((A1p l).map c61).flatten[j]?=some a→(((A1p l).map c61).flatten.map valA)[j]?=some u→RelV0 S w' a u:=by
  intro w' j a u ha hu
  rw[List.getElem?_map,ha,Option.map_some,Option.some.injEq]at hu
  rw[← hu]
  exact A0g (hpl _ a (List.mem_of_getElem? ha))
 have hout1:∀ u∈((A1p l).map c61).flatten.map valA,u.oneCell'=true:=by
  intro u hu
  obtain⟨x,hx,rfl⟩:=List.mem_map.1 hu
  exact N1 (hpl _ x hx)
 have hfam:∀(b cap:Nat) (w':World) (hbl:b < w.heap.size) (ho':w.ownsRow base 61 3 (.slice (some ⟨b,0,none⟩) l.length cap) l.length ((l.map A3o).flatten)),Fam A3o 3 b 0 w (A1p l).toArray w' →
   Ending.returned (.tuple #[])=.returned (.tuple #[])∧∃ xs',w'.ownsRow base 61 3 (.slice (some ⟨b,0,none⟩) l.length cap) l.length xs'∧(∀ u∈xs',u.oneCell'=true)∧(∀(j:Nat) (a:AV) (u:Value),((A1p l).map c61).flatten[j]?=some a→xs'[j]?=some u→RelV0 S w' a u) ∧
   (∀ k,k < w.heap.size→blkOf (.slice (some ⟨b,0,none⟩) l.length cap)≠some k→w'.heap[k]?=w.heap[k]?)∧w'.os=w.os∧w'.tape=w.tape∧w'.output=w.output∧w.heap.size≤w'.heap.size:=by
  intro b cap w' hbl ho' hF
  have f:=hF.facts
  have ow:=hF.owns (d:=l.toArray) A3q (by simpa using hpm.length_eq) (by simp) (by simp) ho'
  refine⟨rfl,((A1p l).map c61).flatten.map valA,?_,hout1,hout w',fun j hj hjb=>f.2.2.2 j hj (fun e=>hjb (by rw[e];rfl)),f.1,f.2.1,f.2.2.1,hF.size⟩
  rw[← A5e]
  simpa using ow
 rcases ho.2 with⟨rfl,h0⟩ | ⟨b,cap,cur,rfl,hb',hh,h1,h2,h3,h4⟩
 ·have:l=[]:=List.eq_nil_of_length_eq_zero h0
  subst this
  refine(Any.sort_Slice_tiny (P:=Tryz.prog) (ρ:=B36) Ax6 167 61 Ax7 tiL (by kernel_rfl) (by kernel_rfl) (by kernel_rfl) (by kernel_rfl) 25 (fun _=>by kernel_rfl) none 0 0 (by omega) (swL 0) (A6p 0) _ _ _ w).mono ?_
  rintro e' w' ⟨rfl,os,rfl⟩
  have e0:A1p []=[]:=List.eq_nil_of_length_eq_zero (by rw[hpm.length_eq];rfl)
  refine⟨rfl,[],⟨by simp,.inl ⟨rfl,rfl⟩⟩,fun u hu=>by simp at hu,fun j a u ha hu=>by simp at hu,fun j hj _=>?_,rfl,rfl,rfl,?_⟩
  ·exact Go.Sort.heap_grow_old w os hj
  ·rw[Go.Sort.size_grow];omega
 ·have hbl:b < w.heap.size:=(Array.getElem?_eq_some_iff.1 hh).1
  have hne:gv≠b:=fun e=>q3 (by rw[e];rfl)
  have hflat:(l.map c61).flatten.map valA=(l.map A3o).flatten:=by rw[← A5e]
  rw[hflat]at ho
  have hHd:HoldsK A3o 3 w b 0 l.toArray:=M2 A3q ho (by simp) (by simp)
  by_cases hl2:l.length≤1
  ·refine(Any.sort_Slice_tiny (P:=Tryz.prog) (ρ:=B36) Ax6 167 61 Ax7 tiL (by kernel_rfl) (by kernel_rfl) (by kernel_rfl) (by kernel_rfl) 25 (fun _=>by kernel_rfl) (some ⟨b,0,none⟩) l.length cap hl2 (swL l.length) (A6p l.length) _ _ _ w).mono ?_
   rintro e' w' ⟨rfl,os,rfl⟩
   refine hfam b cap _ hbl ho ?_
   have e1:A1p l=l:=by
    match l,hl2 with
    | [],_=>exact List.eq_nil_of_length_eq_zero (by rw[hpm.length_eq];rfl)
    | [x],_=>exact List.perm_singleton.1 hpm
   rw[e1]
   exact(Fam.start hHd).grown w.drawn os
  ·have hw:=Any.sort_Slice_cells_eq (P:=Tryz.prog) (ρ:=B36) Ax6 167 61 Ax7 tiL (by kernel_rfl) (by kernel_rfl) (by kernel_rfl) (by kernel_rfl) 25 (fun _=>by kernel_rfl)
    A3o 3 A3q (by kernel_rfl) (fun _=>by kernel_rfl) hone ltL Ab6 177 #[.pointer (some ⟨gv,0,none⟩)] (enters_of Tryz.func177 (by kernel_rfl) rfl) b 0 cap l.toArray (by simp;omega) (by simpa using hlen)
    252 (by have:=A6p l.toArray.size;rw[this];congr 1;unfold swL;rw[if_neg (by rw[List.size_toArray];omega),if_neg (by rw[List.size_toArray];omega)]) false
    (fun args W=>run_callFunc_extern Tryz.func252 (by kernel_rfl) (by kernel_rfl) (by kernel_rfl) (e:=Extern.ReflectliteSwapper.swap false) (by kernel_rfl) args W) w
    (fun m os dk hs i j hi hj=>by
     have hF:Fam A3o 3 b 0 w dk (sortWorldK A3o 3 w b 0 m dk os):=⟨w.drawn+m,os,rfl⟩
     have hc:=(hF.cell (a:=⟨gv,0,none⟩) q1 hne).trans q2
     have hK:=hF.holds hbl hHd hs
     have hx:=(hK.cell (i:=i) (c:=0) (by omega) (by omega)).1
     have hy:=(hK.cell (i:=j) (c:=0) (by omega) (by omega)).1
     rw[Nat.zero_add,Nat.add_zero]at hx hy
     have hsz':l.toArray.size=l.length:=by simp
     exact lessL _ gv b l.length cap i j dk[i]!.sku dk[j]!.sku (hsz' ▸ hi) (hsz' ▸ hj) hc hx hy) hHd hbl
   have hsize:l.toArray.size=l.length:=by simp
   rw[hsize]at hw
   refine hw.mono ?_
   rintro e' w' ⟨rfl,n,os,hw'⟩
   exact hfam b cap w' hbl ho ⟨w.drawn+n,os,by rw[hw'];unfold A1p;rw[hsize];rfl⟩
end Go.Proofs.YtphcaholhacnpaaGreat
namespace Go.Proofs.YtphcaholhacnpaaGreat
open Go.E
set_option maxRecDepth 100000
set_option maxHeartbeats 4000000
def F2(es:List Entry)(s:ByteArray):List Entry:=es.filter (fun e=>decide (e.sku=s))
def L3:List Entry→Int
 | []=>0
 | e :: l=>e.qty+L3 l
def lineOf(es:List Entry)(s:ByteArray):Line:=⟨s,L3 (F2 es s),(F2 es s).length⟩
theorem A6q(a b:List Entry):L3 (a++b)=L3 a+L3 b:=by
 induction a with
 | nil=>simp [L3]
 | cons e a ih=>simp only [List.cons_append,L3,ih];omega
theorem Ax8{a b:List Entry}(h:a.Perm b):L3 a=L3 b:=by
 induction h with
 | nil=>rfl
 | cons x _ ih=>simp only [L3,ih]
 | swap x y l=>simp only [L3];omega
 | trans _ _ h1 h2=>rw[h1,h2]
theorem A8k(a:List Entry)(e:Entry)(s:ByteArray):F2 (a++[e]) s=if e.sku=s then F2 a s++[e]else F2 a s:=by
 unfold F2
 rw[List.filter_append]
 by_cases h:e.sku=s
 ·rw[if_pos h,List.filter_cons_of_pos (by simpa using h),List.filter_nil]
 ·rw[if_neg h,List.filter_cons_of_neg (by simpa using h),List.filter_nil,List.append_nil]
theorem Ab7(a:List Entry)(e:Entry):lineOf (a++[e]) e.sku=⟨e.sku,(lineOf a e.sku).qty+e.qty,(lineOf a e.sku).parts+1⟩:=by
 unfold lineOf
 rw[A8k,if_pos rfl,A6q,List.length_append]
 simp only [L3,List.length_cons,List.length_nil]
 congr 1
 omega
theorem A8l{a:List Entry}{e:Entry}{s:ByteArray}(h:¬ e.sku=s):lineOf (a++[e]) s=lineOf a s:=by
 unfold lineOf
 rw[A8k,if_neg h]
theorem A8m{es:List Entry}{s:ByteArray}(h:∀ e∈es,¬ e.sku=s):F2 es s=[]:=by
 unfold F2
 rw[List.filter_eq_nil_iff]
 intro e he
 simpa using h e he
def B38(e:Entry)(l:Line):Line:=⟨e.sku,l.qty+e.qty,l.parts+1⟩
def J9(es:List Entry):List (ByteArray×Line):=es.foldl (fun m e=>A4m e.sku (B38 e (lkp e.sku m)) m) []
theorem A3r(a:List Entry)(e:Entry):J9 (a++[e])=A4m e.sku (B38 e (lkp e.sku (J9 a))) (J9 a):=by
 unfold J9
 rw[List.foldl_append]
 rfl
theorem A3s{β:Type}(k:ByteArray)(v:β):∀ m:List (ByteArray×β),(k∈m.map (·.1)∧(A4m k v m).map (·.1)=m.map (·.1))∨(¬ k∈m.map (·.1)∧(A4m k v m).map (·.1)=m.map (·.1)++[k])
 | []=>.inr ⟨by simp,by simp [A4m]⟩
 | p :: m=>by
  have ih:=A3s k v m
  rw[A4m]
  by_cases h:p.1=k
  ·rw[if_pos h]
   exact .inl ⟨by simp [h],by simp⟩
  ·rw[if_neg h,List.map_cons,List.map_cons]
   rcases ih with⟨h1,h2⟩ | ⟨h1,h2⟩
   ·exact .inl ⟨List.mem_cons_of_mem _ h1,by rw[h2]⟩
   ·refine .inr ⟨fun hk=>?_,by rw[h2];rfl⟩
    rcases List.mem_cons.1 hk with a | a
    ·exact h a.symm
    ·exact h1 a
theorem An8{β:Type}{k:ByteArray}{v:β}{m:List (ByteArray×β)}(h:(m.map (·.1)).Nodup):((A4m k v m).map (·.1)).Nodup:=by
 rcases A3s k v m with⟨_,h2⟩ | ⟨hk,h2⟩
 ·rw[h2];exact h
 ·rw[h2,List.nodup_append]
  refine⟨h,by simp,fun a ha b hb e=>?_⟩
  have:b=k:=by simpa using hb
  rw[← this,← e]at hk
  exact hk ha
theorem A0u{β:Type}{k:ByteArray}{v:β}:∀ {m:List (ByteArray×β)},(m.map (·.1)).Nodup→∀ p,p∈A4m k v m↔p=(k,v)∨(p∈m∧¬ p.1=k)
 | [],_,p=>by simp [A4m]
 | q :: m,h,p=>by
  rw[List.map_cons,List.nodup_cons]at h
  rw[A4m]
  by_cases hq:q.1=k
  ·rw[if_pos hq,List.mem_cons,hq]
   constructor
   ·rintro(a | a)
    ·exact .inl a
    ·refine .inr ⟨List.mem_cons_of_mem _ a,fun e=>h.1 ?_⟩
     rw[hq,← e]
     exact List.mem_map.2 ⟨p,a,rfl⟩
   ·rintro(a | ⟨a,b⟩)
    ·exact .inl a
    ·rcases List.mem_cons.1 a with c | c
     ·rw[c]at b;exact absurd hq b
     ·exact .inr c
  ·rw[if_neg hq,List.mem_cons,A0u h.2]
   constructor
   ·rintro(a | a | ⟨a,b⟩)
    ·rw[a];exact .inr ⟨List.mem_cons_self,hq⟩
    ·exact .inl a
    ·exact .inr ⟨List.mem_cons_of_mem _ a,b⟩
   ·rintro(a | ⟨a,b⟩)
    ·exact .inr (.inl a)
    ·rcases List.mem_cons.1 a with c | c
     ·exact .inl c
     ·exact .inr (.inr ⟨c,b⟩)
theorem Ah7{β:Type}(k:ByteArray)(v:β)(m:List (ByteArray×β)):(A4m k v m).length≤m.length+1:=by
 rcases A3s k v m with⟨_,h2⟩ | ⟨_,h2⟩
 ·have:=congrArg List.length h2
  rw[List.length_map,List.length_map]at this
  omega
 ·have:=congrArg List.length h2
  rw[List.length_append,List.length_map,List.length_map]at this
  simp at this
  omega
theorem A3t(es:List Entry):(J9 es).length≤es.length:=by
 have h:∀ n,n≤es.length→(J9 (es.take n)).length≤n:=by
  intro n
  induction n with
  | zero=>intro _;simp [J9]
  | succ n ih =>
   intro hn
   rw[List.take_succ_eq_append_getElem (by omega),A3r]
   have:=ih (by omega)
   have:=Ah7 es[n].sku (B38 es[n] (lkp es[n].sku (J9 (es.take n)))) (J9 (es.take n))
   omega
 have:=h es.length (Nat.le_refl _)
 rwa [List.take_length]at this
structure IsFill (l:List Entry) (m:List (ByteArray×Line)):Prop where
 keys:(m.map (·.1)).Nodup
 val:∀ p∈m,p.2=lineOf l p.1∧∃ e∈l,e.sku=p.1
 all:∀ e∈l,∃ p∈m,p.1=e.sku
theorem IsFill.lkp{l:List Entry}{m:List (ByteArray×Line)}(h:IsFill l m)(s:ByteArray):(lkp s m).qty=(lineOf l s).qty∧(lkp s m).parts=(lineOf l s).parts:=by
 unfold E.lkp
 cases hf:m.find? (fun p=>decide (p.1=s))with
 | some p =>
  have h1:=List.find?_some hf
  have h2:=List.mem_of_find?_eq_some hf
  have h3:=(h.val p h2).1
  have h4:p.1=s:=by simpa using h1
  simp only
  rw[h3,h4]
  exact⟨rfl,rfl⟩
 | none =>
  rw[List.find?_eq_none]at hf
  have:F2 l s=[]:=A8m fun e he hs=>by
   obtain⟨p,hp,hpe⟩:=h.all e he
   have:=hf p hp
   rw[hpe,hs]at this
   simp at this
  unfold lineOf
  rw[this]
  exact⟨rfl,rfl⟩
theorem IsFill.step{l:List Entry}{m:List (ByteArray×Line)}(h:IsFill l m)(e:Entry):IsFill (l++[e]) (A4m e.sku (B38 e (E.lkp e.sku m)) m):=by
 have hv:B38 e (E.lkp e.sku m)=lineOf (l++[e]) e.sku:=by
  rw[Ab7]
  unfold B38
  rw[(h.lkp e.sku).1,(h.lkp e.sku).2]
 refine⟨An8 h.keys,fun p hp=>?_,fun x hx=>?_⟩
 ·rw[A0u h.keys]at hp
  rcases hp with rfl | ⟨hp,hne⟩
  ·exact⟨hv,e,by simp,rfl⟩
  ·obtain⟨h1,x,hx,hxe⟩:=h.val p hp
   exact⟨by rw[A8l (fun k=>hne k.symm),h1],x,by simp [hx],hxe⟩
 ·rcases List.mem_append.1 hx with hx | hx
  ·obtain⟨p,hp,hpe⟩:=h.all x hx
   by_cases hk:p.1=e.sku
   ·exact⟨(e.sku,B38 e (E.lkp e.sku m)),(A0u h.keys _).2 (.inl rfl),by rw[← hk,hpe]⟩
   ·exact⟨p,(A0u h.keys _).2 (.inr ⟨hp,hk⟩),hpe⟩
  ·have:x=e:=by simpa using hx
   subst this
   exact⟨_,(A0u h.keys _).2 (.inl rfl),rfl⟩
theorem Ax9(es:List Entry):IsFill es (J9 es):=by
 have h:∀ n,n≤es.length→IsFill (es.take n) (J9 (es.take n)):=by
  intro n
  induction n with
  | zero=>intro _;exact⟨by simp [J9],fun p hp=>by simp [J9]at hp,fun e he=>by simp at he⟩
  | succ n ih =>
   intro hn
   rw[List.take_succ_eq_append_getElem (by omega),A3r]
   exact(ih (by omega)).step _
 have:=h es.length (Nat.le_refl _)
 rwa [List.take_length]at this
def upL(l:List Line):Prop:=l.Pairwise (fun a b=>sLt a.sku b.sku=true)
structure IsLines (es:List Entry) (l:List Line):Prop where
 up:upL l
 mem:∀ x,x∈l↔(∃ e∈es,e.sku=x.sku)∧x=lineOf es x.sku
theorem A5g:∀ {a b:List Line},upL a→upL b→(∀ e,e∈a↔e∈b)→a=b
 | [],[],_,_,_=>rfl
 | [],y :: b,_,_,h=>by have:=(h y).2 (by simp);cases this
 | x :: a,[],_,_,h=>by have:=(h x).1 (by simp);cases this
 | x :: a,y :: b,ha,hb,h=>by
  have pa:=List.pairwise_cons.1 ha
  have pb:=List.pairwise_cons.1 hb
  have e:x=y:=by
   apply Classical.byContradiction
   intro hne
   have h1:x∈b:=by
    rcases List.mem_cons.1 ((h x).1 (by simp))with k | k
    ·exact absurd k hne
    ·exact k
   have h2:y∈a:=by
    rcases List.mem_cons.1 ((h y).2 (by simp))with k | k
    ·exact absurd k.symm hne
    ·exact k
   exact W0 _ (Q8 (pa.1 y h2) (pb.1 x h1))
  subst e
  rw[A5g pa.2 pb.2 fun e=>?_]
  constructor
  ·intro he
   rcases List.mem_cons.1 ((h e).1 (by simp [he]))with k | k
   ·subst k;exact absurd (pa.1 e he) (W0 _)
   ·exact k
  ·intro he
   rcases List.mem_cons.1 ((h e).2 (by simp [he]))with k | k
   ·subst k;exact absurd (pb.1 e he) (W0 _)
   ·exact k
theorem IsLines.unique{es:List Entry}{a b:List Line}(ha:IsLines es a)(hb:IsLines es b):a=b:=A5g ha.up hb.up fun x=>(ha.mem x).trans (hb.mem x).symm
theorem A8n{es:List Entry}{l:List Line}(h:l.Perm ((J9 es).map (·.2))):IsLines es (A1p l):=by
 have hf:=Ax9 es
 have hp:(A1p l).Perm ((J9 es).map (·.2)):=(A3p l).trans h
 have hm:∀ x,x∈A1p l↔(∃ e∈es,e.sku=x.sku)∧x=lineOf es x.sku:=fun x=>by
  rw[hp.mem_iff,List.mem_map]
  constructor
  ·rintro⟨p,hp,rfl⟩
   obtain⟨h1,e,he,h2⟩:=hf.val p hp
   have h3:p.2.sku=p.1:=by rw[h1];rfl
   rw[h3]
   exact⟨⟨e,he,h2⟩,h1⟩
  ·rintro⟨⟨e,he,h1⟩,h2⟩
   obtain⟨p,hp,hpe⟩:=hf.all e he
   refine⟨p,hp,?_⟩
   rw[(hf.val p hp).1,hpe,h1,← h2]
 refine⟨?_,hm⟩
 have hs:((A1p l).map (·.sku)).Nodup:=by
  have e1:((J9 es).map (·.2)).map (·.sku)=(J9 es).map (·.1):=by
   rw[List.map_map]
   refine List.map_congr_left fun p hp=>?_
   show p.2.sku=p.1
   rw[(hf.val p hp).1]
   rfl
  have:=(hp.map (·.sku)).nodup_iff.2
  rw[e1]at this
  exact this hf.keys
 have hr:=An7 l
 unfold upL
 rw[List.pairwise_iff_getElem]at hr ⊢
 intro i j hi hj hij
 have h1:=hr i j hi hj hij
 apply Classical.byContradiction
 intro h2
 have h3:¬ sLt (A1p l)[j].sku (A1p l)[i].sku=true:=by
  unfold ltL at h1
  rw[h1]
  simp
 have h4:=A0o h2 h3
 have:=(List.pairwise_iff_getElem.1 hs) i j (by simpa using hi) (by simpa using hj) hij
 simp only [List.getElem_map]at this
 exact this h4
def Ah8(es:List Entry):List Line:=A1p ((J9 es).map (·.2))
theorem Ay0(es:List Entry):IsLines es (Ah8 es):=A8n (List.Perm.refl _)
theorem Ab8{es:List Entry}{l:List Line}(h:l.Perm ((J9 es).map (·.2))):A1p l=Ah8 es:=(A8n h).unique (Ay0 es)
def L6(es:List Entry):List Line×Int:=if B2 es=0 then(Ah8 es,0)else([],1)
theorem A8o{es:List Entry}(h:B2 es=0):L6 es=(Ah8 es,0):=by unfold L6;rw[if_pos h]
theorem A8p{es:List Entry}(h:¬ B2 es=0):L6 es=([],1):=by unfold L6;rw[if_neg h]
theorem A6r:∀(n:Nat) (seen:List Nat),seen.Nodup→(∀ j∈seen,j < n)→seen.length≤n
 | 0,seen,_,hb=>by
  cases seen with
  | nil=>simp
  | cons j l=>exact absurd (hb j (by simp)) (by omega)
 | n+1,seen,hn,hb=>by
  by_cases h:n∈seen
  ·have h1:=A6r n (seen.erase n) (hn.erase n) fun j hj=>by
    have:=(hn.mem_erase_iff).1 hj
    have:=hb j this.2
    omega
   rw[List.length_erase_of_mem h]at h1
   omega
  ·have:=A6r n seen hn fun j hj=>by
    have:=hb j hj
    have:j≠n:=fun e=>h (e ▸ hj)
    omega
   omega
theorem Ay1{n:Nat}{seen:List Nat}(hn:seen.Nodup)(hb:∀ j∈seen,j < n)(ha:∀ j,j < n→j∈seen):seen.Perm (List.range n) :=
 (List.perm_ext_iff_of_nodup hn List.nodup_range).2 fun j=>⟨fun h=>List.mem_range.2 (hb j h),fun h=>ha j (List.mem_range.1 h)⟩
theorem Ay2{β:Type}[Inhabited β](m:List β):(List.range m.length).map (fun j=>m[j]!)=m:=by
 apply List.ext_getElem
 ·simp
 ·intro i h1 h2
  rw[List.getElem_map,List.getElem_range,getElem!_pos m i h2]
end Go.Proofs.YtphcaholhacnpaaGreat
namespace Go.Proofs.YtphcaholhacnpaaGreat
open Go.E
set_option maxRecDepth 100000
set_option maxHeartbeats 4000000
def ofV(es:List Entry)(sku:ByteArray):List Entry×Int :=
 if okL es=true then(if J6 sku=true then(es.filter (fun e=>decide (e.sku=sku)),0)else([],5))else([],1)
def E8(es:List Entry)(rep:Int)(sku:ByteArray):List Entry×Int :=
 if okL es=true then(if 0≤rep∧rep < 16 then(if J6 sku=true then(es.filter (fun e=>decide (e.sku=sku∧e.dot.rep=rep)),0)else([],5))else([],3))else([],1)
def Ab9(p:Entry→Bool)(es:List Entry)(i:Int)(l:List Entry):Prop:=0≤i∧i≤es.length∧l=(es.take i.toNat).filter p∧(l.length:Int)≤i
def decP(es:List Entry)(i:Int)(l:List Entry):Nat:=(es.length-i).toNat
theorem G4{p:Entry→Bool}{es:List Entry}{i:Int}(h0:0≤i)(h:i < es.length):(es.take (i+1).toNat).filter p=if p es[i.toNat]! = true then(es.take i.toNat).filter p++[es[i.toNat]!]else(es.take i.toNat).filter p:=by
 rw[← D1 h0 h,List.filter_append]
 by_cases hp:p es[i.toNat]! = true
 ·rw[if_pos hp,List.filter_cons_of_pos hp,List.filter_nil]
 ·rw[if_neg hp,List.filter_cons_of_neg hp,List.filter_nil,List.append_nil]
theorem K7(es:List Entry)(sku:ByteArray):(ofV es sku).1.length≤es.length:=by
 unfold ofV
 split
 ·split
  ·exact List.length_filter_le _ _
  ·simp
 ·simp
theorem An9(es:List Entry):(okL es=true∧B2 es=0)∨(¬ okL es=true∧B2 es=1):=by
 unfold B2
 by_cases h:okL es=true
 ·rw[if_pos h];exact .inl ⟨h,rfl⟩
 ·rw[if_neg h];exact .inr ⟨h,rfl⟩
theorem A2k{es:List Entry}{sku:ByteArray}(h:¬ B2 es=0):ofV es sku=([],1):=by
 unfold ofV;rw[if_neg];intro k;exact h (by unfold B2;rw[if_pos k])
theorem A8q{es:List Entry}(h:B2 es=0):okL es=true:=by
 rcases An9 es with⟨a,b⟩ | ⟨a,b⟩
 ·exact a
 ·omega
theorem A6s{es:List Entry}{sku:ByteArray}(h:B2 es=0)(g:¬ J6 sku=true):ofV es sku=([],5):=by
 unfold ofV;rw[if_pos (A8q h),if_neg g]
theorem A5h{es:List Entry}{sku:ByteArray}(h:B2 es=0)(g:J6 sku=true):ofV es sku=(es.filter (fun e=>decide (e.sku=sku)),0):=by
 unfold ofV;rw[if_pos (A8q h),if_pos g]
theorem A3u{es:List Entry}{rep:Int}{sku:ByteArray}(h:¬ B2 es=0):E8 es rep sku=([],1):=by
 unfold E8;rw[if_neg];intro k;exact h (by unfold B2;rw[if_pos k])
theorem A6t{es:List Entry}{rep:Int}{sku:ByteArray}(h:B2 es=0)(r:rep < 0∨16≤rep):E8 es rep sku=([],3):=by
 unfold E8;rw[if_pos (A8q h),if_neg (by omega)]
theorem A6u{es:List Entry}{rep:Int}{sku:ByteArray}(h:B2 es=0)(r:¬(rep < 0∨16≤rep))(g:¬ J6 sku=true):E8 es rep sku=([],5):=by
 unfold E8;rw[if_pos (A8q h),if_pos (by omega),if_neg g]
theorem A1q{es:List Entry}{rep:Int}{sku:ByteArray}(h:B2 es=0)(r:¬(rep < 0∨16≤rep))(g:J6 sku=true):E8 es rep sku=(es.filter (fun e=>decide (e.sku=sku∧e.dot.rep=rep)),0):=by
 unfold E8;rw[if_pos (A8q h),if_pos (by omega),if_pos g]
theorem A3v(p:Entry→Bool)(es:List Entry):Ab9 p es 0 []:=⟨by omega,by omega,by simp,by simp⟩
theorem A6v{p:Entry→Bool}{es l:List Entry}{i:Int}(h0:0≤i)(h2:l=(es.take i.toNat).filter p)(h3:(l.length:Int)≤i)(h4:i < es.length)(h:p es[i.toNat]! = true):Ab9 p es (i+1) (l++[es[i.toNat]!]) :=
 ⟨by omega,by omega,by rw[G4 h0 h4,if_pos h,h2],by rw[List.length_append,List.length_cons,List.length_nil];omega⟩
theorem A3w{p:Entry→Bool}{es l:List Entry}{i:Int}(h0:0≤i)(h2:l=(es.take i.toNat).filter p)(h3:(l.length:Int)≤i)(h4:i < es.length)(h:¬ p es[i.toNat]! = true):Ab9 p es (i+1) l :=
 ⟨by omega,by omega,by rw[G4 h0 h4,if_neg h,h2],by omega⟩
theorem A3x{p:Entry→Bool}{es l:List Entry}{i:Int}(h2:l=(es.take i.toNat).filter p)(h4:¬ i < es.length):l=es.filter p:=by
 rw[h2,List.take_of_length_le (by omega)]
theorem B4w(e:Entry)(sku:ByteArray):Con Tryz.prog 170 [.agg (c46 e),.eptr [.s sku]] (.b (decide (e.sku=sku))) :=
 by
 refine sC A6 [.tmp 3] 8 Tryz.func170 ?_
 intro e0 cx
 refine sq<|rG cx [1,2] [2] z0<|sn<|sq<|rG cx [3] [] (tT 3 (S4:AV.b (e.sku.toList == sku.toList)=AV.b (decide (e.sku=sku))) z0)<|sn<|rT ?_
 exact A25 (r:=.b (decide (e.sku=sku))) (obl:=[]) (by kernel_rfl) trivial (A3.refl _)
theorem B4x(e:Entry)(sku:ByteArray)(rep:Int):Con Tryz.prog 104 [.agg (c46 e),.eptr [.s sku],.eptr [.i .i64 rep]] (.b (decide (e.sku=sku∧e.dot.rep=rep))) :=
 by
 refine sC A6 [.tmp 4] 16 Tryz.func104 ?_
 intro e0 cx
 refine sq<|rG cx [1,2,3] [3] z0<|sn<|sq<|A7 (σ':=⟨[(4,.b (decide (e.sku=sku∧e.dot.rep=rep)))],[]⟩) ?_ ?_
 refine A2 (e.sku=sku) (fun h_1=>?_) (fun h_1=>?_)
 refine rG cx [4] [] (tT 3 (V4 h_1:AV.b (e.sku.toList == sku.toList)=AV.b true) (tB 9 (e.dot.rep=rep) (tD 11 (decide (e.dot.rep=rep)) (e.sku=sku∧e.dot.rep=rep) (by simp only [eq_true h_1,tsl]) z0))) ?_
 exact⟨rfl,by kernel_rfl⟩
 refine rG cx [4] [] (tT 3 (N2 h_1:AV.b (e.sku.toList == sku.toList)=AV.b false) (tD 11 false (e.sku=sku∧e.dot.rep=rep) (by simp only [eq_false h_1,tsl]) z0)) ?_
 exact⟨rfl,by kernel_rfl⟩
 refine sn<|rT ?_
 exact A25 (r:=.b (decide (e.sku=sku∧e.dot.rep=rep))) (obl:=[]) (by kernel_rfl) trivial (A3.refl _)
theorem B39(es:List Entry)(sku:ByteArray)(hs:es.length*40≤140737488351232):Con Tryz.prog 103 [.sl (es.map c46),.fn (.func 170) [] [.eptr [.s sku]]] (.sl ((es.filter (fun e=>decide (e.sku=sku))).map c46)) :=
 by
 refine lN 0 c46 (es) Tryz.func103 fun hl_0=>sC A6 [.tmp 4] 23 Tryz.func103 ?_
 intro e0 cx
 refine sq<|rG cx [0,1] [] z0<|sn<|sq<|rG cx [0,1,5] [] z0<|sn<|sq<|sq<|rG cx [1,5,8,9,10] [] (tL 1 c46 es z0)<|sn<|bL 0<|G3 5 1005 46 4 (σ':=⟨[(1,.fn (Fn.func (170:FuncId)) [] [.eptr [.s (sku)]]),(5,.own 1005 0),(8,.sl (List.map c46 es)),(9,.i .i64 ((↑es.length:Int))),(10,.i .i64 ((0:Int)))],[(1005,⟨0,46,.row 4 (List.map c46 [])⟩)]⟩) (by kernel_rfl)<|sL (X:=Int×List Entry) (fun x=>⟨[(1,.fn (Fn.func (170:FuncId)) [] [.eptr [.s (sku)]]),(5,.own 1005 0),(8,.sl (List.map c46 es)),(9,.i .i64 ((↑es.length:Int))),(10,.i .i64 (x.1))],[(1005,⟨0,46,.row 4 (List.map c46 x.2)⟩)]⟩) (fun x ↦ decP es x.1 x.2) (fun x ↦ Ab9 (fun e ↦ decide (e.sku=sku)) es x.1 x.2) [1,5,8,9,10] [1005] (((0:Int),[])) (show Ab9 (fun e ↦ decide (e.sku=sku)) es (0:Int) []from(by exact(A3v _ _))) ?_
 rintro⟨i0,l1⟩ h_2
 obtain⟨hh3,hh4,hh5,h6⟩:0≤i0∧i0≤(↑es.length:Int)∧l1=List.filter (fun e ↦ decide (e.sku=sku)) (List.take i0.toNat es)∧(↑l1.length:Int)≤i0:=h_2
 refine rE cx [1,5,8,9,10,11] [1005] (zB 0 (i0 <(↑es.length:Int))) (fun h7=>?_) fun h7=>?_
 refine sK<|sn<|sq<|bL 1<|sq<|rG cx [1,5,8,9,10,7] [1005,7] (fA (0≤i0) (fG c46 es i0.toNat (fR 4 (fN 4 4 (oR 0 (c46 es[i0.toNat]!) z0)))))<|sn<|sq<|rG cx [1,5,8,9,10,7,16] [1005,7] (fT (B4w (es[i0.toNat]!) (sku)) (oA 2 (Ap2 (B4w (es[i0.toNat]!) (sku))) z0))<|sn<|dC (es[i0.toNat]!.sku=sku) (fun h8=>?_) fun h8=>?_
 refine rG cx [1,5,8,9,10] [1005] (fR 46 (fR 4 (fR 4 (fX c46 [es[i0.toNat]!] 4 (fS c46 l1 c46 [es[i0.toNat]!] (fP (((List.map c46 l1).length+(List.map c46 [es[i0.toNat]!]).length)*(40:Nat)≤(140737488355328:Nat)) (by(simp only [Go.maxLen,List.length_map,List.length_append,List.length_cons,List.length_nil];omega)) (fM c46 l1 [es[i0.toNat]!] (oV 3 { rows:=some (List.map c46 (l1++[es[i0.toNat]!])) } z0))))))))<|bN<|sn<|rG cx [1,5,8,9,10] [1005] (tW 0 (i0+1) z0)<|sn<|nX ((i0+1,l1++[es[i0.toNat]!])) (show((↑es.length:Int)-(i0+1)).toNat <((↑es.length:Int)-i0).toNat from(by omega)) (show Ab9 (fun e ↦ decide (e.sku=sku)) es (i0+1) (l1++[es[i0.toNat]!])from(by exact(A6v hh3 hh5 h6 h7 (decide_eq_true h8))))
 refine sK<|bN<|sn<|rG cx [1,5,8,9,10] [1005] (tW 0 (i0+1) z0)<|sn<|nX ((i0+1,l1)) (show((↑es.length:Int)-(i0+1)).toNat <((↑es.length:Int)-i0).toNat from(by omega)) (show Ab9 (fun e ↦ decide (e.sku=sku)) es (i0+1) l1 from(by exact(A3w hh3 hh5 h6 h7 (by simpa using h8))))
 refine eX 0<|nE<|nE<|bH<|sn<|sq<|rG cx [4] [1005] z0<|sn<|rT<|qR (.sl (List.map c46 l1)) (.eq (by exact(by rw[A3x hh5 h7])))
theorem B3a(es:List Entry)(sku:ByteArray)(rep:Int)(hs:es.length*40≤140737488351232):Con Tryz.prog 103 [.sl (es.map c46),.fn (.func 104) [] [.eptr [.s sku],.eptr [.i .i64 rep]]] (.sl ((es.filter (fun e=>decide (e.sku=sku∧e.dot.rep=rep))).map c46)) :=
 by
 refine lN 0 c46 (es) Tryz.func103 fun hl_0=>sC A6 [.tmp 4] 23 Tryz.func103 ?_
 intro e0 cx
 refine sq<|rG cx [0,1] [] z0<|sn<|sq<|rG cx [0,1,5] [] z0<|sn<|sq<|sq<|rG cx [1,5,8,9,10] [] (tL 1 c46 es z0)<|sn<|bL 0<|G3 5 1005 46 4 (σ':=⟨[(1,.fn (Fn.func (104:FuncId)) [] [.eptr [.s (sku)],.eptr [.i .i64 (rep)]]),(5,.own 1005 0),(8,.sl (List.map c46 es)),(9,.i .i64 ((↑es.length:Int))),(10,.i .i64 ((0:Int)))],[(1005,⟨0,46,.row 4 (List.map c46 [])⟩)]⟩) (by kernel_rfl)<|sL (X:=Int×List Entry) (fun x=>⟨[(1,.fn (Fn.func (104:FuncId)) [] [.eptr [.s (sku)],.eptr [.i .i64 (rep)]]),(5,.own 1005 0),(8,.sl (List.map c46 es)),(9,.i .i64 ((↑es.length:Int))),(10,.i .i64 (x.1))],[(1005,⟨0,46,.row 4 (List.map c46 x.2)⟩)]⟩) (fun x ↦ decP es x.1 x.2) (fun x ↦ Ab9 (fun e ↦ decide (e.sku=sku∧e.dot.rep=rep)) es x.1 x.2) [1,5,8,9,10] [1005] (((0:Int),[])) (show Ab9 (fun e ↦ decide (e.sku=sku∧e.dot.rep=rep)) es (0:Int) []from(by exact(A3v _ _))) ?_
 rintro⟨i0,l1⟩ h_2
 obtain⟨hh3,hh4,hh5,h6⟩:0≤i0∧i0≤(↑es.length:Int)∧l1=List.filter (fun e ↦ decide (e.sku=sku∧e.dot.rep=rep)) (List.take i0.toNat es)∧(↑l1.length:Int)≤i0:=h_2
 refine rE cx [1,5,8,9,10,11] [1005] (zB 0 (i0 <(↑es.length:Int))) (fun h7=>?_) fun h7=>?_
 refine sK<|sn<|sq<|bL 1<|sq<|rG cx [1,5,8,9,10,7] [1005,7] (fA (0≤i0) (fG c46 es i0.toNat (fR 4 (fN 4 4 (oR 0 (c46 es[i0.toNat]!) z0)))))<|sn<|sq<|rG cx [1,5,8,9,10,7,16] [1005,7] (fT (B4x (es[i0.toNat]!) (sku) (rep)) (oA 2 (Ap2 (B4x (es[i0.toNat]!) (sku) (rep))) z0))<|sn<|dC (es[i0.toNat]!.sku=sku∧es[i0.toNat]!.dot.rep=rep) (fun h8=>?_) fun h8=>?_
 refine rG cx [1,5,8,9,10] [1005] (fR 46 (fR 4 (fR 4 (fX c46 [es[i0.toNat]!] 4 (fS c46 l1 c46 [es[i0.toNat]!] (fP (((List.map c46 l1).length+(List.map c46 [es[i0.toNat]!]).length)*(40:Nat)≤(140737488355328:Nat)) (by(simp only [Go.maxLen,List.length_map,List.length_append,List.length_cons,List.length_nil];omega)) (fM c46 l1 [es[i0.toNat]!] (oV 3 { rows:=some (List.map c46 (l1++[es[i0.toNat]!])) } z0))))))))<|bN<|sn<|rG cx [1,5,8,9,10] [1005] (tW 0 (i0+1) z0)<|sn<|nX ((i0+1,l1++[es[i0.toNat]!])) (show((↑es.length:Int)-(i0+1)).toNat <((↑es.length:Int)-i0).toNat from(by omega)) (show Ab9 (fun e ↦ decide (e.sku=sku∧e.dot.rep=rep)) es (i0+1) (l1++[es[i0.toNat]!])from(by exact(A6v hh3 hh5 h6 h7 (decide_eq_true h8))))
 refine sK<|bN<|sn<|rG cx [1,5,8,9,10] [1005] (tW 0 (i0+1) z0)<|sn<|nX ((i0+1,l1)) (show((↑es.length:Int)-(i0+1)).toNat <((↑es.length:Int)-i0).toNat from(by omega)) (show Ab9 (fun e ↦ decide (e.sku=sku∧e.dot.rep=rep)) es (i0+1) l1 from(by exact(A3w hh3 hh5 h6 h7 (by simpa using h8))))
 refine eX 0<|nE<|nE<|bH<|sn<|sq<|rG cx [4] [1005] z0<|sn<|rT<|qR (.sl (List.map c46 l1)) (.eq (by exact(by rw[A3x hh5 h7])))
theorem B4y(es:List Entry)(sku:ByteArray)(hs:es.length*40≤140737488351232):Con Tryz.prog 100 [.sl (es.map c46),.s sku] (.tup [.sl ((ofV es sku).1.map c46),.i .i64 (ofV es sku).2]) :=
 by
 refine lN 0 c46 (es) Tryz.func100 fun hl_0=>sC A6 [.tmp 4,.tmp 5] 15 Tryz.func100 ?_
 intro e0 cx
 refine sq<|rG cx [0,3] [3] z0<|sn<|sq<|sq<|rG cx [0,3,8] [3] (fT (I1 (es)) (tN 2 (B2 es) (0:Int) (oA 1 (.i .i64 (B2 es)) z0)))<|sn<|dC (¬B2 es=0) (fun h0=>?_) fun h0=>?_
 refine sq<|rG cx [4,5] [] z0<|sn<|rT<|nR<|qR (.tup [.nl,.i .i64 ((1:Int))]) (A3.tup (ZLe.cons (A3.nl' (show List.map c46 (ofV es sku).1=[]from(by exact(by rw[A2k h0];rfl)))) (ZLe.cons (A3.eq (show AV.i .i64 1=AV.i .i64 (ofV es sku).2 from(by exact(by rw[A2k h0])))) ZLe.nil)))
 refine sK<|sn<|sq<|sq<|rG cx [0,3,11] [3] (fT (A8h (sku)) (tT 2 (G7:(AV.b !J6 sku)=AV.b (decide ¬J6 sku=true)) (oA 1 (.b (J6 sku)) z0)))<|sn<|dC (¬J6 sku=true) (fun h1=>?_) fun h1=>?_
 refine sq<|rG cx [4,5] [] z0<|sn<|rT<|nR<|qR (.tup [.nl,.i .i64 ((5:Int))]) (A3.tup (ZLe.cons (A3.nl' (show List.map c46 (ofV es sku).1=[]from(by exact(by rw[A6s (Classical.not_not.1 h0) h1];rfl)))) (ZLe.cons (A3.eq (show AV.i .i64 5=AV.i .i64 (ofV es sku).2 from(by exact(by rw[A6s (Classical.not_not.1 h0) h1])))) ZLe.nil)))
 refine sK<|sn<|sq<|rG cx [4,5] [] (fT (B39 (es) (sku) (by(with_reducible assumption))) (oA 2 (.sl (List.map c46 (List.filter (fun e ↦ decide (e.sku=sku)) es))) z0))<|sn<|rT<|qR (.tup [.sl (List.map c46 (List.filter (fun e ↦ decide (e.sku=sku)) es)),.i .i64 ((0:Int))]) (A3.tup (ZLe.cons (A3.eq (show AV.sl (List.map c46 (List.filter (fun e ↦ decide (e.sku=sku)) es))=AV.sl (List.map c46 (ofV es sku).1)from(by exact(by rw[A5h (Classical.not_not.1 h0) (Classical.not_not.1 h1)])))) (ZLe.cons (A3.eq (show AV.i .i64 0=AV.i .i64 (ofV es sku).2 from(by exact(by rw[A5h (Classical.not_not.1 h0) (Classical.not_not.1 h1)])))) ZLe.nil)))
theorem con26(es:List Entry)(rep:Int)(sku:ByteArray)(hs:es.length*40≤140737488351232):Con Tryz.prog 26 [.sl (es.map c46),.i .i64 rep,.s sku] (.tup [.sl ((E8 es rep sku).1.map c46),.i .i64 (E8 es rep sku).2]) :=
 by
 refine lN 0 c46 (es) Tryz.func26 fun hl_0=>sC A6 [.tmp 6,.tmp 7] 23 Tryz.func26 ?_
 intro e0 cx
 refine sq<|rG cx [0,4,5] [4,5] z0<|sn<|sq<|sq<|rG cx [0,4,5,10] [4,5] (fT (I1 (es)) (tN 2 (B2 es) (0:Int) (oA 1 (.i .i64 (B2 es)) z0)))<|sn<|dC (¬B2 es=0) (fun h0=>?_) fun h0=>?_
 refine sq<|rG cx [6,7] [] z0<|sn<|rT<|nR<|qR (.tup [.nl,.i .i64 ((1:Int))]) (A3.tup (ZLe.cons (A3.nl' (show List.map c46 (E8 es rep sku).1=[]from(by exact(by rw[A3u h0];rfl)))) (ZLe.cons (A3.eq (show AV.i .i64 1=AV.i .i64 (E8 es rep sku).2 from(by exact(by rw[A3u h0])))) ZLe.nil)))
 refine sK<|sn<|sq<|sq<|A7 (σ':=⟨[(0,.sl (List.map c46 es)),(4,.ptr (4) (0) (0) (0)),(5,.ptr (5) (0) (0) (0)),(16,.b (decide (rep <(0:Int)∨16≤rep)))],[(4,⟨0,3,.var [.i .i64 (rep)]⟩),(5,⟨0,9,.var [.s (sku)]⟩)]⟩) ?_ ?_
 refine A2 (rep <(0:Int)) (fun h_2=>?_) (fun h_2=>?_)
 refine rG cx [0,4,5,16] [4,5] (tT 1 (A1 h_2) (tD 5 true (rep <(0:Int)∨16≤rep) (by simp only [eq_true h_2,tsl]) z0)) ?_
 exact⟨rfl,by kernel_rfl⟩
 refine rG cx [0,4,5,16] [4,5] (tT 1 (A0 h_2) (tB 4 (16≤rep) (tD 5 (decide (16≤rep)) (rep <(0:Int)∨16≤rep) (by simp only [eq_false h_2,tsl]) z0))) ?_
 exact⟨rfl,by kernel_rfl⟩
 refine sn<|dC (rep <(0:Int)∨16≤rep) (fun h3=>?_) fun h3=>?_
 refine sq<|rG cx [6,7] [] z0<|sn<|rT<|nR<|qR (.tup [.nl,.i .i64 ((3:Int))]) (A3.tup (ZLe.cons (A3.nl' (show List.map c46 (E8 es rep sku).1=[]from(by exact(by rw[A6t (Classical.not_not.1 h0) h3];rfl)))) (ZLe.cons (A3.eq (show AV.i .i64 3=AV.i .i64 (E8 es rep sku).2 from(by exact(by rw[A6t (Classical.not_not.1 h0) h3])))) ZLe.nil)))
 refine sK<|sn<|sq<|sq<|rG cx [0,4,5,19] [4,5] (fT (A8h (sku)) (tT 2 (G7:(AV.b !J6 sku)=AV.b (decide ¬J6 sku=true)) (oA 1 (.b (J6 sku)) z0)))<|sn<|dC (¬J6 sku=true) (fun h4=>?_) fun h4=>?_
 refine sq<|rG cx [6,7] [] z0<|sn<|rT<|nR<|qR (.tup [.nl,.i .i64 ((5:Int))]) (A3.tup (ZLe.cons (A3.nl' (show List.map c46 (E8 es rep sku).1=[]from(by exact(by rw[A6u (Classical.not_not.1 h0) h3 h4];rfl)))) (ZLe.cons (A3.eq (show AV.i .i64 5=AV.i .i64 (E8 es rep sku).2 from(by exact(by rw[A6u (Classical.not_not.1 h0) h3 h4])))) ZLe.nil)))
 refine sK<|sn<|sq<|rG cx [6,7] [] (fT (B3a (es) (sku) (rep) (by(with_reducible assumption))) (oA 2 (.sl (List.map c46 (List.filter (fun e ↦ decide (e.sku=sku∧e.dot.rep=rep)) es))) z0))<|sn<|rT<|qR (.tup [.sl (List.map c46 (List.filter (fun e ↦ decide (e.sku=sku∧e.dot.rep=rep)) es)),.i .i64 ((0:Int))]) (A3.tup (ZLe.cons (A3.eq (show AV.sl (List.map c46 (List.filter (fun e ↦ decide (e.sku=sku∧e.dot.rep=rep)) es))=AV.sl (List.map c46 (E8 es rep sku).1)from(by exact(by rw[A1q (Classical.not_not.1 h0) h3 (Classical.not_not.1 h4)])))) (ZLe.cons (A3.eq (show AV.i .i64 0=AV.i .i64 (E8 es rep sku).2 from(by exact(by rw[A1q (Classical.not_not.1 h0) h3 (Classical.not_not.1 h4)])))) ZLe.nil)))
end Go.Proofs.YtphcaholhacnpaaGreat
namespace Go.Proofs.YtphcaholhacnpaaGreat
open Go.E
set_option maxRecDepth 100000
set_option maxHeartbeats 4000000
theorem Ah9{e:Entry}(h:N9 e=0):0≤e.dot.rep∧e.dot.rep < 16∧1≤e.dot.num∧e.dot.num≤1000000000:=by
 unfold N9 at h
 split at h
 ·cases h
 ·split at h
  ·cases h
  ·omega
theorem U0{es:List Entry}(h:okL es=true){i:Nat}(hi:i < es.length):N9 es[i]! = 0∧(i=0∨dLt es[i-1]!.dot es[i]!.dot=true):=(A2j _ _).1 ((I0 _ _).1 h i hi)
theorem Ay3{es:List Entry}(h:okL es=true):∀ i:Nat,i < es.length→(i:Int)+1≤es[i]!.dot.rep*1000000000+es[i]!.dot.num
 | 0,hi=>by have:=Ah9 (U0 h hi).1;omega
 | i+1,hi=>by
  have h1:=Ay3 h i (by omega)
  have h2:=Ah9 (U0 h hi).1
  have h3:=Ah9 (U0 h (show i < es.length by omega)).1
  have h4:=(U0 h hi).2
  rcases h4 with h4 | h4
  ·omega
  ·simp only [Nat.add_sub_cancel,dLt,decide_eq_true_eq]at h4
   omega
theorem A1r{es:List Entry}(h:okL es=true):es.length≤16000000000:=by
 by_cases h0:es.length=0
 ·omega
 ·have h1:=Ay3 h (es.length-1) (by omega)
  have h2:=Ah9 (U0 h (show es.length-1 < es.length by omega)).1
  omega
theorem L7{es:List Entry}(h:B2 es=0):okL es=true:=by
 unfold B2 at h
 split at h
 ·assumption
 ·cases h
theorem Ai0{es:List Entry}(h:¬ B2 es=0):¬ okL es=true:=fun k=>h (by unfold B2;rw[if_pos k])
end Go.Proofs.YtphcaholhacnpaaGreat
namespace Go.E
open Go.RowKit
def Ai1(c:Code):Option (Nat×Nat):=match c with
 | .region _ ops false=>(match ops.toList with
  | o :: _=>(match o.op,o.dst,o.guard with
   | .next (.tmp t) false,some d,none=>some (t,d)
   | _,_,_=>none)
  | []=>none)
 | _=>none
def Ai2(σ:St)(d it:Nat)(B:Blk)(m:AV)(n:Nat)(seen:List Nat):Option Nat→St
 | none=>⟨put σ.slots d (.tup [.b false]),σ.hp⟩
 | some j=>⟨put σ.slots d (.tup [.b true,.dead,.dead]),put σ.hp it { B with k:=.iter m n (seen++[j]) }⟩
def B3b(P:Program)(T:Tab)(nt:Nat)(c:Code)(σ:St)(ks kb:List Nat):Option St:=match A61 P T [] nt (cO c) 1 ((cO c).toList.drop 1) σ with
 | some (rs,[])=>some ((σ.recs rs).norm [] ks kb)
 | _=>none
section
variable {P : Program} {E : Env} {T : Tab} {σ : St} {Q : Exit → St → Prop} {c : Code} {nt : Nat}
theorem B75(cx:Ctx P T E nt)(t0 d it m mv n:Nat)(B M:Blk)(seen:List Nat)(rows:List (List AV))(ks kb:List Nat){σ0:St}{σ1:Nat→St}(hn:n=rows.length)
  (k0:(∀ j,j < rows.length→j∈seen)→Q .normal σ0) (k1:∀ j,j < rows.length→j ∉ seen→Q .normal (σ1 j))
  (h:Ai1 c=some (t0,d)) (hdn:Nat.blt d nt=true) (hs:look σ.slots t0=some (.own it B.ver)) (hB:look σ.hp it=some B) (hBk:B.k=.iter (.own m mv) n seen)
  (hM:look σ.hp m=some M) (hMk:M.k=.map rows) (hMv:M.ver=mv)
  (h0:B3b P T nt c (Ai2 σ d it B (.own m mv) n seen none) ks kb=some σ0) (h1:∀ j,B3b P T nt c (Ai2 σ d it B (.own m mv) n seen (some j)) ks kb=some (σ1 j)):AWP P E c Q σ:=by
 intro a w hr
 cases c with
 | region i ops dr =>
  cases dr with
  | true=>simp [Ai1]at h
  | false =>
   simp only [Ai1]at h
   cases hl:ops.toList with
   | nil=>rw[hl]at h;cases h
   | cons o l =>
    rw[hl]at h
    simp only at h
    split at h
    ·rename_i t' d' ho hd hg
     simp only [Option.some.injEq,Prod.mk.injEq]at h
     obtain⟨rfl,rfl⟩:=h
     have hops:∀ j,(o :: l)[j]?=ops[j]?:=fun j=>by rw[← hl,Array.getElem?_toList]
     have hlen:ops.size=l.length+1:=by rw[← Array.length_toList,hl];rfl
     refine wp_region ?_
     rw[hlen,List.range_eq_range',List.range'_succ,wpOps_cons]
     have h0':ops[0]?=some o:=by rw[← hops];rfl
     unfold wpOp
     rw[h0']
     simp only
     have hw:Region.wanted o (yielded ops a.tmps)=true:=by unfold Region.wanted;rw[hg]
     rw[hw]
     simp only [if_true]
     -- the rest
     have tail:∀(σ' σ2:St),B3b P T nt (.region i ops false) σ' ks kb=some σ2→Q .normal σ2→∀ a' w',Rel E σ' a' w'→wpOps P ops (fun e a' w'=>∃ σ',Q e σ'∧Rel E σ' a' w') (List.range' 1 l.length) a' w':=by
      intro σ' σ2 hR hQ a' w' hrel
      unfold B3b at hR
      have e1:(cO (.region i ops false))=ops:=rfl
      rw[e1,hl]at hR
      simp only [List.drop_succ_cons,List.drop_zero]at hR
      split at hR
      ·rename_i rs hrun
       simp only [Option.some.injEq]at hR
       subst hR
       refine A2z (P:=P) (E:=E) (ovs:=[]) cx.hT l 1 σ' rs [] (fun j=>by rw[← hops,Nat.add_comm 1 j,List.getElem?_cons_succ]) (by rw[cx.hnt];exact hrun) (fun p hp=>by cases hp) (fun a'' w'' h''=>⟨_,hQ,h''.norm [] ks kb⟩) a' w' hrel
      ·cases hR
     obtain⟨pl,hx⟩:=hr
     have hBl:B.live=true:=by simp [Blk.live,hBk]
     have hMl:M.live=true:=by simp [Blk.live,hMk]
     have he:=D6 (hx.ev (x:=.tmp t') hs) hB rfl hBl
     have hb:=hx.blks it B hB
     unfold BlkRel at hb
     rw[hBk]at hb
     obtain⟨gi,r,i1,i0,i2,i3⟩:=hb
     have hm:=D6 i3 hM hMv hMl
     obtain⟨g,es,e1,e0,e2,e3,e4⟩:=hx.mapAt hM hMk
     rw[e1]at hm
     simp only [Value.map.injEq,Option.some.injEq]at hm
     subst hm
     rw[i1]at he
     have hborn:∀(i:Nat) (x:MapEntry),es[i]?=some x→x.born=i∧i < rows.length:=fun i x hx=>by
      have hi':i < rows.length:=by rw[← e3];exact(Array.getElem?_eq_some_iff.1 hx).1
      obtain⟨_,_,e',_,p2,p3,_⟩:=e4 i rows[i] (List.getElem?_eq_getElem hi')
      rw[hx]at p2
      cases p2
      exact⟨p3,hi'⟩
     have hdq:∀ q,o.dst=some q→q < E.nt:=fun q hq=>by
      rw[hd]at hq
      cases hq
      rw[cx.hnt]
      simpa using hdn
     have hnx:=run_next_at (P:=P) w o.type gi r n n seen.toArray es rows.length i2 e2 (fun x hx=>by
      obtain⟨i,hi,rfl⟩:=List.mem_iff_getElem.1 hx
      have hi':i < es.size:=by simpa using hi
      have:=hborn i es[i] (Array.getElem?_eq_getElem hi')
      have e0:es.toList[i]=es[i]:=rfl
      rw[e0]
      omega) (Nat.le_refl _)
     rcases hnx with⟨q0,hrun⟩ | ⟨e,he',w1,hal,hrun⟩
     ·have hall:∀ j,j < rows.length→j∈seen:=fun j hj=>by
       obtain⟨_,_,e,_,p2,p3,_⟩:=e4 j rows[j] (List.getElem?_eq_getElem hj)
       have:=all_seen es seen.toArray q0 e (by simpa using Array.mem_of_getElem? p2)
       rw[p3]at this
       simpa using this
      have hop:(execOp a.eval o).run P w=.ok (.value (.tuple #[.bool false])) w:=by simp [execOp,ho,he,hrun]
      refine .inl <| (Ok.value (σ':=Ai2 σ d' it B (.own m mv) n seen none) hop ⟨pl,?_⟩) _ _ fun a' w' h'=>tail _ _ h0 (k0 hall) a' w' h'
      have:=hx.put (some d') (fun q hq=>hdq q (by rw[hd];exact hq)) (av:=.tup [.b false]) (v:=.tuple #[.bool false]) (.pure _ _ (.tup [_] [_] rfl fun j c u hc hu=>by
       match j with
       | 0=>simp at hc hu;subst hc hu;exact .b _
       | j+1=>simp at hc))
      rw[hd]
      exact this
     ·obtain⟨hem,hes⟩:=mem_left he'
      obtain⟨j,hj,hje⟩:=List.mem_iff_getElem.1 hem
      have hje':es[j]?=some e:=by rw[← hje];simpa using Array.getElem?_eq_getElem (by simpa using hj)
      obtain⟨b1,b2⟩:=hborn j e hje'
      have hns:j ∉ seen:=by rw[b1]at hes;simpa using hes
      have hop:(execOp a.eval o).run P w=.ok (.value (.tuple #[.bool true,e.key,e.val])) (Ap0 w1 gi (.mapIter (some r) n (seen.toArray.push e.born) n)):=by
       simp [execOp,ho,he,hrun,hn]
       rfl
      have hx1:RelX E σ pl a w1∧w1.heap=w.heap:=by
       rcases hal with rfl | rfl
       ·exact⟨hx,rfl⟩
       ·exact⟨(hx.grow (w':=w.drew) ⟨rfl,rfl,rfl,Nat.le_refl _,fun _ _=>rfl⟩).1,rfl⟩
      obtain⟨hx1,hh1⟩:=hx1
      have i2':w1.heap[gi]?=some (.mapIter (some r) n seen.toArray n):=by rw[hh1];exact i2
      have hblk:blkOf (pl it)=some gi:=by rw[i1];rfl
      have hb1:=hx1.blks it B hB
      unfold BlkRel at hb1
      rw[hBk]at hb1
      obtain⟨gi',r',j1,_,j2,j3⟩:=hb1
      have egi:gi'=gi:=by rw[i1]at j1;simpa using j1.symm
      subst egi
      rw[i2']at j2
      simp only [Option.some.injEq,Obj.mapIter.injEq]at j2
      obtain⟨rfl,_⟩:=j2
      have hS:∀ k,SS E (look σ.hp) pl w1 k→(Ap0 w1 gi' (.mapIter (some r) n (seen.toArray.push e.born) n)).heap[k]?=w1.heap[k]?:=fun k hk=>by
       rw[W6]
       intro e
       subst e
       rcases hk with hk | ⟨_,_,h3⟩
       ·have:=E.hS0 _ hk
        omega
       ·exact h3 it B hB hBl hblk
      have hz:=(hx1.chg (w':=Ap0 w1 gi' (.mapIter (some r) n (seen.toArray.push e.born) n)) it { B with k:=.iter (.own m mv) n (seen++[j]) } (pl it)
       (.inr ⟨B,hB,hBl,rfl,by funext r c;simp [Blk.off,hBk],rfl,by simp [Blk.len,hBk]⟩)
       (fun k hk' hne=>by rw[W6];intro e;subst e;exact hne B hB hBl hblk) rfl rfl rfl (by simp [Ap0]) (fun k hk'=>.inr ⟨B,hB,hBl,hk'⟩)
       ⟨gi',r,i1,i0,by rw[A7m i2',b1];simp,j3.mono (A78.refl _ _) (fun _ hk=>by
        rcases hk with hk | ⟨q1,q2,q3⟩
        ·exact .inl hk
        ·exact .inr ⟨q1,q2,q3⟩) hS⟩).1
      have epl:C9 pl it (pl it)=pl:=by funext i;unfold C9;split <;> simp_all
      rw[epl]at hz
      refine .inl <| (Ok.value (σ':=Ai2 σ d' it B (.own m mv) n seen (some j)) hop ⟨pl,?_⟩) _ _ fun a' w' h'=>tail _ _ (h1 j) (k1 j b2 hns) a' w' h'
      have:=hz.put (some d') (fun q hq=>hdq q (by rw[hd];exact hq)) (av:=.tup [.b true,.dead,.dead]) (v:=.tuple #[.bool true,e.key,e.val]) (.pure _ _ (.tup [_,_,_] [_,_,_] rfl fun j c u hc hu=>by
       match j with
       | 0=>simp at hc hu;subst hc hu;exact .b _
       | 1=>simp at hc hu;subst hc hu;exact .dead _
       | 2=>simp at hc hu;subst hc hu;exact .dead _
       | j+3=>simp at hc))
      rw[hd]
      exact this
    ·cases h
 | _=>simp [Ai1]at h
end
end Go.E
namespace Go.Proofs.YtphcaholhacnpaaGreat
open Go.E
set_option maxRecDepth 100000
set_option maxHeartbeats 4000000
def A3y(p:ByteArray×Line):List AV:=[.s p.1,.agg (c61 p.2)]
def invF(es:List Entry)(i:Int)(m:List (ByteArray×Line)):Prop:=0≤i∧i≤es.length∧(m.length:Int)≤i∧m=J9 (es.take i.toNat)
def decF(es:List Entry)(i:Int)(m:List (ByteArray×Line)):Nat:=(es.length-i).toNat
def A5i(m:List (ByteArray×Line))(seen:List Nat)(l:List Line):Prop:=seen.Nodup∧(∀ j∈seen,j < m.length)∧l=seen.map (fun j=>m[j]!.2)
def invS(es:List Entry)(m:List (ByteArray×Line))(l:List Line)(seen:List Nat):Prop:=m=J9 es∧(l.length:Int)=seen.length∧seen.length≤m.length∧A5i m seen l
def decS(m:List (ByteArray×Line))(l:List Line)(seen:List Nat):Nat:=m.length-seen.length
theorem Ac0{e:Entry}(h:N9 e=0):1≤e.qty∧e.qty≤1000000:=by
 unfold N9 at h
 split at h
 ·cases h
 ·split at h
  ·cases h
  ·split at h
   ·cases h
   ·split at h
    ·cases h
    ·omega
theorem R0:∀ {l:List Entry},(∀ e∈l,N9 e=0)→(l.length:Int)≤L3 l∧L3 l≤1000000*l.length
 | [],_=>by simp [L3]
 | e :: l,h=>by
  have h1:=Ac0 (h e (by simp))
  have h2:=R0 (l:=l) fun x hx=>h x (by simp [hx])
  simp only [L3,List.length_cons]
  omega
theorem A02{es:List Entry}(h:B2 es=0):∀ e∈es,N9 e=0:=fun e he=>by
 obtain⟨i,hi,rfl⟩:=List.mem_iff_getElem.1 he
 have:=(U0 (L7 h) hi).1
 rwa [getElem!_pos es i hi]at this
theorem Ao0{l es:List Entry}(h:B2 es=0)(hs:∀ e∈l,e∈es)(s:ByteArray):0≤(lineOf l s).qty∧(lineOf l s).qty≤1000000*l.length∧0≤(lineOf l s).parts∧(lineOf l s).parts≤l.length:=by
 have h1:(F2 l s).length≤l.length:=List.length_filter_le _ _
 have h2:=R0 (l:=F2 l s) fun e he=>A02 h e (hs e (List.mem_filter.1 he).1)
 unfold lineOf
 simp only
 omega
theorem Y0{es:List Entry}(h:B2 es=0){i:Int}(h0:0≤i)(h1:i≤es.length)(s:ByteArray) :
  0≤(lkp s (J9 (es.take i.toNat))).qty∧(lkp s (J9 (es.take i.toNat))).qty≤1000000*i∧0≤(lkp s (J9 (es.take i.toNat))).parts∧(lkp s (J9 (es.take i.toNat))).parts≤i:=by
 have h2:=Ao0 h (l:=es.take i.toNat) (fun e he=>List.mem_of_mem_take he) s
 have h3:=(Ax9 (es.take i.toNat)).lkp s
 rw[h3.1,h3.2]
 rw[List.length_take]at h2
 omega
theorem Ai3{es:List Entry}(h:B2 es=0){i:Int}(h0:0≤i)(h1:i < es.length):1≤es[i.toNat]!.qty∧es[i.toNat]!.qty≤1000000:=Ac0 (U0 (L7 h) (by omega)).1
theorem Ay4{es:List Entry}{i:Int}{m:List (ByteArray×Line)}(h0:0≤i)(h1:(m.length:Int)≤i)(h2:m=J9 (es.take i.toNat))(h3:i < es.length) :
  invF es (i+1) (A4m es[i.toNat]!.sku ⟨es[i.toNat]!.sku,(lkp es[i.toNat]!.sku m).qty+es[i.toNat]!.qty,(lkp es[i.toNat]!.sku m).parts+1⟩ m):=by
 have h4:=Ah7 es[i.toNat]!.sku (B38 es[i.toNat]! (lkp es[i.toNat]!.sku m)) m
 unfold B38 at h4
 refine⟨by omega,by omega,by omega,?_⟩
 rw[← D1 h0 h3,A3r,← h2]
 rfl
theorem A3z{m:List (ByteArray×Line)}{seen:List Nat}{l:List Line}{j:Nat}(h:A5i m seen l)(hj:j < m.length)(hn:¬ j∈seen):A5i m (seen++[j]) (l++[m[j]!.2]):=by
 obtain⟨h1,h2,h3⟩:=h
 refine⟨List.nodup_append.2 ⟨h1,by simp,fun a ha b hb e=>?_⟩,fun k hk=>?_,by rw[h3,List.map_append];rfl⟩
 ·have:b=j:=by simpa using hb
  subst e this
  exact hn ha
 ·rcases List.mem_append.1 hk with k1 | k1
  ·exact h2 k k1
  ·have:k=j:=by simpa using k1
   omega
theorem S8{m:List (ByteArray×Line)}{seen:List Nat}{l:List Line}{j:Nat}(h:A5i m seen l)(hj:j < m.length)(hn:¬ j∈seen):seen.length+1≤m.length:=by
 have h1:=A3z h hj hn
 have:=A6r _ _ h1.1 h1.2.1
 simpa using this
theorem Ao1{m:List (ByteArray×Line)}{seen:List Nat}{l:List Line}(h:A5i m seen l)(ha:∀ j,j < m.length→j∈seen):l.Perm (m.map (·.2)):=by
 obtain⟨h1,h2,h3⟩:=h
 have hp:=(Ay1 h1 h2 ha).map (fun j=>m[j]!.2)
 rw[← h3]at hp
 have e:(List.range m.length).map (fun j=>m[j]!.2)=m.map (·.2):=by
  have:=congrArg (List.map fun p:ByteArray×Line=>p.2) (Ay2 m)
  rw[List.map_map]at this
  exact this
 rwa [e]at hp
theorem con109(es:List Entry)(hs:es.length*40≤140737488351232):Con Tryz.prog 109 [.sl (es.map c46)] (.tup [.sl ((L6 es).1.map c61),.i .i64 (L6 es).2]) :=
 by
 refine lN 0 c46 (es) Tryz.func109 fun hl_0=>sC A6 [.tmp 2,.tmp 3] 61 Tryz.func109 ?_
 intro e0 cx
 refine sq<|rG cx [0] [] z0<|sn<|sq<|sq<|rG cx [0,13] [] (fT (I1 (es)) (tN 2 (B2 es) (0:Int) (oA 1 (.i .i64 (B2 es)) z0)))<|sn<|dC (¬B2 es=0) (fun hh0=>?_) fun hh0=>?_
 refine sq<|rG cx [2,3] [] z0<|sn<|rT<|nR<|qR (.tup [.nl,.i .i64 ((1:Int))]) (A3.tup (ZLe.cons (A3.nl' (show List.map c61 (L6 es).1=[]from ?g1)) (ZLe.cons (A3.eq (show AV.i .i64 1=AV.i .i64 (L6 es).2 from ?g0)) ZLe.nil)));rotate_left 2
 refine sK<|sn<|sq<|rG cx [0,4] [14] z0<|sn<|sq<|sq<|rG cx [4,15,16,17] [14] (tL 1 c46 es z0)<|sn<|bL 0<|sL (X:=Int×List (ByteArray×Line)) (fun x=>⟨[(4,.own 14 0),(15,.sl (List.map c46 es)),(16,.i .i64 ((↑es.length:Int))),(17,.i .i64 (x.1))],[(14,⟨0,217,.map (List.map A3y x.2)⟩)]⟩) (fun x ↦ decF es x.1 x.2) (fun x ↦ invF es x.1 x.2) [4,15,16,17] [14] (((0:Int),[])) (show invF es (0:Int) []from ?g2) ?_;rotate_left
 rintro⟨i1,m2⟩ h_3
 obtain⟨hh4,h5,h6,h7⟩:0≤i1∧i1≤(↑es.length:Int)∧(↑m2.length:Int)≤i1∧m2=J9 (List.take i1.toNat es):=h_3
 refine rE cx [4,15,16,17,18] [14] (zB 0 (i1 <(↑es.length:Int))) (fun h8=>?_) fun h8=>?_
 refine sK<|sn<|sq<|bL 1<|sq<|rG cx [4,15,16,17,6] [14,6] (fA (0≤i1) (fG c46 es i1.toNat (fR 4 (fN 4 4 (oR 0 (c46 es[i1.toNat]!) z0)))))<|sn<|sq<|rg (A:=((if false=true then AV.tup [B0x (A9g { desc:=TypeDesc.struct #[{ name:="Sku",type:=(9:Nat),offset:=(0:Nat),embedded:=false,tag:="",pkgPath:="",byteOffset:=(0:Nat):Field },{ name:="Qty",type:=(3:Nat),offset:=(1:Nat),embedded:=false,tag:="",pkgPath:="",byteOffset:=(16:Nat):Field },{ name:="Parts",type:=(3:Nat),offset:=(2:Nat),embedded:=false,tag:="",pkgPath:="",byteOffset:=(24:Nat):Field }],size:=(3:Nat),bytes:=(32:Nat),zero:=[AV.s { data:=#[]:ByteArray },AV.i .i64 (0:Int),AV.i .i64 (0:Int)]:TI }) es[i1.toNat]!.sku (List.map A3y m2),AV.b (A0a es[i1.toNat]!.sku (List.map A3y m2)).isSome]else B0x (A9g { desc:=TypeDesc.struct #[{ name:="Sku",type:=(9:Nat),offset:=(0:Nat),embedded:=false,tag:="",pkgPath:="",byteOffset:=(0:Nat):Field },{ name:="Qty",type:=(3:Nat),offset:=(1:Nat),embedded:=false,tag:="",pkgPath:="",byteOffset:=(16:Nat):Field },{ name:="Parts",type:=(3:Nat),offset:=(2:Nat),embedded:=false,tag:="",pkgPath:="",byteOffset:=(24:Nat):Field }],size:=(3:Nat),bytes:=(32:Nat),zero:=[AV.s { data:=#[]:ByteArray },AV.i .i64 (0:Int),AV.i .i64 (0:Int)]:TI }) es[i1.toNat]!.sku (List.map A3y m2))=AV.agg [AV.s (lkp es[i1.toNat]!.sku m2).sku,AV.i .i64 (lkp es[i1.toNat]!.sku m2).qty,AV.i .i64 (lkp es[i1.toNat]!.sku m2).parts])∧(A7a Tryz.prog (61:Nat) (A9g { desc:=TypeDesc.struct #[{ name:="Sku",type:=(9:Nat),offset:=(0:Nat),embedded:=false,tag:="",pkgPath:="",byteOffset:=(0:Nat):Field },{ name:="Qty",type:=(3:Nat),offset:=(1:Nat),embedded:=false,tag:="",pkgPath:="",byteOffset:=(16:Nat):Field },{ name:="Parts",type:=(3:Nat),offset:=(2:Nat),embedded:=false,tag:="",pkgPath:="",byteOffset:=(24:Nat):Field }],size:=(3:Nat),bytes:=(32:Nat),zero:=[AV.s { data:=#[]:ByteArray },AV.i .i64 (0:Int),AV.i .i64 (0:Int)]:TI }))) cx [(3,{ tell:=some (.agg [.s ((lkp es[i1.toNat]!.sku m2).sku),.i .i64 ((lkp es[i1.toNat]!.sku m2).qty),.i .i64 ((lkp es[i1.toNat]!.sku m2).parts)]) })] [4,15,16,17,6,7] [14,6,7] ⟨(Aq6 (enc:=A3y) (fun b ↦ AV.agg [AV.s b.sku,AV.i .i64 b.qty,AV.i .i64 b.parts]) (fun _=>rfl) rfl (es[i1.toNat]!.sku) (m2)),(show _=_ from by kernel_rfl)⟩<|sn<|sq<|rG cx [4,15,16,17,6,7] [14,6,7] z0<|sn<|sq<|rG cx [4,15,16,17,6,7] [14,6,7] (tT 4 (C1 ?g3 ?g4:AV.i .i64 (IntKind.i64.wrap ((lkp es[i1.toNat]!.sku m2).qty+es[i1.toNat]!.qty))=AV.i .i64 ((lkp es[i1.toNat]!.sku m2).qty+es[i1.toNat]!.qty)) z0) ?_;rotate_left 2
 refine sn<|sq<|rG cx [4,15,16,17,6,7] [14,6,7] (tT 2 (C1 ?g5 ?g6:AV.i .i64 (IntKind.i64.wrap ((lkp es[i1.toNat]!.sku m2).parts+1))=AV.i .i64 ((lkp es[i1.toNat]!.sku m2).parts+1)) z0) ?_;rotate_left 2
 refine sn<|rG cx [4,15,16,17] [14] (fP (A1c es[i1.toNat]!.sku (AV.agg [AV.s es[i1.toNat]!.sku,AV.i .i64 ((lkp es[i1.toNat]!.sku m2).qty+es[i1.toNat]!.qty),AV.i .i64 ((lkp es[i1.toNat]!.sku m2).parts+1)]) (List.map A3y m2)=List.map A3y (A4m es[i1.toNat]!.sku { sku:=es[i1.toNat]!.sku,qty:=(lkp es[i1.toNat]!.sku m2).qty+es[i1.toNat]!.qty,parts:=(lkp es[i1.toNat]!.sku m2).parts+1:Line } m2)) (Ae4 (enc:=A3y) (fun b ↦ AV.agg [AV.s b.sku,AV.i .i64 b.qty,AV.i .i64 b.parts]) (fun _=>rfl) (es[i1.toNat]!.sku) ({ sku:=es[i1.toNat]!.sku,qty:=(lkp es[i1.toNat]!.sku m2).qty+es[i1.toNat]!.qty,parts:=(lkp es[i1.toNat]!.sku m2).parts+1:Line }) (m2)) (oV 4 { rows:=some (List.map A3y (A4m es[i1.toNat]!.sku { sku:=es[i1.toNat]!.sku,qty:=(lkp es[i1.toNat]!.sku m2).qty+es[i1.toNat]!.qty,parts:=(lkp es[i1.toNat]!.sku m2).parts+1:Line } m2)) } z0))<|bN<|sn<|rG cx [4,15,16,17] [14] (tW 0 (i1+1) z0)<|sn<|nX ((i1+1,A4m es[i1.toNat]!.sku { sku:=es[i1.toNat]!.sku,qty:=(lkp es[i1.toNat]!.sku m2).qty+es[i1.toNat]!.qty,parts:=(lkp es[i1.toNat]!.sku m2).parts+1:Line } m2)) (show((↑es.length:Int)-(i1+1)).toNat <((↑es.length:Int)-i1).toNat from(by omega)) (show invF es (i1+1) (A4m es[i1.toNat]!.sku { sku:=es[i1.toNat]!.sku,qty:=(lkp es[i1.toNat]!.sku m2).qty+es[i1.toNat]!.qty,parts:=(lkp es[i1.toNat]!.sku m2).parts+1:Line } m2)from ?g7);rotate_left
 refine eX 0<|nE<|nE<|bH<|sn<|sq<|rG cx [4,8] [14,45,8] (tL 1 A3y m2 (fR (0:Int) (fR (↑m2.length:Int) (fO ((32:Nat)*m2.length≤(281474976710656:Nat)) (fP (m2.length≤maxLen) (by(simp only [Go.maxLen];omega)) (oV 2 { n:=m2.length,flat:=true } z0))))))<|sn<|sq<|sq<|rG cx [8,47] [14,45,8,47] z0<|sn<|bL 2<|sL (X:=List (ByteArray×Line)×List Line×List Nat) (fun x=>⟨[(8,.ptr (8) (0) (0) (0)),(47,.own 47 0)],[(14,⟨0,217,.map (List.map A3y x.1)⟩),(45,⟨0,61,.row 3 (List.map c61 x.2.1)⟩),(8,⟨0,167,.var [.own 45 0]⟩),(47,⟨0,217,.iter (.own 14 0) ((List.map A3y m2).length) (x.2.2)⟩)]⟩) (fun x ↦ decS x.1 x.2.1 x.2.2) (fun x ↦ invS es x.1 x.2.1 x.2.2) [8,47] [14,45,8,47] ((m2,[],[])) (show invS es m2 [] []from ?g8) ?_;rotate_left
 rintro⟨m9,l10,s11⟩ h_12
 obtain⟨h13,h14,h15,h16⟩:m9=J9 es∧(↑l10.length:Int)=(↑s11.length:Int)∧s11.length≤m9.length∧A5i m9 s11 l10:=h_12
 refine sq<|B75 cx 47 48 47 14 0 ((List.map A3y m2).length) ⟨0,217,.iter (.own 14 0) ((List.map A3y m2).length) (s11)⟩ ⟨0,217,.map (List.map A3y m9)⟩ (s11) (List.map A3y m9) [8,47,49] [14,45,8,47] (σ0:=⟨[(8,.ptr (8) (0) (0) (0)),(47,.own 47 0),(49,.b (false))],[(14,⟨0,217,.map (List.map A3y m9)⟩),(45,⟨0,61,.row 3 (List.map c61 l10)⟩),(8,⟨0,167,.var [.own 45 0]⟩),(47,⟨0,217,.iter (.own 14 0) ((List.map A3y m2).length) (s11)⟩)]⟩) (σ1:=fun j18=>⟨[(8,.ptr (8) (0) (0) (0)),(47,.own 47 0),(49,.b (true))],[(14,⟨0,217,.map (List.map A3y m9)⟩),(45,⟨0,61,.row 3 (List.map c61 l10)⟩),(8,⟨0,167,.var [.own 45 0]⟩),(47,⟨0,217,.iter (.own 14 0) ((List.map A3y m2).length) (s11++[j18])⟩)]⟩) ?g9 (fun h_17=>?_) (fun j18 h19 h20=>?_) (by kernel_rfl) (by kernel_rfl) (by kernel_rfl) (by kernel_rfl) (by kernel_rfl) (by kernel_rfl) (by kernel_rfl) (by kernel_rfl) (by kernel_rfl) (fun _=>by kernel_rfl);rotate_left
 refine sn<|sq<|X0 (by kernel_rfl) (by kernel_rfl)<|eX 2<|nE<|nE<|bH<|sn<|sq ?_
 have hl_21:=(B37 l10)
 refine rG cx [8] [45,8] (fR (AV.own (45) (0)) (fP (U9 Tryz.prog (176:FuncId) (177:FuncId) (some (167:Nat)) true (61:Nat) (3:Nat) (List.map c61 l10) (List.map c61 (A1p l10))) (io176 (l10) ?g10) (oV 3 { rows:=some (List.map c61 (A1p l10)) } z0))) ?_;rotate_left
 refine sn<|sq<|rG cx [2,3] [45] z0<|sn<|rT<|qR (.tup [.sl (List.map c61 (A1p l10)),.i .i64 ((0:Int))]) (A3.tup (ZLe.cons (A3.eq (show AV.sl (List.map c61 (A1p l10))=AV.sl (List.map c61 (L6 es).1)from ?g12)) (ZLe.cons (A3.eq (show AV.i .i64 0=AV.i .i64 (L6 es).2 from ?g11)) ZLe.nil)));rotate_left 2
 refine sn<|sq<|As6 (by kernel_rfl) (by kernel_rfl)<|sK<|sn<|bL 3<|sq<|rG cx [8,47,10] [14,45,8,47,10] (fP ((List.map A3y m2).length=(List.map A3y m9).length) ?g13 (fP (A1e (List.map A3y m9) (s11++[j18]) [AV.s m9[j18]!.1,AV.agg [AV.s m9[j18]!.2.sku,AV.i .i64 m9[j18]!.2.qty,AV.i .i64 m9[j18]!.2.parts]]) (by(refine Aq7 ?_ rfl;simp only [List.length_map]at *;omega)) (oR 0 [.s (m9[j18]!.1),.agg [.s (m9[j18]!.2.sku),.i .i64 (m9[j18]!.2.qty),.i .i64 (m9[j18]!.2.parts)]] z0))) ?_;rotate_left
 refine sn<|rG cx [8,47] [14,45,8,47] (fR 61 (fR 3 (fR 3 (fX c61 [m9[j18]!.2] 3 (fP ((List.map c61 l10).length+(List.map c61 [m9[j18]!.2]).length≤maxLen) ?g14 (fP (((List.map c61 l10).length+(List.map c61 [m9[j18]!.2]).length)*(32:Nat)≤(140737488355328:Nat)) ?g15 (fM c61 l10 [m9[j18]!.2] (oV 3 { rows:=some (List.map c61 (l10++[m9[j18]!.2])) } z0)))))))) ?_;rotate_left 2
 refine bN<|sn<|nX ((m9,l10++[m9[j18]!.2],s11++[j18])) (show m9.length-(s11++[j18]).length < m9.length-s11.length from ?g16) (show invS es m9 (l10++[m9[j18]!.2]) (s11++[j18])from ?g17);rotate_left 2
 revert hh0;rotate_left
 revert hh0;rotate_left
 revert hh0;rotate_left
 revert hh0 i1 m2 hh4 h5 h6 h7 h8;rotate_left
 revert hh0 i1 m2 hh4 h5 h6 h7 h8;rotate_left
 revert hh0 i1 m2 hh4 h5 h6 h7 h8;rotate_left
 revert hh0 i1 m2 hh4 h5 h6 h7 h8;rotate_left
 revert hh0 i1 m2 hh4 h5 h6 h7 h8;rotate_left
 revert hh0 i1 m2 hh4 h5 h6 h7 h8;rotate_left
 revert hh0 i1 m2 hh4 h5 h6 h7 h8 m9 l10 s11 h13 h14 h15 h16;rotate_left
 clear hl_21;revert hh0 i1 m2 hh4 h5 h6 h7 h8 m9 l10 s11 h13 h14 h15 h16 h_17;rotate_left
 clear hl_21;revert hh0 i1 m2 hh4 h5 h6 h7 h8 m9 l10 s11 h13 h14 h15 h16 h_17;rotate_left
 clear hl_21;revert hh0 i1 m2 hh4 h5 h6 h7 h8 m9 l10 s11 h13 h14 h15 h16 h_17;rotate_left
 revert hh0 i1 m2 hh4 h5 h6 h7 h8 m9 l10 s11 h13 h14 h15 h16 j18 h19 h20;rotate_left
 revert hh0 i1 m2 hh4 h5 h6 h7 h8 m9 l10 s11 h13 h14 h15 h16 j18 h19 h20;rotate_left
 revert hh0 i1 m2 hh4 h5 h6 h7 h8 m9 l10 s11 h13 h14 h15 h16 j18 h19 h20;rotate_left
 revert hh0 i1 m2 hh4 h5 h6 h7 h8 m9 l10 s11 h13 h14 h15 h16 j18 h19 h20;rotate_left
 revert hh0 i1 m2 hh4 h5 h6 h7 h8 m9 l10 s11 h13 h14 h15 h16 j18 h19 h20;rotate_left
 case g0=>intro h;rw[A8p h]
 case g1=>intro h;rw[A8p h];rfl
 case g2=>intro _;exact⟨by omega,by omega,by simp,by simp [J9]⟩
 case g3=>intro h i m h0 h1 h2 h3 h4;subst h3;have:=Y0 (Classical.not_not.1 h) h0 h1 es[i.toNat]!.sku;have:=Ai3 (Classical.not_not.1 h) h0 h4;omega
 case g4=>intro h i m h0 h1 h2 h3 h4;subst h3;have:=Y0 (Classical.not_not.1 h) h0 h1 es[i.toNat]!.sku;have:=Ai3 (Classical.not_not.1 h) h0 h4;omega
 case g5=>intro h i m h0 h1 h2 h3 h4;subst h3;have:=Y0 (Classical.not_not.1 h) h0 h1 es[i.toNat]!.sku;omega
 case g6=>intro h i m h0 h1 h2 h3 h4;subst h3;have:=Y0 (Classical.not_not.1 h) h0 h1 es[i.toNat]!.sku;omega
 case g7=>intro h i m h0 h1 h2 h3 h4;exact Ay4 h0 h2 h3 h4
 case g8 =>
  intro h i m h0 h1 h2 h3 h4
  refine⟨by rw[h3,List.take_of_length_le (by omega)],by simp,by simp,⟨by simp,by simp,rfl⟩⟩
 case g9=>intro h i m h0 h1 h2 h3 h4 m' l s k0 k1 k2 k3;rw[k0,h3,List.take_of_length_le (by omega)]
 case g13=>intro h i m h0 h1 h2 h3 h4 m' l s k0 k1 k2 k3;intros;rw[k0,h3,List.take_of_length_le (by omega)]
 case g10=>intro h i m h0 h1 h2 h3 h4 m' l s k0 k1 k2 k3;intros;have:=A3t es;subst k0;omega
 case g11=>intro h i m h0 h1 h2 h3 h4 m' l s k0 k1 k2 k3;intros;rw[A8o (Classical.not_not.1 h)]
 case g12 =>
  intro h i m h0 h1 h2 h3 h4 m' l s k0 k1 k2 k3 ha
  rw[A8o (Classical.not_not.1 h)]
  subst k0
  rw[Ab8 (Ao1 k3 fun j hj=>ha j (by rw[List.length_map];exact hj))]
 case g14 =>
  intro h i m h0 h1 h2 h3 h4 m' l s k0 k1 k2 k3 j hj hn
  have:=S8 k3 (by rw[List.length_map]at hj;exact hj) hn
  have:=A3t es
  subst k0
  simp only [List.length_map,List.length_cons,List.length_nil,Go.maxLen]
  omega
 case g15 =>
  intro h i m h0 h1 h2 h3 h4 m' l s k0 k1 k2 k3 j hj hn
  have:=S8 k3 (by rw[List.length_map]at hj;exact hj) hn
  have:=A3t es
  subst k0
  simp only [List.length_map,List.length_cons,List.length_nil]
  omega
 case g16 =>
  intro h i m h0 h1 h2 h3 h4 m' l s k0 k1 k2 k3 j hj hn
  have:=S8 k3 (by rw[List.length_map]at hj;exact hj) hn
  rw[List.length_append,List.length_cons,List.length_nil]
  omega
 case g17 =>
  intro h i m h0 h1 h2 h3 h4 m' l s k0 k1 k2 k3 j hj hn
  rw[List.length_map]at hj
  have:=S8 k3 hj hn
  exact⟨k0,by rw[List.length_append,List.length_append];simp;omega,by rw[List.length_append];simpa using this,A3z k3 hj hn⟩
end Go.Proofs.YtphcaholhacnpaaGreat
namespace Go.Proofs.YtphcaholhacnpaaGreat
open Go.E
set_option maxRecDepth 100000
set_option maxHeartbeats 4000000
theorem Ac1{a b:Dot}:dLt a b=true↔a.rep < b.rep∨a.rep=b.rep∧a.num < b.num:=by simp [dLt]
theorem A1s(a:Dot):¬ dLt a a=true:=by rw[Ac1];omega
theorem A8r{a b c:Dot}(h1:dLt a b=true)(h2:dLt b c=true):dLt a c=true:=by rw[Ac1]at *;omega
theorem A8s{a b:Dot}(h1:¬ dLt a b=true)(h2:¬ dLt b a=true):a=b:=by
 rw[Ac1]at *
 cases a;cases b
 simp only at *
 congr 1 <;> omega
def upE(es:List Entry):Prop:=es.Pairwise (fun a b=>dLt a.dot b.dot=true)
def S9(es:List Entry):Prop:=(∀ e∈es,N9 e=0)∧upE es
theorem B76(es:List Entry):okL es=true↔S9 es:=by
 constructor
 ·intro h
  refine⟨fun e he=>?_,?_⟩
  ·obtain⟨i,hi,rfl⟩:=List.mem_iff_getElem.1 he
   have:=(U0 h hi).1
   rwa [getElem!_pos es i hi]at this
  ·unfold upE
   rw[List.pairwise_iff_getElem]
   have step:∀ n i:Nat,(hi:i+n+1 < es.length)→dLt es[i]!.dot es[i+n+1]!.dot=true:=by
    intro n
    induction n with
    | zero =>
     intro i hi
     have:=(U0 h hi).2
     rcases this with k | k
     ·omega
     ·simpa using k
    | succ n ih =>
     intro i hi
     have h1:=ih i (by omega)
     have h2:=(U0 h (i:=i+(n+1)+1) hi).2
     rcases h2 with k | k
     ·omega
     ·rw[show i+(n+1)+1-1=i+n+1 by omega]at k;exact A8r h1 k
   intro i j hi hj hij
   have:=step (j-i-1) i (by omega)
   rw[show i+(j-i-1)+1=j by omega,getElem!_pos es i hi,getElem!_pos es j hj]at this
   exact this
 ·rintro⟨h1,h2⟩
  unfold upE at h2
  rw[List.pairwise_iff_getElem]at h2
  unfold okL
  rw[I0]
  intro i hi
  rw[A2j]
  refine⟨h1 _ (A6c hi),?_⟩
  by_cases e:i=0
  ·exact .inl e
  ·refine .inr ?_
   have:=h2 (i-1) i (by omega) hi (by omega)
   rwa [getElem!_pos es (i-1) (by omega),getElem!_pos es i hi]
theorem F8(es:List Entry):B2 es=0↔S9 es:=by
 rw[← B76]
 exact⟨L7,fun h=>by unfold B2;rw[if_pos h]⟩
theorem R1{l es:List Entry}(h:S9 es)(hs:l.Sublist es):S9 l:=⟨fun e he=>h.1 e (hs.subset he),List.Pairwise.sublist hs h.2⟩
theorem A40{es:List Entry}(h:S9 es){x y:Entry}(hx:x∈es)(hy:y∈es)(hd:x.dot=y.dot):x=y:=by
 obtain⟨i,hi,rfl⟩:=List.mem_iff_getElem.1 hx
 obtain⟨j,hj,rfl⟩:=List.mem_iff_getElem.1 hy
 have hp:=List.pairwise_iff_getElem.1 h.2
 by_cases e:i=j
 ·subst e;rfl
 ·rcases Nat.lt_or_gt_of_ne e with e | e
  ·have:=hp i j hi hj e;rw[hd]at this;exact absurd this (A1s _)
  ·have:=hp j i hj hi e;rw[hd]at this;exact absurd this (A1s _)
theorem R2:∀ {a b:List Entry},upE a→upE b→(∀ e,e∈a↔e∈b)→a=b
 | [],[],_,_,_=>rfl
 | [],y :: b,_,_,h=>by have:=(h y).2 (by simp);cases this
 | x :: a,[],_,_,h=>by have:=(h x).1 (by simp);cases this
 | x :: a,y :: b,ha,hb,h=>by
  have pa:=List.pairwise_cons.1 ha
  have pb:=List.pairwise_cons.1 hb
  have e:x=y:=by
   apply Classical.byContradiction
   intro hne
   have h1:x∈b:=by
    rcases List.mem_cons.1 ((h x).1 (by simp))with k | k
    ·exact absurd k hne
    ·exact k
   have h2:y∈a:=by
    rcases List.mem_cons.1 ((h y).2 (by simp))with k | k
    ·exact absurd k.symm hne
    ·exact k
   exact A1s _ (A8r (pa.1 y h2) (pb.1 x h1))
  subst e
  rw[R2 pa.2 pb.2 fun e=>?_]
  constructor
  ·intro he
   rcases List.mem_cons.1 ((h e).1 (by simp [he]))with k | k
   ·subst k;exact absurd (pa.1 e he) (A1s _)
   ·exact k
  ·intro he
   rcases List.mem_cons.1 ((h e).2 (by simp [he]))with k | k
   ·subst k;exact absurd (pb.1 e he) (A1s _)
   ·exact k
end Go.Proofs.YtphcaholhacnpaaGreat
namespace Go.Proofs.YtphcaholhacnpaaGreat
open Go.E
set_option maxRecDepth 100000
set_option maxHeartbeats 4000000
def B4(es:List Entry)(s:ByteArray):Line×Int:=if B2 es=0 then(if J6 s=true then(if F2 es s=[]then(default,0)else(lineOf es s,0))else(default,5))else(default,1)
def M3(es:List Entry):Int×Int:=if B2 es=0 then(L3 es,0)else(0,1)
theorem Ac2{es:List Entry}(h:¬ B2 es=0):M3 es=(0,1):=by unfold M3;rw[if_neg h]
theorem A03{es:List Entry}(h:B2 es=0):M3 es=(L3 es,0):=by unfold M3;rw[if_pos h]
theorem Ay5{es:List Entry}{i:Int}(h0:0≤i)(h:i < es.length):L3 (es.take (i+1).toNat)=L3 (es.take i.toNat)+es[i.toNat]!.qty:=by
 rw[← D1 h0 h,A6q]
 simp [L3]
theorem A5j{es:List Entry}(h:B2 es=0){i:Int}(h0:0≤i)(h1:i≤es.length):0≤L3 (es.take i.toNat)∧L3 (es.take i.toNat)≤1000000*i:=by
 have h2:=R0 (l:=es.take i.toNat) fun e he=>A02 h e (List.mem_of_mem_take he)
 rw[List.length_take]at h2
 omega
theorem Ai4(es:List Entry)(s:ByteArray):(B2 es=0∧J6 s=true∧ofV es s=(F2 es s,0))∨(¬(B2 es=0∧J6 s=true)∧¬(ofV es s).2=0∧B4 es s=(default,(ofV es s).2)):=by
 by_cases h:B2 es=0
 ·by_cases g:J6 s=true
  ·exact .inl ⟨h,g,A5h h g⟩
  ·refine .inr ⟨fun k=>g k.2,by rw[A6s h g];decide,?_⟩
   unfold B4
   rw[if_pos h,if_neg g,A6s h g]
 ·refine .inr ⟨fun k=>h k.1,by rw[A2k h];decide,?_⟩
  unfold B4
  rw[if_neg h,A2k h]
theorem A8t{es:List Entry}{s:ByteArray}(h:¬(ofV es s).2=0∨((ofV es s).1.length:Int)=0):B4 es s=(default,(ofV es s).2):=by
 rcases Ai4 es s with⟨h1,h2,h3⟩ | ⟨_,_,h3⟩
 ·rw[h3]at h ⊢
  rcases h with h | h
  ·exact absurd rfl h
  ·have:F2 es s=[]:=List.eq_nil_of_length_eq_zero (by simp only at h;omega)
   unfold B4
   rw[if_pos h1,if_pos h2,if_pos this]
 ·exact h3
theorem A8u{es:List Entry}{s:ByteArray}(h:¬(¬(ofV es s).2=0∨((ofV es s).1.length:Int)=0)):B2 es=0∧ofV es s=(F2 es s,0)∧B4 es s=(lineOf es s,0)∧B2 (F2 es s)=0:=by
 rcases Ai4 es s with⟨h1,h2,h3⟩ | ⟨_,h2,_⟩
 ·refine⟨h1,h3,?_,(F8 _).2 (R1 ((F8 _).1 h1) List.filter_sublist)⟩
  unfold B4
  rw[if_pos h1,if_pos h2,if_neg]
  intro k
  apply h
  rw[h3,k]
  exact .inr rfl
 ·exact absurd (.inl h2) h
def invT(es:List Entry)(n i:Int):Prop:=0≤i∧i≤es.length∧n=L3 (es.take i.toNat)
def decT(es:List Entry)(n i:Int):Nat:=(es.length-i).toNat
theorem Ay6{es:List Entry}{n i:Int}(h0:0≤i)(h2:n=L3 (es.take i.toNat))(h:i < es.length):invT es (n+es[i.toNat]!.qty) (i+1):=⟨by omega,by omega,by rw[Ay5 h0 h,h2]⟩
theorem B3c{es:List Entry}{n i:Int}(h2:n=L3 (es.take i.toNat))(h:¬ i < es.length):n=L3 es:=by rw[h2,List.take_of_length_le (by omega)]
theorem Ay7(es:List Entry)(hs:es.length*40≤140737488351232):Con Tryz.prog 101 [.sl (es.map c46)] (.tup [.i .i64 (M3 es).1,.i .i64 (M3 es).2]) :=
 by
 refine lN 0 c46 (es) Tryz.func101 fun hl_0=>sC A6 [.tmp 2,.tmp 3] 22 Tryz.func101 ?_
 intro e0 cx
 refine sq<|rG cx [0] [] z0<|sn<|sq<|sq<|rG cx [0,9] [] (fT (I1 (es)) (tN 2 (B2 es) (0:Int) (oA 1 (.i .i64 (B2 es)) z0)))<|sn<|dC (¬B2 es=0) (fun hh0=>?_) fun hh0=>?_
 refine sq<|rG cx [2,3] [] z0<|sn<|rT<|nR<|qR (.tup [.i .i64 ((0:Int)),.i .i64 ((1:Int))]) (A3.tup (ZLe.cons (A3.eq (show AV.i .i64 0=AV.i .i64 (M3 es).1 from(by rw[Ac2 hh0]))) (ZLe.cons (A3.eq (show AV.i .i64 1=AV.i .i64 (M3 es).2 from(by rw[Ac2 hh0]))) ZLe.nil)))
 refine sK<|sn<|sq<|rG cx [0,4] [] z0<|sn<|sq<|sq<|rG cx [4,10,11,12] [] (tL 1 c46 es z0)<|sn<|bL 0<|sL (X:=Int×Int) (fun x=>⟨[(4,.i .i64 (x.1)),(10,.sl (List.map c46 es)),(11,.i .i64 ((↑es.length:Int))),(12,.i .i64 (x.2))],[]⟩) (fun x ↦ decT es x.1 x.2) (fun x ↦ invT es x.1 x.2) [4,10,11,12] [] (((0:Int),(0:Int))) (show invT es (0:Int) (0:Int)from(by exact⟨by omega,by omega,rfl⟩)) ?_
 rintro⟨n1,i2⟩ h_3
 obtain⟨h4,h5,h6⟩:0≤i2∧i2≤(↑es.length:Int)∧n1=L3 (List.take i2.toNat es):=h_3
 refine rE cx [4,10,11,12,13] [] (zB 0 (i2 <(↑es.length:Int))) (fun h7=>?_) fun h7=>?_
 refine sK<|sn<|sq<|bL 1<|sq<|rG cx [4,10,11,12,6] [6] (fA (0≤i2) (fG c46 es i2.toNat (fR 4 (fN 4 4 (oR 0 (c46 es[i2.toNat]!) z0)))))<|sn<|rG cx [4,10,11,12] [] (tT 3 (C1 (by have:=A5j (Classical.not_not.1 hh0) h4 h5;have:=Ai3 (Classical.not_not.1 hh0) h4 h7;omega) (by have:=A5j (Classical.not_not.1 hh0) h4 h5;have:=Ai3 (Classical.not_not.1 hh0) h4 h7;omega):AV.i .i64 (IntKind.i64.wrap (n1+es[i2.toNat]!.qty))=AV.i .i64 (n1+es[i2.toNat]!.qty)) z0) ?_
 refine bN<|sn<|rG cx [4,10,11,12] [] (tW 0 (i2+1) z0)<|sn<|nX ((n1+es[i2.toNat]!.qty,i2+1)) (show((↑es.length:Int)-(i2+1)).toNat <((↑es.length:Int)-i2).toNat from(by omega)) (show invT es (n1+es[i2.toNat]!.qty) (i2+1)from(by exact Ay6 h4 h6 h7))
 refine eX 0<|nE<|nE<|bH<|sn<|sq<|rG cx [2,3] [] z0<|sn<|rT<|qR (.tup [.i .i64 (n1),.i .i64 ((0:Int))]) (A3.tup (ZLe.cons (A3.eq (show AV.i .i64 n1=AV.i .i64 (M3 es).1 from(by rw[A03 (Classical.not_not.1 hh0),B3c h6 h7]))) (ZLe.cons (A3.eq (show AV.i .i64 0=AV.i .i64 (M3 es).2 from(by rw[A03 (Classical.not_not.1 hh0)]))) ZLe.nil)))
theorem con25(es:List Entry)(s:ByteArray)(hs:es.length*40≤140737488351232):Con Tryz.prog 25 [.sl (es.map c46),.s s] (.tup [.agg (c61 (B4 es s).1),.i .i64 (B4 es s).2]) :=
 by
 refine lN 0 c46 (es) Tryz.func25 fun hl_0=>sC A6 [.cell 4 61,.tmp 5] 35 Tryz.func25 ?_
 intro e0 cx
 refine sq<|rG cx [0,1,4] [4] z0<|sn<|sq ?_
 have hl_0:=(K7 es)
 have hl_1:=(K7 es s)
 refine rG cx [1,4,6,7] [4] (fT (B4y (es) (s) (by(with_reducible assumption))) (oA 2 (.tup [.sl (List.map c46 (ofV es s).1),.i .i64 ((ofV es s).2)]) z0))<|sn<|sq<|sq<|A7 (σ':=⟨[(1,.s (s)),(4,.ptr (4) (0) (0) (0)),(6,.sl (List.map c46 (ofV es s).1)),(7,.i .i64 ((ofV es s).2)),(22,.b (decide (¬(ofV es s).2=0∨(↑(ofV es s).1.length:Int)=0)))],[(4,⟨0,61,.var [.s ({ data:=#[]:ByteArray }),.i .i64 ((0:Int)),.i .i64 ((0:Int))]⟩)]⟩) ?_ ?_
 refine A2 (¬(ofV es s).2=0) (fun h_3=>?_) (fun h_3=>?_)
 refine rG cx [1,4,6,7,22] [4] (tT 1 (E1 h_3:AV.b ((ofV es s).2 !=0)=AV.b true) (tD 6 true (¬(ofV es s).2=0∨(↑(ofV es s).1.length:Int)=0) (by simp only [eq_false h_3,tsl]) z0)) ?_
 exact⟨rfl,by kernel_rfl⟩
 refine rG cx [1,4,6,7,22] [4] (tN 1 ((ofV es s).2) (0:Int) (tT 2 (A0 h_3) (tL 4 c46 ((ofV es s).1) (tB 5 ((↑(ofV es s).1.length:Int)=0) (tT 6 (by first | (simp only [eq_false h_3,tsl];done) | simp_all:AV.b (decide ((↑(ofV es s).1.length:Int)=0))=AV.b (decide (¬(ofV es s).2=0∨(↑(ofV es s).1.length:Int)=0))) z0))))) ?_
 exact⟨rfl,by kernel_rfl⟩
 refine sn<|dC (¬(ofV es s).2=0∨(↑(ofV es s).1.length:Int)=0) (fun hh4=>?_) fun hh4=>?_
 refine sq<|rG cx [4,5] [4] z0<|sn<|rT<|nR<|qR (.tup [.agg [.s ({ data:=#[]:ByteArray }),.i .i64 ((0:Int)),.i .i64 ((0:Int))],.i .i64 ((ofV es s).2)]) (A3.tup (ZLe.cons (A3.eq (show AV.agg [AV.s { data:=#[]:ByteArray },AV.i .i64 (0:Int),AV.i .i64 (0:Int)]=AV.agg [AV.s (B4 es s).1.sku,AV.i .i64 (B4 es s).1.qty,AV.i .i64 (B4 es s).1.parts]from(by rw[A8t hh4];rfl))) (ZLe.cons (A3.eq (show AV.i .i64 (ofV es s).2=AV.i .i64 (B4 es s).2 from(by rw[A8t hh4]))) ZLe.nil)))
 refine sK<|sn<|sq<|rG cx [1,4,6,8] [4] (fT (Ay7 ((ofV es s).1) (by omega)) (oA 1 (.tup [.i .i64 ((M3 (ofV es s).1).1),.i .i64 ((M3 (ofV es s).1).2)]) z0))<|sn<|sq<|rG cx [4,5] [4] (tL 3 c46 ((ofV es s).1) z0)<|sn<|rT<|qR (.tup [.agg [.s (s),.i .i64 ((M3 (ofV es s).1).1),.i .i64 ((↑(ofV es s).1.length:Int))],.i .i64 ((0:Int))]) (A3.tup (ZLe.cons (A3.eq (show AV.agg [AV.s s,AV.i .i64 (M3 (ofV es s).1).1,AV.i .i64 (↑(ofV es s).1.length:Int)]=AV.agg [AV.s (B4 es s).1.sku,AV.i .i64 (B4 es s).1.qty,AV.i .i64 (B4 es s).1.parts]from ?g3)) (ZLe.cons (A3.eq (show AV.i .i64 0=AV.i .i64 (B4 es s).2 from(by rw[(A8u hh4).2.2.1]))) ZLe.nil)));rotate_left
 case g3 =>
  obtain⟨h1,h2,h3,h4⟩:=A8u hh4
  rw[h2,h3]
  simp only
  rw[A03 h4]
  rfl
end Go.Proofs.YtphcaholhacnpaaGreat
namespace Go.Proofs.YtphcaholhacnpaaGreat
open Go.E
set_option maxRecDepth 100000
set_option maxHeartbeats 4000000
def C3(es:List Entry):Past×Int:=if okL es=true then(I9 (ofT (es.map fun e=>e.dot)),0)else(⟨[],[]⟩,1)
def D3(es:List Entry)(p:Past)(t:Bool):List Entry×Int:=if okL es=true∧p=A4 p then(es.filter (fun e=>D7 p e.dot == t),0)else([],1)
theorem A2l{es:List Entry}(h:¬ B2 es=0):C3 es=(⟨[],[]⟩,1):=by unfold C3;rw[if_neg (Ai0 h)]
theorem Y1{es:List Entry}(h:B2 es=0):C3 es=(I9 (ofT (es.map fun e=>e.dot)),0):=by unfold C3;rw[if_pos (L7 h)]
theorem Ai5{es:List Entry}{p:Past}{t:Bool}(h:¬ B2 es=0∨¬ p=A4 p):D3 es p t=([],1):=by
 unfold D3
 rw[if_neg]
 rintro⟨h1,h2⟩
 exact h.elim (fun k=>Ai0 k h1) (fun k=>k h2)
theorem A6w{es:List Entry}{p:Past}{t:Bool}(h:B2 es=0)(h2:p=A4 p):D3 es p t=(es.filter (fun e=>D7 p e.dot == t),0):=by unfold D3;rw[if_pos ⟨L7 h,h2⟩]
def A8v(es:List Entry)(i:Int)(l:List Dot):Prop:=l.length=es.length∧l.take i.toNat=(es.take i.toNat).map fun e=>e.dot
def invD(es:List Entry)(i:Int)(l:List Dot):Prop:=0≤i∧i≤es.length∧l.length=es.length∧A8v es i l
def decD(es:List Entry)(i:Int)(l:List Dot):Nat:=(es.length-i).toNat
theorem Ac3{es:List Entry}{i:Int}{l:List Dot}(h0:0≤i)(h:i < es.length)(hs:A8v es i l):A8v es (i+1) (l.set i.toNat es[i.toNat]!.dot):=by
 obtain⟨h1,h2⟩:=hs
 refine⟨by rw[List.length_set];exact h1,?_⟩
 rw[← D1 h0 h,List.map_append,← h2,show(i+1).toNat=i.toNat+1 by omega,List.take_succ_eq_append_getElem (by rw[List.length_set];omega)]
 simp [List.take_set_of_le]
theorem Ao2{es:List Entry}{i:Int}{l:List Dot}(h:¬ i < es.length)(hs:A8v es i l):l=es.map fun e=>e.dot:=by
 obtain⟨h1,h2⟩:=hs
 rwa [List.take_of_length_le (by omega),List.take_of_length_le (by omega)]at h2
theorem ok_len{es:List Entry}(h:¬ ¬ B2 es=0):es.length≤16000000000:=A1r (L7 (Classical.not_not.1 h))
theorem A41{es:List Entry}{p:Past}(h:¬(¬ B2 es=0∨¬ p=A4 p)):B2 es=0∧p=A4 p:=⟨Classical.not_not.1 fun k=>h (.inl k),Classical.not_not.1 fun k=>h (.inr k)⟩
theorem Ay8(es:List Entry):(C3 es).1.cloud.length≤8000000000∧(C3 es).1.vec.length≤16:=by
 unfold C3
 split
 ·exact X7 _
 ·simp
theorem con113(es:List Entry):Con Tryz.prog 113 [.sl (es.map c46)] (.tup [.agg (c26 (C3 es).1),.i .i64 (C3 es).2]) :=
 by
 refine lN 0 c46 (es) Tryz.func113 fun hl_0=>sC A6 [.cell 2 26,.tmp 3] 29 Tryz.func113 ?_
 intro e0 cx
 refine sq<|rG cx [0,2] [2] z0<|sn<|sq<|sq<|rG cx [0,2,9] [2] (fT (I1 (es)) (tN 2 (B2 es) (0:Int) (oA 1 (.i .i64 (B2 es)) z0)))<|sn<|dC (¬B2 es=0) (fun hh0=>?_) fun hh0=>?_
 refine sq<|rG cx [2,3] [2] z0<|sn<|rT<|nR<|qR (.tup [.agg [.nl,.nl],.i .i64 ((1:Int))]) (A3.tup (ZLe.cons (A3.agg (ZLe.cons (A3.nl' (show List.map c3 (C3 es).1.vec=[]from(by rw[A2l hh0];rfl))) (ZLe.cons (A3.nl' (show List.map A9 (C3 es).1.cloud=[]from(by rw[A2l hh0];rfl))) ZLe.nil))) (ZLe.cons (A3.eq (show AV.i .i64 1=AV.i .i64 (C3 es).2 from(by rw[A2l hh0]))) ZLe.nil)))
 refine sK<|sn<|sq<|rG cx [0,2,4] [2,13] (tL 1 c46 es (fR (↑es.length:Int) (fR (↑es.length:Int) (fP ((16:Nat)*es.length≤(281474976710656:Nat)) (by have:=ok_len hh0;omega) (fP (es.length≤maxLen) (by(simp only [Go.maxLen];omega)) (fR 2 (fP (ZLe [AV.i .i64 (0:Int),AV.i .i64 (0:Int)] [AV.i .i64 { rep:=(0:Int),num:=(0:Int):Dot }.rep,AV.i .i64 { rep:=(0:Int),num:=(0:Int):Dot }.num]) (by(with_reducible exact ZLe.refl _)) (fP (List.replicate es.length [AV.i .i64 { rep:=(0:Int),num:=(0:Int):Dot }.rep,AV.i .i64 { rep:=(0:Int),num:=(0:Int):Dot }.num]=List.map c44 (List.replicate es.length { rep:=(0:Int),num:=(0:Int):Dot })) (by(with_reducible refine As5 ?_;kernel_rfl)) (oV 2 { row:=[.i .i64 ({ rep:=(0:Int),num:=(0:Int):Dot }.rep),.i .i64 ({ rep:=(0:Int),num:=(0:Int):Dot }.num)],rows:=some (List.map c44 (List.replicate es.length { rep:=(0:Int),num:=(0:Int):Dot })),n:=es.length } z0))))))))) ?_
 refine sn<|sq<|sq<|rG cx [2,4,14,15,16] [2,13] (tL 1 c46 es z0)<|sn<|bL 0<|sL (X:=Int×List Dot) (fun x=>⟨[(2,.ptr (2) (0) (0) (0)),(4,.own 13 0),(14,.sl (List.map c46 es)),(15,.i .i64 ((↑es.length:Int))),(16,.i .i64 (x.1))],[(2,⟨0,26,.var [.nl,.nl]⟩),(13,⟨0,44,.row 2 (List.map c44 x.2)⟩)]⟩) (fun x ↦ decD es x.1 x.2) (fun x ↦ invD es x.1 x.2) [2,4,14,15,16] [2,13] (((0:Int),List.replicate es.length { rep:=(0:Int),num:=(0:Int):Dot })) (show invD es (0:Int) (List.replicate es.length { rep:=(0:Int),num:=(0:Int):Dot })from(by exact⟨by omega,by omega,by simp,by simp,by simp⟩)) ?_
 rintro⟨i1,l2⟩ h_3
 obtain⟨hh4,h5,h6,h7⟩:0≤i1∧i1≤(↑es.length:Int)∧l2.length=es.length∧A8v es i1 l2:=h_3
 refine rE cx [2,4,14,15,16,17] [2,13] (zB 0 (i1 <(↑es.length:Int))) (fun h8=>?_) fun h8=>?_
 refine sK<|sn<|sq<|bL 1<|sq<|rG cx [2,4,14,15,16,6,5] [2,13,6] (fA (0≤i1) (fG c46 es i1.toNat (fR 4 (fN 4 4 (oR 1 (c46 es[i1.toNat]!) z0)))))<|sn<|rG cx [2,4,14,15,16] [2,13] (fA (0≤i1) (fP (i1.toNat <(List.map c44 l2).length) (by(first | omega | (simp only [List.length_map];omega))) (fR 2 (fG c44 l2 i1.toNat (fR 2 (fP (0+(2:Nat)≤2) (by(first | omega | (simp only [List.length_map];omega))) (fP ((List.map c44 l2).set i1.toNat (List.take (0) (c44 l2[i1.toNat]!)++D9 (AV.agg [AV.i .i64 es[i1.toNat]!.dot.rep,AV.i .i64 es[i1.toNat]!.dot.num])++List.drop (0+(2:Nat)) (c44 l2[i1.toNat]!))=List.map c44 (l2.set i1.toNat es[i1.toNat]!.dot)) (by(with_reducible refine A65 ?_;kernel_rfl)) (oV 5 { row:=(c44 l2[i1.toNat]!),rows:=some (List.map c44 (l2.set i1.toNat es[i1.toNat]!.dot)) } z0)))))))) ?_
 refine bN<|sn<|rG cx [2,4,14,15,16] [2,13] (tW 0 (i1+1) z0)<|sn<|nX ((i1+1,l2.set i1.toNat es[i1.toNat]!.dot)) (show((↑es.length:Int)-(i1+1)).toNat <((↑es.length:Int)-i1).toNat from(by omega)) (show invD es (i1+1) (l2.set i1.toNat es[i1.toNat]!.dot)from(by exact⟨by omega,by omega,by rw[List.length_set];exact h6,Ac3 hh4 h8 h7⟩))
 refine eX 0<|nE<|nE<|bH<|sn<|sq<|rG cx [2,3] [2] (fT (con108 (l2) (by have:=ok_len hh0;omega)) (oA 1 (.agg [.sl (List.map c3 (I9 (ofT l2)).vec),.sl (List.map A9 (I9 (ofT l2)).cloud)]) z0)) ?_
 refine sn<|rT<|qR (.tup [.agg [.sl (List.map c3 (I9 (ofT l2)).vec),.sl (List.map A9 (I9 (ofT l2)).cloud)],.i .i64 ((0:Int))]) (A3.tup (ZLe.cons (A3.eq (show AV.agg [AV.sl (List.map c3 (I9 (ofT l2)).vec),AV.sl (List.map A9 (I9 (ofT l2)).cloud)]=AV.agg [AV.sl (List.map c3 (C3 es).1.vec),AV.sl (List.map A9 (C3 es).1.cloud)]from(by rw[Y1 (Classical.not_not.1 hh0),Ao2 h8 h7]))) (ZLe.cons (A3.eq (show AV.i .i64 0=AV.i .i64 (C3 es).2 from(by rw[Y1 (Classical.not_not.1 hh0)]))) ZLe.nil)))
theorem B4z(e:Entry)(p:Past):Con Tryz.prog 153 [.agg (c46 e),.eptr (c26 p)] (.b (D7 p e.dot == false)) :=
 by
 refine sC A6 [.tmp 3] 9 Tryz.func153 ?_
 intro e0 cx
 refine sq<|rG cx [1,2] [2] z0<|sn<|sq<|rG cx [3] [] (fN 2 2 (fT (A8b (p) (e.dot)) (tT 4 (G7:(AV.b !D7 p e.dot)=AV.b (decide ¬D7 p e.dot=true)) (oA 3 (.b (D7 p e.dot)) z0))))<|sn<|rT<|qR (.b (decide ¬D7 p e.dot=true)) (.eq ?g0);rotate_left
 case g0=>exact(by cases D7 p e.dot <;> rfl)
theorem B3d(es:List Entry)(p:Past)(hs:es.length*40≤140737488351232):Con Tryz.prog 103 [.sl (es.map c46),.fn (.func 153) [] [.eptr (c26 p)]] (.sl ((es.filter (fun e=>D7 p e.dot == false)).map c46)) :=
 by
 refine lN 0 c46 (es) Tryz.func103 fun hl_0=>sC A6 [.tmp 4] 23 Tryz.func103 ?_
 intro e0 cx
 refine sq<|rG cx [0,1] [] z0<|sn<|sq<|rG cx [0,1,5] [] z0<|sn<|sq<|sq<|rG cx [1,5,8,9,10] [] (tL 1 c46 es z0)<|sn<|bL 0<|G3 5 1005 46 4 (σ':=⟨[(1,.fn (Fn.func (153:FuncId)) [] [.eptr [.sl (List.map c3 p.vec),.sl (List.map A9 p.cloud)]]),(5,.own 1005 0),(8,.sl (List.map c46 es)),(9,.i .i64 ((↑es.length:Int))),(10,.i .i64 ((0:Int)))],[(1005,⟨0,46,.row 4 (List.map c46 [])⟩)]⟩) (by kernel_rfl)<|sL (X:=Int×List Entry) (fun x=>⟨[(1,.fn (Fn.func (153:FuncId)) [] [.eptr [.sl (List.map c3 p.vec),.sl (List.map A9 p.cloud)]]),(5,.own 1005 0),(8,.sl (List.map c46 es)),(9,.i .i64 ((↑es.length:Int))),(10,.i .i64 (x.1))],[(1005,⟨0,46,.row 4 (List.map c46 x.2)⟩)]⟩) (fun x ↦ decP es x.1 x.2) (fun x ↦ Ab9 (fun e ↦ D7 p e.dot == false) es x.1 x.2) [1,5,8,9,10] [1005] (((0:Int),[])) (show Ab9 (fun e ↦ D7 p e.dot == false) es (0:Int) []from(by exact(A3v _ _))) ?_
 rintro⟨i0,l1⟩ h_2
 obtain⟨hh3,hh4,hh5,h6⟩:0≤i0∧i0≤(↑es.length:Int)∧l1=List.filter (fun e ↦ D7 p e.dot == false) (List.take i0.toNat es)∧(↑l1.length:Int)≤i0:=h_2
 refine rE cx [1,5,8,9,10,11] [1005] (zB 0 (i0 <(↑es.length:Int))) (fun h7=>?_) fun h7=>?_
 refine sK<|sn<|sq<|bL 1<|sq<|rG cx [1,5,8,9,10,7] [1005,7] (fA (0≤i0) (fG c46 es i0.toNat (fR 4 (fN 4 4 (oR 0 (c46 es[i0.toNat]!) z0)))))<|sn<|sq<|rG cx [1,5,8,9,10,7,16] [1005,7] (fT (B4z (es[i0.toNat]!) (p)) (oA 2 (Ap2 (B4z (es[i0.toNat]!) (p))) z0))<|sn<|Z7 (D7 p es[i0.toNat]!.dot == false) (by kernel_rfl) (by kernel_rfl) (fun h8=>?_) (fun h8=>?_)
 refine rG cx [1,5,8,9,10] [1005] (fR 46 (fR 4 (fR 4 (fX c46 [es[i0.toNat]!] 4 (fS c46 l1 c46 [es[i0.toNat]!] (fP (((List.map c46 l1).length+(List.map c46 [es[i0.toNat]!]).length)*(40:Nat)≤(140737488355328:Nat)) (by(simp only [Go.maxLen,List.length_map,List.length_append,List.length_cons,List.length_nil];omega)) (fM c46 l1 [es[i0.toNat]!] (oV 3 { rows:=some (List.map c46 (l1++[es[i0.toNat]!])) } z0))))))))<|bN<|sn<|rG cx [1,5,8,9,10] [1005] (tW 0 (i0+1) z0)<|sn<|nX ((i0+1,l1++[es[i0.toNat]!])) (show((↑es.length:Int)-(i0+1)).toNat <((↑es.length:Int)-i0).toNat from(by omega)) (show Ab9 (fun e ↦ D7 p e.dot == false) es (i0+1) (l1++[es[i0.toNat]!])from(by exact(A6v hh3 hh5 h6 h7 h8)))
 refine sK<|bN<|sn<|rG cx [1,5,8,9,10] [1005] (tW 0 (i0+1) z0)<|sn<|nX ((i0+1,l1)) (show((↑es.length:Int)-(i0+1)).toNat <((↑es.length:Int)-i0).toNat from(by omega)) (show Ab9 (fun e ↦ D7 p e.dot == false) es (i0+1) l1 from(by exact(A3w hh3 hh5 h6 h7 (by simpa using h8))))
 refine eX 0<|nE<|nE<|bH<|sn<|sq<|rG cx [4] [1005] z0<|sn<|rT<|qR (.sl (List.map c46 l1)) (.eq (by exact(by rw[A3x hh5 h7])))
theorem A8w(es:List Entry)(p:Past)(hb:p.cloud.length*16≤140737488350000):Con Tryz.prog 82 [.sl (es.map c46),.agg (c26 p)] (.tup [.sl ((D3 es p false).1.map c46),.i .i64 (D3 es p false).2]) :=
 by
 refine lN 0 c46 (es) Tryz.func82 fun hl_0=>sC A6 [.tmp 4,.tmp 5] 17 Tryz.func82 ?_
 intro e0 cx
 refine sq<|rG cx [0,3] [3] z0<|sn<|sq<|sq<|A7 (σ':=⟨[(0,.sl (List.map c46 es)),(3,.ptr (3) (0) (0) (0)),(13,.b (decide (¬B2 es=0∨¬p=A4 p)))],[(3,⟨0,26,.var [.sl (List.map c3 p.vec),.sl (List.map A9 p.cloud)]⟩)]⟩) ?_ ?_
 refine A2 (¬B2 es=0) (fun h_1=>?_) (fun h_1=>?_)
 refine rG cx [0,3,13] [3] (fT (I1 (es)) (tT 2 (E1 h_1:AV.b (B2 es !=0)=AV.b true) (tD 7 true (¬B2 es=0∨¬p=A4 p) (by simp only [eq_false h_1,tsl]) (oA 1 (.i .i64 (B2 es)) z0)))) ?_
 exact⟨rfl,by kernel_rfl⟩
 refine rG cx [0,3,13] [3] (fT (I1 (es)) (tN 2 (B2 es) (0:Int) (tT 3 (A0 h_1) (fT (A0m (p) (by(with_reducible assumption))) (tQ 6 (p=A4 p) (tT 7 (by first | (simp only [eq_false h_1,tsl];done) | simp_all:AV.b (decide ¬p=A4 p)=AV.b (decide (¬B2 es=0∨¬p=A4 p))) (oA 1 (.i .i64 (B2 es)) (oA 5 (.b (decide (p=A4 p))) z0)))))))) ?_
 exact⟨rfl,by kernel_rfl⟩
 refine sn<|dC (¬B2 es=0∨¬p=A4 p) (fun h2=>?_) fun h2=>?_
 refine sq<|rG cx [4,5] [] z0<|sn<|rT<|nR<|qR (.tup [.nl,.i .i64 ((1:Int))]) (A3.tup (ZLe.cons (A3.nl' (show List.map c46 (D3 es p false).1=[]from(by exact(by rw[Ai5 h2];rfl)))) (ZLe.cons (A3.eq (show AV.i .i64 1=AV.i .i64 (D3 es p false).2 from(by exact(by rw[Ai5 h2])))) ZLe.nil)))
 refine sK<|sn<|sq<|rG cx [4,5] [] (fT (B3d (es) (p) (by exact(by have:=A1r (L7 (A41 h2).1);omega))) (oA 2 (.sl (List.map c46 (List.filter (fun e ↦ D7 p e.dot == false) es))) z0)) ?_
 refine sn<|rT<|qR (.tup [.sl (List.map c46 (List.filter (fun e ↦ D7 p e.dot == false) es)),.i .i64 ((0:Int))]) (A3.tup (ZLe.cons (A3.eq (show AV.sl (List.map c46 (List.filter (fun e ↦ D7 p e.dot == false) es))=AV.sl (List.map c46 (D3 es p false).1)from(by exact(by rw[A6w (A41 h2).1 (A41 h2).2])))) (ZLe.cons (A3.eq (show AV.i .i64 0=AV.i .i64 (D3 es p false).2 from(by exact(by rw[A6w (A41 h2).1 (A41 h2).2])))) ZLe.nil)))
end Go.Proofs.YtphcaholhacnpaaGreat
namespace Go.Proofs.YtphcaholhacnpaaGreat
open Go.E
set_option maxRecDepth 100000
set_option maxHeartbeats 4000000
open Go Go.Sort Go.RowKit Go.Lib Go.Shelf Go.Proofs
section
variable {α : Type} [Inhabited α] {enc : α → List Value} {k blk off : Nat}
def A0v(sf:Nat)(sb:Array Value)(enc:α→List Value)(k blk off size:Nat):Prop :=
 ∀(W:World) (dk:Array α),HoldsK enc k W blk off dk→dk.size=size→∀ i j:Nat,i < size→j < size→i≠j →
  (callFunc sf (#[.int .i64 i,.int .i64 j]++sb)).run Tryz.prog W=.ok (.value (.tuple #[])) ((W.setCells blk (off+i*k) (enc dk[j]!)).setCells blk (off+j*k) (enc dk[i]!))
def A07(w:World)(g:Nat)(lb:Array Value)(sf:Nat)(sb:Array Value):World:=w.alloc (.cells #[.func (.func g) #[] lb,.func (.func sf) #[] sb] 258)
theorem O0(w:World)(g:Nat)(lb:Array Value)(sf:Nat)(sb:Array Value):(A07 w g lb sf sb).heap.size=w.heap.size+1:=by simp [A07]
theorem A0w{w0:World}{d:Array α}(hH:HoldsK enc k w0 blk off d)(g:Nat)(lb:Array Value)(sf:Nat)(sb:Array Value):Fam enc k blk off w0 d (A07 w0 g lb sf sb):=(Fam.start hH).alloc _
theorem F3{w0:World}(hb:blk < w0.heap.size)(g:Nat)(lb:Array Value)(sf:Nat)(sb:Array Value){W:World}{d':Array α}(h:Fam enc k blk off (A07 w0 g lb sf sb) d' W) :
  W.cell? ⟨w0.heap.size,0,none⟩=some (.func (.func g) #[] lb)∧W.cell? ⟨w0.heap.size,1,none⟩=some (.func (.func sf) #[] sb):=by
 constructor
 ·rw[h.cell (by show w0.heap.size < _;rw[O0];omega) (by show w0.heap.size≠blk;omega)];simp [A07]
 ·rw[h.cell (by show w0.heap.size < _;rw[O0];omega) (by show w0.heap.size≠blk;omega)];simp [A07]
set_option maxHeartbeats 4000000 in
theorem P8 (hk:∀ x,(enc x).length=k) (g:Nat) (lb:Array Value) (sf:Nat) (sb:Array Value) (w0:World) (d:Array α) (hswap:A0v sf sb enc k blk off d.size) (hH:HoldsK enc k w0 blk off d) (hb:blk < w0.heap.size)
  (a b n:Nat) (hab:a+n≤b) (hbn:b+n≤d.size) (hsz:d.size < 4611686018427387904) :
  Calls Tryz.prog 300 #[.agg #[.func (.func g) #[] lb,.func (.func sf) #[] sb],.int .i64 a,.int .i64 b,.int .i64 n] w0 fun e w' =>
   e=.returned (.tuple #[])∧∃ d',Fam enc k blk off w0 d' w'∧d'.size=d.size∧PermIn a (b+n) d d'∧∀ j,d'[j]! = d[A4q a b n j]!:=by
 have HF:Hid (Fam enc k blk off w0 d (A07 w0 g lb sf sb)):=A0w hH g lb sf sb
 have hb1:blk <(A07 w0 g lb sf sb).heap.size:=by rw[O0];omega
 have HH:Hid (HoldsK enc k (A07 w0 g lb sf sb) blk off d):=HF.out.holds hb hH rfl
 have HS:Hid (A0v sf sb enc k blk off d.size):=hswap
 clear hswap
 go_enter Tryz.func300,Tryz.ntmps300
 go_wp2
 go_loopw [8] (fun v8 wr=>∃(i:Nat) (dk:Array α),v8=.int .i64 i∧i≤n∧Hid (dk.size=d.size∧Fam enc k blk off (A07 w0 g lb sf sb) dk wr∧PermIn a (b+n) d dk∧∀ j,dk[j]! = d[A4q a b i j]!)) (fun v8 _=>n-(intOf v8).toNat)
 case atStart=>exact⟨0,d,by go_num,by omega,rfl,Fam.start HH.out,permIn_refl d _ _,fun j=>by rw[At1]⟩
 case round =>
  obtain⟨i,dk,rfl,hin,HI⟩:=hrel
  have c:=(F3 hb g lb sf sb HI.out.2.1).2
  go_wp2
  ·have hlt:i < n:=by omega
   have hs:=HS.out wr dk (HI.out.2.1.holds hb1 HH.out HI.out.1) HI.out.1 (a+i) (b+i) (by omega) (by omega) (by omega)
   rw[show((a+i:Nat):Int)=(a:Int)+(i:Int)by omega,show((b+i:Nat):Int)=(b:Int)+(i:Int)by omega]at hs
   rw[hs,Oper.upon_value]
   clear hs
   go_wp2
   go_roundw
   case rel =>
    obtain⟨e1,e2,e3,e4⟩:=HI.out
    exact⟨i+1,swp dk (a+i) (b+i),by go_num,by omega,by rw[Sort.size_swp];exact e1,e2.swap hk hb1 _ _ (by omega) (by omega),
     permIn_trans d dk _ _ _ e3 (swp_permIn dk a (b+n) (a+i) (b+i) (by omega) (by omega) (by omega) (by omega) (by omega)),B5z (by omega) (by omega) e1 e4⟩
   case measure=>simp [intOf];omega
  ·go_end0
   obtain⟨e1,e2,e3,e4⟩:=HI.out
   have hi:i=n:=by omega
   exact⟨rfl,dk,HF.out.trans hb e2 e1,e1,e3,fun j=>by rw[e4 j,hi]⟩
set_option maxHeartbeats 4000000 in
theorem Ac4 (hk:∀ x,(enc x).length=k) (g:Nat) (lb:Array Value) (sf:Nat) (sb:Array Value) (w0:World) (d:Array α) (hswap:A0v sf sb enc k blk off d.size) (hH:HoldsK enc k w0 blk off d) (hb:blk < w0.heap.size)
  (a m b:Nat) (ham:a < m) (hmb:m < b) (hbn:b≤d.size) (hsz:d.size < 4611686018427387904) :
  Calls Tryz.prog 289 #[.agg #[.func (.func g) #[] lb,.func (.func sf) #[] sb],.int .i64 a,.int .i64 m,.int .i64 b] w0 fun e w' =>
   e=.returned (.tuple #[])∧∃ d',Fam enc k blk off w0 d' w'∧d'.size=d.size∧PermIn a b d d'∧∀ j,d'[j]! = d[E9 a m b j]!:=by
 have HF:Hid (Fam enc k blk off w0 d (A07 w0 g lb sf sb)):=A0w hH g lb sf sb
 have hb1:blk <(A07 w0 g lb sf sb).heap.size:=by rw[O0];omega
 have HH:Hid (HoldsK enc k (A07 w0 g lb sf sb) blk off d):=HF.out.holds hb hH rfl
 have HS:Hid (A0v sf sb enc k blk off d.size):=hswap
 have u:=run_underlying (P:=Tryz.prog) (A6 258 _ rfl).1
 clear hswap
 go_enter Tryz.func289,Tryz.ntmps289
 go_wp2
 go_loopw [8,9] (fun v8 v9 wr=>∃(i j:Nat) (dk:Array α),v8=.int .i64 i∧v9=.int .i64 j∧0 < i∧0 < j∧a+i≤m∧m+j≤b∧Hid (dk.size=d.size∧Fam enc k blk off (A07 w0 g lb sf sb) dk wr∧PermIn a b d dk∧∀ q,dk[E9 (m-i) m (m+j) q]! = d[E9 a m b q]!)) (fun v8 v9 _=>(intOf v8).toNat+(intOf v9).toNat)
 case atStart =>
  refine⟨m-a,b-m,d,by go_num,by go_num,by omega,by omega,by omega,by omega,rfl,Fam.start HH.out,permIn_refl d _ _,fun q=>?_⟩
  rw[show m-(m-a)=a by omega,show m+(b-m)=b by omega]
 case round =>
  obtain⟨i,j,dk,rfl,rfl,hi0,hj0,hi,hj,HI⟩:=hrel
  have c:=F3 hb g lb sf sb HI.out.2.1
  have c0:=c.1
  have c1:=c.2
  clear c
  have hw:=HI.out.2.1.size
  by_cases hij:i=j
  ·subst hij
   have hc:=P8 hk g lb sf sb wr dk (HI.out.1 ▸ HS.out) (HI.out.2.1.holds hb1 HH.out HI.out.1) (by omega) (m-i) m i (by omega) (by rw[HI.out.1];omega) (by rw[HI.out.1];omega)
   rw[show((m-i:Nat):Int)=(m:Int)-(i:Int)by omega]at hc
   have HC:=Box.mk hc
   clear hc
   go_wp2_with (go_at_call 300;refine HC.out.mono ?_;rintro e w' ⟨rfl,d',f1,f2,f3,f4⟩)
   go_end0
   obtain⟨e1,e2,e3,e4⟩:=HI.out
   exact⟨rfl,d',HF.out.trans hb (e2.trans hb1 f1 (by rw[f2,e1])) (by rw[f2,e1]),by rw[f2,e1],permIn_trans d dk d' _ _ e3 (H7 (by omega) (by omega) (by omega) f3),fun q=>by rw[f4 q,B2a (by omega),e4 q]⟩
  ·by_cases hlt:j < i
   ·have hc:=P8 hk g lb sf sb wr dk (HI.out.1 ▸ HS.out) (HI.out.2.1.holds hb1 HH.out HI.out.1) (by omega) (m-i) m j (by omega) (by rw[HI.out.1];omega) (by rw[HI.out.1];omega)
    rw[show((m-i:Nat):Int)=(m:Int)-(i:Int)by omega]at hc
    have HC:=Box.mk hc
    clear hc
    go_wp2_with (go_at_call 300;refine HC.out.mono ?_;rintro e w' ⟨rfl,d',f1,f2,f3,f4⟩)
    go_roundw
    case rel =>
     obtain⟨e1,e2,e3,e4⟩:=HI.out
     exact⟨i-j,j,d',by go_num,rfl,by omega,by omega,by omega,by omega,by rw[f2,e1],e2.trans hb1 f1 (by rw[f2]),permIn_trans d dk d' _ _ e3 (H7 (by omega) (by omega) (by omega) f3),fun q=>by rw[f4,B29 (by omega) hj0 hlt,e4 q]⟩
    case measure=>simp [intOf];omega
   ·have hc:=P8 hk g lb sf sb wr dk (HI.out.1 ▸ HS.out) (HI.out.2.1.holds hb1 HH.out HI.out.1) (by omega) (m-i) (m+j-i) i (by omega) (by rw[HI.out.1];omega) (by rw[HI.out.1];omega)
    rw[show((m-i:Nat):Int)=(m:Int)-(i:Int)by omega,show((m+j-i:Nat):Int)=(m:Int)+(j:Int)-(i:Int)by omega]at hc
    have HC:=Box.mk hc
    clear hc
    go_wp2_with (go_at_call 300;refine HC.out.mono ?_;rintro e w' ⟨rfl,d',f1,f2,f3,f4⟩)
    go_roundw
    case rel =>
     obtain⟨e1,e2,e3,e4⟩:=HI.out
     exact⟨i,j-i,d',rfl,by go_num,by omega,by omega,by omega,by omega,by rw[f2,e1],e2.trans hb1 f1 (by rw[f2]),permIn_trans d dk d' _ _ e3 (H7 (by omega) (by omega) (by omega) f3),fun q=>by rw[f4,At2 (by omega) hi0 (by omega),e4 q]⟩
    case measure=>simp [intOf];omega
def A0x(g:Nat)(lb:Array Value)(enc:α→List Value)(k:Nat)(lt:α→α→Bool)(blk off size:Nat)(w0:World):Prop :=
 ∀(W:World) (dk:Array α),Fam enc k blk off w0 dk W→dk.size=size→∀ i j:Nat,i < size→j < size →
  Calls Tryz.prog g (#[.int .i64 i,.int .i64 j]++lb) W fun e w'=>e=.returned (.bool (lt dk[i]! dk[j]!))∧Below W.heap.size W w'
theorem A0x.on{g:Nat}{lb:Array Value}{lt:α→α→Bool}{size:Nat}{w0 W:World}{d:Array α}(h:A0x g lb enc k lt blk off size w0)(hb:blk < w0.heap.size)(hF:Fam enc k blk off w0 d W)(hs:d.size=size):A0x g lb enc k lt blk off size W :=
 fun W' dk hF' hs' i j hi hj=>h W' dk (hF.trans hb hF' (by omega)) hs' i j hi hj
set_option maxHeartbeats 4000000 in
theorem Z1 (hk:∀ x,(enc x).length=k) (lt:α→α→Bool) (g:Nat) (lb:Array Value) (sf:Nat) (sb:Array Value) (w0:World) (d:Array α) (hg:D5 Tryz.prog g) (hless:A0x g lb enc k lt blk off d.size w0) (hswap:A0v sf sb enc k blk off d.size) (hH:HoldsK enc k w0 blk off d) (hb:blk < w0.heap.size)
  (a b:Nat) (hab:a≤b) (hbn:b≤d.size) (hsz:d.size < 4611686018427387904) :
  Calls Tryz.prog 255 #[.agg #[.func (.func g) #[] lb,.func (.func sf) #[] sb],.int .i64 a,.int .i64 b] w0 fun e w' =>
   e=.returned (.tuple #[])∧Fam enc k blk off w0 (Sort.insertionSort lt d a b) w':=by
 have HF:=Box.mk (A0w hH g lb sf sb)
 have hb1:blk <(A07 w0 g lb sf sb).heap.size:=by rw[O0];omega
 have HH:=Box.mk (HF.out.holds hb hH rfl)
 have HS:=Box.mk hswap
 have HL:=Box.mk (hless.on hb HF.out rfl)
 have eg:∀ args w,(callFunc g args).run Tryz.prog w=.ok (.enter g args) w:=fun args w=>O6 hg w
 clear hswap hless
 go_enter Tryz.func255,Tryz.ntmps255
 go_wp2
 go_loopw [6] (fun vi wr=>∃(i:Nat) (dk:Array α),vi=.int .i64 i∧a < i∧i≤b+1∧dk.size=d.size∧Box (Fam enc k blk off (A07 w0 g lb sf sb) dk wr)∧Box (insOuter lt a b i dk=insOuter lt a b (a+1) d)) (fun vi _=>b+1-(intOf vi).toNat)
 case atStart=>exact⟨a+1,d,by go_num,by omega,by omega,rfl,⟨Fam.start HH.out⟩,⟨rfl⟩⟩
 case round =>
  obtain⟨i,dk,rfl,hai,hib,hsk,HW,HO⟩:=hrel
  go_wp2
  ·go_loopw [7] (fun vj wr2=>∃(j:Nat) (dj:Array α),vj=.int .i64 j∧a≤j∧j≤i∧dj.size=d.size∧Box (Fam enc k blk off (A07 w0 g lb sf sb) dj wr2)∧Box (insInner lt a j dj=insInner lt a i dk)) (fun vj _=>(intOf vj).toNat)
   case atStart=>exact⟨i,dk,rfl,by omega,Nat.le_refl _,hsk,HW,⟨rfl⟩⟩
   case round =>
    obtain⟨j,dj,rfl,haj,hji,hsj,HJ,HI⟩:=hrel
    have hlt:i < b:=by assumption
    have c:=F3 hb g lb sf sb HJ.out
    have c0:=c.1
    have c1:=c.2
    clear c
    by_cases hja:a < j
    ·have hl:=HL.out wr dj HJ.out hsj j (j-1) (by omega) (by omega)
     rw[show(((j-1:Nat):Int))=(j:Int)-1 by omega]at hl
     cases hlv:lt dj[j]! dj[j-1]! with
     | true =>
      rw[hlv]at hl
      have HQ:=Box.mk hl
      clear hl
      go_wp2_with (go_at_fn g;refine HQ.out.mono ?_;rintro e w' ⟨rfl,hB⟩;have c2:=(F3 hb g lb sf sb (HJ.out.below hB)).2;have FB:=Box.mk (HJ.out.below hB);clear hB)
      have hs:=HS.out w' dj (FB.out.holds hb1 HH.out hsj) hsj j (j-1) (by omega) (by omega) (by omega)
      rw[show(((j-1:Nat):Int))=(j:Int)-1 by omega]at hs
      rw[hs,Oper.upon_value]
      clear hs
      go_wp2
      go_roundw
      case rel =>
       (repeat apply Exists.intro)
       refine⟨⟨j-1,swp dj j (j-1),by congr 1 <;> omega,by omega,by omega,by rw[Sort.size_swp];exact hsj,⟨FB.out.swap hk hb1 _ _ (by omega) (by omega)⟩,⟨?_⟩⟩,by rw[decide_eq_true hlt,show((j-1:Nat):Int)=(j:Int)-1 by omega]⟩
       rw[← HI.out,insInner_go lt a j dj hja hlv]
      case measure=>simp [intOf];omega
     | false =>
      rw[hlv]at hl
      have HQ:=Box.mk hl
      clear hl
      go_wp2_with (go_at_fn g;refine HQ.out.mono ?_;rintro e w' ⟨rfl,hB⟩)
      go_roundw
      case rel=>exact⟨i+1,dj,by go_num,by omega,by omega,hsj,⟨HJ.out.below hB⟩,⟨by rw[← HO.out,insOuter_go _ _ _ _ _ hlt,← HI.out,insInner_stop _ _ _ _ (Or.inr hlv)]⟩⟩
      case measure=>simp [intOf];omega
    ·go_wp2
     go_roundw
     case rel=>exact⟨i+1,dj,by go_num,by omega,by omega,hsj,HJ,⟨by rw[← HO.out,insOuter_go _ _ _ _ _ hlt,← HI.out,insInner_stop _ _ _ _ (Or.inl (by omega))]⟩⟩
     case measure=>simp [intOf];omega
  ·have hge:¬ i < b:=by omega
   go_end0
   exact⟨rfl,by unfold Sort.insertionSort;rw[← HO.out,insOuter_stop _ _ _ _ _ hge];exact HF.out.trans hb HW.out hsk⟩
end
end Go.Proofs.YtphcaholhacnpaaGreat
namespace Go.Proofs.YtphcaholhacnpaaGreat
open Go.E
set_option maxRecDepth 100000
set_option maxHeartbeats 4000000
open Go Go.Sort Go.RowKit Go.Lib Go.Shelf Go.Proofs
section
variable {α : Type} [Inhabited α] {enc : α → List Value} {k blk off : Nat}
section
variable {lt0 lt : α → α → Bool} {d dA dB dC : Array α} {a m b start h h' : Nat}
theorem A8x(hO:SWO lt)(hs:SortedIn lt a b d){i j:Nat}(h1:a≤i)(h2:i≤j)(h3:j < b):lt d[j]! d[i]! = false:=by
 rcases Nat.lt_or_ge i j with h | h
 ·exact hs i j h1 h h3
 ·rw[show i=j by omega];exact hO.irrefl _
theorem srA_t(hO:SWO lt)(hs:SortedIn lt m b d){x:α}(h1:h < b)(ht:lt d[h]! x=true)(h2:m≤h')(h3:h'≤h):lt d[h']! x=true:=by
 cases hc:lt d[h']! x with
 | true=>rfl
 | false=>rw[hO.ntrans _ _ _ (A8x hO hs h2 h3 h1) hc]at ht;cases ht
theorem srA_f(hO:SWO lt)(hs:SortedIn lt m b d){x:α}(h1:m≤h)(ht:lt d[h]! x=false)(h2:h≤h')(h3:h' < b):lt d[h']! x=false:=hO.ntrans _ _ _ (A8x hO hs h1 h2 h3) ht
theorem srB_f(hO:SWO lt)(hs:SortedIn lt a m d){x:α}(h1:h < m)(ht:lt x d[h]! = false)(h2:a≤h')(h3:h'≤h):lt x d[h']! = false:=hO.ntrans _ _ _ ht (A8x hO hs h2 h3 h1)
theorem srB_t(hO:SWO lt)(hs:SortedIn lt a m d){x:α}(h1:a≤h)(ht:lt x d[h]! = true)(h2:h≤h')(h3:h' < m):lt x d[h']! = true:=by
 cases hc:lt x d[h']! with
 | true=>rfl
 | false=>rw[hO.ntrans _ _ _ hc (A8x hO hs h1 h2 h3)]at ht;cases ht
theorem srC_f(hO:SWO lt)(hs1:SortedIn lt a m d)(hs2:SortedIn lt m b d){p c c':Nat}(hc:c < m)(hpc:m≤p-c)(ht:lt d[p-c]! d[c]! = false)(h2:a≤c')(h3:c'≤c)(h4:p-c' < b):lt d[p-c']! d[c']! = false :=
 hO.ntrans _ _ _ (hO.ntrans _ _ _ (A8x hO hs2 hpc (by omega) h4) ht) (A8x hO hs1 h2 h3 hc)
theorem srC_t(hO:SWO lt)(hs1:SortedIn lt a m d)(hs2:SortedIn lt m b d){p c c':Nat}(hc:a≤c)(hpc:p-c < b)(ht:lt d[p-c]! d[c]! = true)(h2:c≤c')(h3:c' < m)(h4:m≤p-c'):lt d[p-c']! d[c']! = true:=by
 cases hh:lt d[p-c']! d[c']! with
 | true=>rfl
 | false=>rw[hO.ntrans _ _ _ (hO.ntrans _ _ _ (A8x hO hs2 h4 (by omega) hpc) hh) (A8x hO hs1 hc h2 h3)]at ht;cases ht
theorem B3e{a m b q:Nat}(h:a=m∨m=b)(h1:a≤m)(h2:m≤b):E9 a m b q=q:=by
 unfold E9;rcases h with h | h
 ·subst h;split
  ·omega
  ·rw[if_neg (by omega)]
 ·subst h;rw[if_neg (by omega)];split <;> omega
theorem B77(ham:a < m)(hmb:m < b)(hC:Cut lt a m b start d)(hd:∀ q,dA[q]! = d[E9 start m ((a+b) / 2+m-start) q]!)(ho:∀ p q,a≤p→p < m→m≤q→q < b→lt0 d[q]! d[p]! = lt d[q]! d[p]!) :
  (∀ p q,a≤p→p < start→start≤q→q <(a+b) / 2→lt0 dA[q]! dA[p]! = lt dA[q]! dA[p]!)∧(∀ p q,(a+b) / 2≤p→p <(a+b) / 2+m-start→(a+b) / 2+m-start≤q→q < b→lt0 dA[q]! dA[p]! = lt dA[q]! dA[p]!):=by
 obtain⟨c1,c2,c3,c4,c5,c6⟩:=hC
 clear c5 c6
 constructor
 ·intro p q h1 h2 h3 h4
  rw[hd p,hd q]
  have e1:E9 start m ((a+b) / 2+m-start) p=p:=by unfold E9;rw[if_neg (by omega),if_neg (by omega)]
  have e2:E9 start m ((a+b) / 2+m-start) q=q-start+m:=by unfold E9;rw[if_pos (by omega)]
  rw[e1,e2]
  exact ho _ _ h1 (by omega) (by omega) (by omega)
 ·intro p q h1 h2 h3 h4
  rw[hd p,hd q]
  have e1:E9 start m ((a+b) / 2+m-start) p=p-((a+b) / 2+m-start-m):=by unfold E9;rw[if_neg (by omega),if_pos (by omega)]
  have e2:E9 start m ((a+b) / 2+m-start) q=q:=by unfold E9;rw[if_neg (by omega),if_neg (by omega)]
  rw[e1,e2]
  exact ho _ _ (by omega) (by omega) (by omega) (by omega)
theorem B3f{mid e:Nat}(h:PermIn a mid dA dB)(ho:∀ p q,mid≤p→p < e→e≤q→q < b→lt0 dA[q]! dA[p]! = lt dA[q]! dA[p]!):∀ p q,mid≤p→p < e→e≤q→q < b→lt0 dB[q]! dB[p]! = lt dB[q]! dB[p]!:=by
 intro p q h1 h2 h3 h4
 rw[h.2.1 p (by omega),h.2.1 q (by omega)];exact ho p q h1 h2 h3 h4
theorem T0{mid e f:Nat}(h:PermIn a mid dA dB)(hm:mid≤e)(hs:SortedIn lt e f dA):SortedIn lt e f dB:=I8 hs fun i h1 h2=>h.2.1 i (by omega)
theorem B78{mid:Nat}(ham:a≤mid)(hmb:mid≤b)(hb:b≤d.size)(hA:PermIn a b d dA)(hx:∀ p q,a≤p→p < mid→mid≤q→q < b→lt dA[q]! dA[p]! = false)(hB:PermIn a mid dA dB)(hBs:SortedIn lt a mid dB)
  (hC:PermIn mid b dB dC) (hCs:SortedIn lt mid b dC):PermIn a b d dC∧SortedIn lt a b dC:=by
 have sA:dA.size=d.size:=hA.1
 have sB:dB.size=dA.size:=hB.1
 refine⟨permIn_trans d dA dC _ _ hA (permIn_trans dA dB dC _ _ (H7 (Nat.le_refl _) hmb (by omega) hB) (H7 ham (Nat.le_refl _) (by omega) hC)),?_⟩
 exact A6d (I8 hBs fun i h1 h2=>hC.2.1 i (by omega)) hCs (A9z ham hmb (by omega) hC (Am0 ham hmb (by omega) hB hx))
end
set_option maxHeartbeats 8000000 in
theorem A0y (hk:∀ x,(enc x).length=k) (lt0 lt:α→α→Bool) (hO:SWO lt) (g:Nat) (lb:Array Value) (sf:Nat) (sb:Array Value) (hg:D5 Tryz.prog g):∀(n:Nat) (w0:World) (d:Array α) (hless:A0x g lb enc k lt0 blk off d.size w0) (hswap:A0v sf sb enc k blk off d.size) (hH:HoldsK enc k w0 blk off d) (hb:blk < w0.heap.size)
  (a m b:Nat) (ham:a < m) (hmb:m < b) (hbn:b≤d.size) (hsz:d.size < 4611686018427387904) (hn:b-a≤n)
  (hord:∀ p q,a≤p→p < m→m≤q→q < b→lt0 d[q]! d[p]! = lt d[q]! d[p]!) (hs1:SortedIn lt a m d) (hs2:SortedIn lt m b d),
  Calls Tryz.prog 277 #[.agg #[.func (.func g) #[] lb,.func (.func sf) #[] sb],.int .i64 a,.int .i64 m,.int .i64 b] w0 fun e w' =>
   e=.returned (.tuple #[])∧∃ d',Fam enc k blk off w0 d' w'∧d'.size=d.size∧PermIn a b d d'∧SortedIn lt a b d':=by
 intro n
 induction n with
 | zero=>intros;omega
 | succ n ih =>
 intro w0 d hless hswap hH hb a m b ham hmb hbn hsz hn hord hs1 hs2
 have HF:=Box.mk (A0w hH g lb sf sb)
 have hb1:blk <(A07 w0 g lb sf sb).heap.size:=by rw[O0];omega
 have HH:=Box.mk (HF.out.holds hb hH rfl)
 have HS:=Box.mk hswap
 have HL:=Box.mk (hless.on hb HF.out rfl)
 have HO:=Box.mk hord
 have H1:=Box.mk hs1
 have H2:=Box.mk hs2
 have IH:=Box.mk ih
 have eg:∀ args w,(callFunc g args).run Tryz.prog w=.ok (.enter g args) w:=fun args w=>O6 hg w
 clear hswap hless hord hs1 hs2 ih
 by_cases hone:m=a+1
 ·have hone1:(m:Int)-a=1:=by omega
  have hma1:m≤a+1:=by omega
  have HM:=Box.mk hone
  clear hone
  go_enter Tryz.func277,Tryz.ntmps277
  go_wp2
  clear hone1
  go_loopw [8,9] (fun v8 v9 wr=>∃(i j:Nat),v8=.int .i64 i∧v9=.int .i64 j∧m≤i∧i≤j∧j≤b∧Box (Fam enc k blk off (A07 w0 g lb sf sb) d wr)∧Box ((∀ h,m≤h→h < i→lt d[h]! d[a]! = true)∧(∀ h,j≤h→h < b→lt d[h]! d[a]! = false))) (fun v8 v9 _=>(intOf v9).toNat-(intOf v8).toNat)
  case atStart=>exact⟨m,b,rfl,rfl,by omega,by omega,by omega,⟨Fam.start HH.out⟩,⟨fun h h1 h2=>by omega,fun h h1 h2=>by omega⟩⟩
  case round =>
   obtain⟨i,j,rfl,rfl,hai,hij,hjb,HW,HI⟩:=hrel
   have c:=F3 hb g lb sf sb HW.out
   have c0:=c.1
   have c1:=c.2
   clear c
   by_cases hlt:i < j
   ·have hl:=HL.out wr d HW.out rfl ((i+j) / 2) a (by omega) (by omega)
    have ho:=HO.out a ((i+j) / 2) (by omega) (by omega) (by omega) (by omega)
    cases hlv:lt d[(i+j) / 2]! d[a]! with
    | true =>
     rw[ho,hlv]at hl
     clear ho
     have HQ:=Box.mk hl
     clear hl
     go_wp2_with (go_at_fn g;refine HQ.out.mono ?_;rintro e w' ⟨rfl,hB⟩;have FB:=Box.mk (HW.out.below hB);clear hB)
     go_roundw
     case rel=>exact⟨(i+j) / 2+1,j,by go_num,rfl,by omega,by omega,by omega,FB,⟨fun h h1 h2=>srA_t hO H2.out (by omega) hlv h1 (by omega),HI.out.2⟩⟩
     case measure=>simp [intOf];omega
    | false =>
     rw[ho,hlv]at hl
     clear ho
     have HQ:=Box.mk hl
     clear hl
     go_wp2_with (go_at_fn g;refine HQ.out.mono ?_;rintro e w' ⟨rfl,hB⟩;have FB:=Box.mk (HW.out.below hB);clear hB)
     go_roundw
     case rel=>exact⟨i,(i+j) / 2,rfl,by go_num,by omega,by omega,by omega,FB,⟨HI.out.1,fun h h1 h2=>srA_f hO H2.out (by omega) hlv h1 h2⟩⟩
     case measure=>simp [intOf];omega
   ·obtain rfl:i=j:=by omega
    go_wp2
    go_loopw [11] (fun v11 wz=>∃(c:Nat) (dk:Array α),v11=.int .i64 c∧a≤c∧c+1≤i∧dk.size=d.size∧Box (Fam enc k blk off (A07 w0 g lb sf sb) dk wz)∧Box (PermIn a b d dk∧∀ q,dk[q]! = d[E9 a (a+1) (c+1) q]!)) (fun v11 _=>i-(intOf v11).toNat)
    case atStart=>exact⟨a,d,rfl,by omega,by omega,rfl,HW,⟨permIn_refl d _ _,fun q=>by rw[At3]⟩⟩
    case round =>
     obtain⟨c,dk,rfl,hac,hci,hsk,HK,HD⟩:=hrel
     have c1':=(F3 hb g lb sf sb HK.out).2
     clear c0 c1
     by_cases hend:c+1 < i
     ·have hs:=HS.out wr dk (HK.out.holds hb1 HH.out hsk) hsk c (c+1) (by omega) (by omega) (by omega)
      rw[show((c+1:Nat):Int)=(c:Int)+1 by omega]at hs
      have hend1:(c:Int) <(i:Int)-1:=by omega
      go_wp2
      go_roundw
      case rel =>
       exact⟨c+1,swp dk c (c+1),by go_num,by omega,by omega,by rw[Sort.size_swp];exact hsk,⟨HK.out.swap hk hb1 _ _ (by omega) (by omega)⟩,
        ⟨permIn_trans d dk _ _ _ HD.out.1 (swp_permIn dk a b c (c+1) (by omega) (by omega) (by omega) (by omega) (by omega)),B60 hac (by omega) hsk HD.out.2⟩⟩
      case measure=>simp [intOf];omega
     ·obtain rfl:i=c+1:=by omega
      have hend1:¬(c:Int) <((c+1:Nat):Int)-1:=by omega
      go_wp2
      (try simp only [Exit.inBlock,Exit.then]);refine bodyPost_ret (results_none rfl _ _ _) rfl ?_
      obtain rfl:=HM.out
      exact⟨rfl,dk,HF.out.trans hb HK.out hsk,hsk,HD.out.1,A4r hO H2.out (by omega) (by omega) (fun h h1 h2=>HI.out.1 h h1 h2) (fun h h1 h2=>HI.out.2 h h1 h2) HD.out.2⟩
 ·by_cases hlast:b=m+1
  ·have hone1:(b:Int)-m=1:=by omega
   have hone0:¬(m:Int)-a=1:=by omega
   have hma1:b≤m+1:=by omega
   have hma2:a+2≤m:=by omega
   have HM:=Box.mk hlast
   clear hlast hone
   go_enter Tryz.func277,Tryz.ntmps277
   go_wp2
   clear hone1 hone0
   have hx:((m:Int)-a == 1)=false:=beq_false_of_ne (by omega)
   try simp only [hx]
   clear hx
   go_loopw [12,13] (fun v8 v9 wr=>∃(i j:Nat),v8=.int .i64 i∧v9=.int .i64 j∧a≤i∧i≤j∧j≤m∧Box (Fam enc k blk off (A07 w0 g lb sf sb) d wr)∧Box ((∀ h,a≤h→h < i→lt d[m]! d[h]! = false)∧(∀ h,j≤h→h < m→lt d[m]! d[h]! = true))) (fun v8 v9 _=>(intOf v9).toNat-(intOf v8).toNat)
   case atStart=>exact⟨a,m,rfl,rfl,by omega,by omega,by omega,⟨Fam.start HH.out⟩,⟨fun h h1 h2=>by omega,fun h h1 h2=>by omega⟩⟩
   case round =>
    obtain⟨i,j,rfl,rfl,hai,hij,hjb,HW,HI⟩:=hrel
    have c:=F3 hb g lb sf sb HW.out
    have c0:=c.1
    have c1:=c.2
    clear c
    by_cases hlt:i < j
    ·have hl:=HL.out wr d HW.out rfl m ((i+j) / 2) (by omega) (by omega)
     have ho:=HO.out ((i+j) / 2) m (by omega) (by omega) (by omega) (by omega)
     cases hlv:lt d[m]! d[(i+j) / 2]! with
     | false =>
      rw[ho,hlv]at hl
      clear ho
      have HQ:=Box.mk hl
      clear hl
      go_wp2_with (go_at_fn g;refine HQ.out.mono ?_;rintro e w' ⟨rfl,hB⟩;have FB:=Box.mk (HW.out.below hB);clear hB)
      go_roundw
      case rel=>exact⟨(i+j) / 2+1,j,by go_num,rfl,by omega,by omega,by omega,FB,⟨fun h h1 h2=>srB_f hO H1.out (by omega) hlv h1 (by omega),HI.out.2⟩⟩
      case measure=>simp [intOf];omega
     | true =>
      rw[ho,hlv]at hl
      clear ho
      have HQ:=Box.mk hl
      clear hl
      go_wp2_with (go_at_fn g;refine HQ.out.mono ?_;rintro e w' ⟨rfl,hB⟩;have FB:=Box.mk (HW.out.below hB);clear hB)
      go_roundw
      case rel=>exact⟨i,(i+j) / 2,rfl,by go_num,by omega,by omega,by omega,FB,⟨HI.out.1,fun h h1 h2=>srB_t hO H1.out (by omega) hlv h1 h2⟩⟩
      case measure=>simp [intOf];omega
    ·obtain rfl:i=j:=by omega
     go_wp2
     go_loopw [15] (fun v11 wz=>∃(c:Nat) (dk:Array α),v11=.int .i64 c∧i≤c∧c≤m∧dk.size=d.size∧Box (Fam enc k blk off (A07 w0 g lb sf sb) dk wz)∧Box (PermIn a b d dk∧∀ q,dk[q]! = d[E9 c m (m+1) q]!)) (fun v11 _=>(intOf v11).toNat-i)
     case atStart=>exact⟨m,d,rfl,by omega,by omega,rfl,HW,⟨permIn_refl d _ _,fun q=>by rw[At5]⟩⟩
     case round =>
      obtain⟨c,dk,rfl,hac,hci,hsk,HK,HD⟩:=hrel
      have c1':=(F3 hb g lb sf sb HK.out).2
      clear c0 c1
      by_cases hend:i < c
      ·have hs:=HS.out wr dk (HK.out.holds hb1 HH.out hsk) hsk c (c-1) (by omega) (by omega) (by omega)
       rw[show((c-1:Nat):Int)=(c:Int)-1 by omega]at hs
       go_wp2
       go_roundw
       case rel =>
        have hd:=At4 (d:=d) (dk:=dk) (c:=c-1) (m:=m) (by omega) (by omega) hsk
        rw[show c-1+1=c by omega]at hd
        exact⟨c-1,swp dk c (c-1),by go_num,by omega,by omega,by rw[Sort.size_swp];exact hsk,⟨HK.out.swap hk hb1 _ _ (by omega) (by omega)⟩,
         ⟨permIn_trans d dk _ _ _ HD.out.1 (swp_permIn dk a b c (c-1) (by omega) (by omega) (by omega) (by omega) (by omega)),hd HD.out.2⟩⟩
       case measure=>simp [intOf];omega
      ·obtain rfl:i=c:=by omega
       go_wp2
       (try simp only [Exit.inBlock,Exit.then]);refine bodyPost_ret (results_none rfl _ _ _) rfl ?_
       obtain rfl:=HM.out
       exact⟨rfl,dk,HF.out.trans hb HK.out hsk,hsk,HD.out.1,A39 hO H1.out (by omega) (by omega) (fun h h1 h2=>HI.out.1 h h1 h2) (fun h h1 h2=>HI.out.2 h h1 h2) HD.out.2⟩
  ·have hone1:¬(b:Int)-m=1:=by omega
   have hone0:¬(m:Int)-a=1:=by omega
   clear hlast hone
   have hmid1:2*((a+b) / 2)≤a+b:=by omega
   have hmid2:a+b≤2*((a+b) / 2)+1:=by omega
   go_enter Tryz.func277,Tryz.ntmps277
   go_upto_if 106 with fail
   go_cut [18,19] (fun s18 s19 wx=>wx=A07 w0 g lb sf sb∧∃ s0 r0:Nat,s18=.int .i64 s0∧s19=.int .i64 r0∧a≤s0∧(a+b) / 2+m≤b+s0∧(s0=a∨s0+b=(a+b) / 2+m)∧r0≤m∧r0≤(a+b) / 2∧(r0=m∨r0=(a+b) / 2)∧s0≤r0)
   case first =>
    by_cases hm:(a+b) / 2 < m
    ·go_wp2
     go_meet
     case rel=>exact⟨rfl,(a+b) / 2+m-b,(a+b) / 2,by go_num,by go_num,by omega,by omega,by omega,by omega,by omega,by omega,by omega⟩
    ·go_wp2
     go_meet
     case rel=>exact⟨rfl,a,m,by go_num,by go_num,by omega,by omega,by omega,by omega,by omega,by omega,by omega⟩
   case rest =>
    obtain⟨rfl,s0,r0,rfl,rfl,g1,g2,g3,g4,g5,g6,g7⟩:=hcut
    go_wp2
    clear hone0 hone1
    go_loopw [18,19] (fun v8 v9 wr=>∃(i j:Nat),v8=.int .i64 i∧v9=.int .i64 j∧s0≤i∧i≤j∧j≤r0∧Box (Fam enc k blk off (A07 w0 g lb sf sb) d wr)∧Box ((∀ c,a≤c→(a+b) / 2+m≤b+c→c < i→lt d[(a+b) / 2+m-1-c]! d[c]! = false)∧(∀ c,j≤c→c < m→c <(a+b) / 2→lt d[(a+b) / 2+m-1-c]! d[c]! = true))) (fun v8 v9 _=>(intOf v9).toNat-(intOf v8).toNat)
    case atStart=>exact⟨s0,r0,rfl,rfl,by omega,by omega,by omega,⟨Fam.start HH.out⟩,⟨fun h h1 h2 h3=>by omega,fun h h1 h2 h3=>by omega⟩⟩
    case round =>
     obtain⟨i,j,rfl,rfl,hai,hij,hjb,HW,HI⟩:=hrel
     by_cases hlt:i < j
     ·have c:=F3 hb g lb sf sb HW.out
      have c0:=c.1
      have c1:=c.2
      clear c
      have hl:=HL.out wr d HW.out rfl ((a+b) / 2+m-1-(i+j) / 2) ((i+j) / 2) (by omega) (by omega)
      have ho:=HO.out ((i+j) / 2) ((a+b) / 2+m-1-(i+j) / 2) (by omega) (by omega) (by omega) (by omega)
      cases hlv:lt d[(a+b) / 2+m-1-(i+j) / 2]! d[(i+j) / 2]! with
      | false =>
       rw[ho,hlv,show(((a+b) / 2+m-1-(i+j) / 2:Nat):Int)=((a:Int)+b) / 2+m-1-((i:Int)+j) / 2 by omega]at hl
       clear ho
       have HQ:=Box.mk hl
       clear hl
       go_wp2_with (go_at_fn g;refine HQ.out.mono ?_;rintro e w' ⟨rfl,hB⟩;have FB:=Box.mk (HW.out.below hB);clear hB)
       go_roundw
       case rel=>exact⟨(i+j) / 2+1,j,by go_num,rfl,by omega,by omega,by omega,FB,⟨fun c h1 h2 h3=>srC_f hO H1.out H2.out (by omega) (by omega) hlv h1 (by omega) (by omega),HI.out.2⟩⟩
       case measure=>simp [intOf];omega
      | true =>
       rw[ho,hlv,show(((a+b) / 2+m-1-(i+j) / 2:Nat):Int)=((a:Int)+b) / 2+m-1-((i:Int)+j) / 2 by omega]at hl
       clear ho
       have HQ:=Box.mk hl
       clear hl
       go_wp2_with (go_at_fn g;refine HQ.out.mono ?_;rintro e w' ⟨rfl,hB⟩;have FB:=Box.mk (HW.out.below hB);clear hB)
       go_roundw
       case rel=>exact⟨i,(i+j) / 2,rfl,by go_num,by omega,by omega,by omega,FB,⟨HI.out.1,fun c h1 h2 h3=>srC_t hO H1.out H2.out (by omega) (by omega) hlv h1 h2 (by omega)⟩⟩
       case measure=>simp [intOf];omega
     ·obtain rfl:i=j:=by omega
      have HC:=Box.mk (Cut.mk (lt:=lt) (a:=a) (m:=m) (b:=b) (start:=i) (d:=d) (by omega) (by omega) (by omega) (by omega) HI.out.1 HI.out.2)
      have he:(((a+b) / 2+m-i:Nat):Int)=((a:Int)+b) / 2+m-i:=by omega
      have HE:=Box.mk he
      clear he
      go_upto_region 40 with fail
      go_cut [145] (fun s wx=>wx=wr∧s=.bool (decide (i < m∧m <(a+b) / 2+m-i)))
      case first =>
       by_cases h1:i < m
       ·by_cases h2:m <(a+b) / 2+m-i
        ·go_wp2
         go_meet
         case rel=>exact⟨rfl,(congrArg Value.bool (by first | exact(decide_eq_true (by omega)).symm | exact(decide_eq_false (by omega)).symm | exact decide_eq_decide.mpr (by omega)))⟩
        ·go_wp2
         go_meet
         case rel=>exact⟨rfl,(congrArg Value.bool (by first | exact(decide_eq_true (by omega)).symm | exact(decide_eq_false (by omega)).symm | exact decide_eq_decide.mpr (by omega)))⟩
       ·go_wp2
        go_meet
        case rel=>exact⟨rfl,(congrArg Value.bool (by first | exact(decide_eq_true (by omega)).symm | exact(decide_eq_false (by omega)).symm | exact decide_eq_decide.mpr (by omega)))⟩
      case rest =>
       obtain⟨rfl,rfl⟩:=hcut
       go_upto_if 145 with fail
       go_cut [] (fun wx=>∃ dA,Box (Fam enc k blk off (A07 w0 g lb sf sb) dA wx)∧Box (dA.size=d.size)∧Box (PermIn a b d dA∧∀ q,dA[q]! = d[E9 i m ((a+b) / 2+m-i) q]!))
       case first =>
        by_cases h12:i < m∧m <(a+b) / 2+m-i
        ·have hc:=Ac4 hk g lb sf sb wc d HS.out (HW.out.holds hb1 HH.out rfl) (by have:=HW.out.size;omega) i m ((a+b) / 2+m-i) h12.1 h12.2 (by omega) hsz
         rw[HE.out]at hc
         have HQ:=Box.mk hc
         have c:=F3 hb g lb sf sb HW.out
         have c0:=c.1
         have c1:=c.2
         clear c
         have h12b:decide (i < m∧m <(a+b) / 2+m-i)=true:=decide_eq_true h12
         clear hc
         go_wp2_with (go_at_call 289;refine HQ.out.mono ?_;rintro e w1 ⟨rfl,dA,f1,f2,f3,f4⟩;have FA:=Box.mk (HW.out.trans hb1 f1 f2);have SA:=Box.mk f2;have PA:=Box.mk f3;have RA:=Box.mk f4;clear f1 f2 f3 f4)
         go_meet
         case rel=>exact⟨dA,FA,SA,⟨H7 (by omega) (by omega) (by omega) PA.out,RA.out⟩⟩
        ·have h12b:decide (i < m∧m <(a+b) / 2+m-i)=false:=decide_eq_false h12
         go_wp2_with fail
         go_meet
         case rel=>exact⟨d,HW,⟨rfl⟩,⟨permIn_refl d _ _,fun q=>by rw[B3e (by omega) (by omega) (by omega)]⟩⟩
       case rest =>
        obtain⟨dA,FA,SA,PA⟩:=hcut
        have HP:=Box.mk (At6 hO H1.out H2.out ham hmb HC.out PA.out.2)
        have HR:=Box.mk (B77 ham hmb HC.out PA.out.2 HO.out)
        clear HW
        go_upto_region 42 with fail
        go_cut [158] (fun s wx=>wx=wc∧s=.bool (decide (a < i∧i <(a+b) / 2)))
        case first =>
         by_cases h1:a < i
         ·by_cases h2:i <(a+b) / 2
          ·go_wp2
           go_meet
           case rel=>exact⟨rfl,(congrArg Value.bool (by first | exact(decide_eq_true (by omega)).symm | exact(decide_eq_false (by omega)).symm | exact decide_eq_decide.mpr (by omega)))⟩
          ·go_wp2
           go_meet
           case rel=>exact⟨rfl,(congrArg Value.bool (by first | exact(decide_eq_true (by omega)).symm | exact(decide_eq_false (by omega)).symm | exact decide_eq_decide.mpr (by omega)))⟩
         ·go_wp2
          go_meet
          case rel=>exact⟨rfl,(congrArg Value.bool (by first | exact(decide_eq_true (by omega)).symm | exact(decide_eq_false (by omega)).symm | exact decide_eq_decide.mpr (by omega)))⟩
        case rest =>
         obtain⟨rfl,rfl⟩:=hcut
         go_upto_if 158 with fail
         go_cut [] (fun wx=>∃ dB,Box (Fam enc k blk off (A07 w0 g lb sf sb) dB wx)∧Box (dB.size=d.size)∧Box (PermIn a ((a+b) / 2) dA dB∧SortedIn lt a ((a+b) / 2) dB))
         case first =>
          by_cases h12:a < i∧i <(a+b) / 2
          ·have hc:=IH.out wc dA (by rw[SA.out];exact HL.out.on hb1 FA.out SA.out) (by rw[SA.out];exact HS.out) (FA.out.holds hb1 HH.out SA.out) (by have:=FA.out.size;omega) a i ((a+b) / 2) h12.1 h12.2 (by rw[SA.out];omega) (by rw[SA.out];exact hsz) (by omega) HR.out.1 HP.out.1 HP.out.2.1
           rw[show((((a+b) / 2:Nat)):Int)=((a:Int)+b) / 2 by omega]at hc
           have HQ:=Box.mk hc
           have c:=F3 hb g lb sf sb FA.out
           have c0:=c.1
           have c1:=c.2
           clear c
           have h12b:decide (a < i∧i <(a+b) / 2)=true:=decide_eq_true h12
           clear hc
           go_wp2_with (go_at_call 277;refine HQ.out.mono ?_;rintro e w1 ⟨rfl,dB,f1,f2,f3,f4⟩;have FB:=Box.mk (FA.out.trans hb1 f1 f2);have SB:=Box.mk (f2.trans SA.out);have PB:=Box.mk f3;have RB:=Box.mk f4;clear f1 f2 f3 f4)
           go_meet
           case rel=>exact⟨dB,FB,SB,⟨PB.out,RB.out⟩⟩
          ·have h12b:decide (a < i∧i <(a+b) / 2)=false:=decide_eq_false h12
           go_wp2_with fail
           go_meet
           case rel =>
            refine⟨dA,FA,SA,⟨permIn_refl dA _ _,?_⟩⟩
            have q1:=HC.out.hi2
            have q2:=HC.out.lo
            rcases Nat.lt_or_ge a i with q3 | q3
            ·have q4:i=(a+b) / 2:=by omega
             have q5:=HP.out.1
             rw[q4]at q5
             exact q5
            ·have q4:i=a:=by omega
             have q5:=HP.out.2.1
             rw[q4]at q5
             exact q5
         case rest =>
          obtain⟨dB,FB,SB,PB⟩:=hcut
          go_upto_region 44 with fail
          go_cut [171] (fun s wx=>wx=wc∧s=.bool (decide ((a+b) / 2 <(a+b) / 2+m-i∧(a+b) / 2+m-i < b)))
          case first =>
           by_cases h1:(a+b) / 2 <(a+b) / 2+m-i
           ·by_cases h2:(a+b) / 2+m-i < b
            ·go_wp2
             go_meet
             case rel=>exact⟨rfl,(congrArg Value.bool (by first | exact(decide_eq_true (by omega)).symm | exact(decide_eq_false (by omega)).symm | exact decide_eq_decide.mpr (by omega)))⟩
            ·go_wp2
             go_meet
             case rel=>exact⟨rfl,(congrArg Value.bool (by first | exact(decide_eq_true (by omega)).symm | exact(decide_eq_false (by omega)).symm | exact decide_eq_decide.mpr (by omega)))⟩
           ·go_wp2
            go_meet
            case rel=>exact⟨rfl,(congrArg Value.bool (by first | exact(decide_eq_true (by omega)).symm | exact(decide_eq_false (by omega)).symm | exact decide_eq_decide.mpr (by omega)))⟩
          case rest =>
           obtain⟨rfl,rfl⟩:=hcut
           have PA1:=PA.out.1
           have HX:=Box.mk (fun dC h1 h2=>B78 (lt:=lt) (mid:=(a+b) / 2) (dC:=dC) (by omega) (by omega) hbn PA1 HP.out.2.2.2.2 PB.out.1 PB.out.2 h1 h2)
           clear PA1
           by_cases h12:(a+b) / 2 <(a+b) / 2+m-i∧(a+b) / 2+m-i < b
           ·have hc:=IH.out wc dB (by rw[SB.out];exact HL.out.on hb1 FB.out SB.out) (by rw[SB.out];exact HS.out) (FB.out.holds hb1 HH.out SB.out) (by have:=FB.out.size;omega) ((a+b) / 2) ((a+b) / 2+m-i) b h12.1 h12.2 (by rw[SB.out];omega) (by rw[SB.out];exact hsz) (by omega) (B3f PB.out.1 HR.out.2) (T0 PB.out.1 (Nat.le_refl _) HP.out.2.2.1) (T0 PB.out.1 (by omega) HP.out.2.2.2.1)
            rw[HE.out,show((((a+b) / 2:Nat)):Int)=((a:Int)+b) / 2 by omega]at hc
            have HQ:=Box.mk hc
            have c:=F3 hb g lb sf sb FB.out
            have c0:=c.1
            have c1:=c.2
            clear c
            have h12b:decide ((a+b) / 2 <(a+b) / 2+m-i∧(a+b) / 2+m-i < b)=true:=decide_eq_true h12
            clear hc
            go_wp2_with (go_at_call 277;refine HQ.out.mono ?_;rintro e w1 ⟨rfl,dC,f1,f2,f3,f4⟩;have FC:=Box.mk (FB.out.trans hb1 f1 f2);have SC:=Box.mk (f2.trans SB.out);have PC:=Box.mk f3;have RC:=Box.mk f4;clear f1 f2 f3 f4)
            go_end0
            exact⟨rfl,dC,HF.out.trans hb FC.out SC.out,SC.out,HX.out dC PC.out RC.out⟩
           ·have h12b:decide ((a+b) / 2 <(a+b) / 2+m-i∧(a+b) / 2+m-i < b)=false:=decide_eq_false h12
            go_wp2_with fail
            go_end0
            refine⟨rfl,dB,HF.out.trans hb FB.out SB.out,SB.out,HX.out dB (permIn_refl dB _ _) ?_⟩
            have q1:=HC.out.hi
            have q2:=HC.out.lo2
            have q6:=HC.out.hi2
            rcases Nat.lt_or_ge ((a+b) / 2) ((a+b) / 2+m-i)with q3 | q3
            ·have q4:(a+b) / 2+m-i=b:=by omega
             have q5:=T0 PB.out.1 (Nat.le_refl _) HP.out.2.2.1
             rw[q4]at q5
             exact q5
            ·have q4:(a+b) / 2+m-i=(a+b) / 2:=by omega
             have q5:=T0 PB.out.1 (by omega) HP.out.2.2.2.1
             rw[q4]at q5
             exact q5
end
end Go.Proofs.YtphcaholhacnpaaGreat
namespace Go.Proofs.YtphcaholhacnpaaGreat
open Go.E
set_option maxRecDepth 100000
set_option maxHeartbeats 4000000
open Go Go.Sort Go.RowKit Go.Lib Go.Shelf Go.Proofs
section
variable {α : Type} [Inhabited α] {enc : α → List Value} {k blk off : Nat}
section
variable {lt0 lt : α → α → Bool} {d d' dk : Array α} {a b c n B : Nat}
def OB(lt0 lt:α→α→Bool)(n c:Nat)(d:Array α):Prop:=∀ p q,p < c→c≤q→q < n→lt0 d[q]! d[p]! = lt d[q]! d[p]!
theorem OB.keep(h:PermIn a b d d')(hb:b≤d.size)(hc:c≤a∨b≤c)(ho:OB lt0 lt n c d)(hbn:b≤n):OB lt0 lt n c d':=by
 intro p q h1 h2 h3
 rcases hc with hc | hc
 ·rw[h.2.1 p (by omega)]
  by_cases hq:a≤q∧q < b
  ·exact permIn_all d d' a b (fun x=>lt0 x d[p]! = lt x d[p]!) hb h (fun i hi him=>ho p i h1 (by omega) (by omega)) q hq.1 hq.2
  ·rw[h.2.1 q (by omega)];exact ho p q h1 h2 h3
 ·rw[h.2.1 q (by omega)]
  by_cases hp:a≤p∧p < b
  ·exact permIn_all d d' a b (fun x=>lt0 d[q]! x=lt d[q]! x) hb h (fun i hi him=>ho i q (by omega) h2 h3) p hp.1 hp.2
  ·rw[h.2.1 p (by omega)];exact ho p q h1 h2 h3
theorem U1(h1:B ∣ c)(h2:B ∣ a)(h:c < a):c+B≤a:=by
 obtain⟨x,rfl⟩:=h1
 obtain⟨y,rfl⟩:=h2
 have hxy:x < y:=by
  rcases Nat.lt_or_ge x y with h' | h'
  ·exact h'
  ·exact absurd h (Nat.not_lt.mpr (Nat.mul_le_mul_left B h'))
 calc B*x+B=B*(x+1):=by rw[Nat.mul_add,Nat.mul_one]
  _≤B*y:=Nat.mul_le_mul_left B hxy
theorem Ac5(h:2*B ∣ c):B ∣ c:=Nat.dvd_trans ⟨2,Nat.mul_comm 2 B⟩ h
structure Blocks (lt0 lt:α→α→Bool) (B n:Nat) (d:Array α):Prop where
 hi:∀ c,B ∣ c→SortedIn lt c (min (c+B) n) d
 o:∀ c,B ∣ c→OB lt0 lt n c d
structure Pass (lt0 lt:α→α→Bool) (B n a:Nat) (d:Array α):Prop where
 al:2*B ∣ a
 lo:∀ c,2*B ∣ c→c < a→SortedIn lt c (c+2*B) d
 hi:∀ c,B ∣ c→a≤c→SortedIn lt c (min (c+B) n) d
 o1:∀ c,2*B ∣ c→OB lt0 lt n c d
 o2:∀ c,B ∣ c→a≤c→OB lt0 lt n c d
theorem Blocks.start(h:Blocks lt0 lt B n d):Pass lt0 lt B n 0 d:=⟨Nat.dvd_zero _,fun c _ h1=>absurd h1 (Nat.not_lt_zero c),fun c h1 _=>h.hi c h1,fun c h1=>h.o c (Ac5 h1),fun c h1 _=>h.o c h1⟩
theorem Pass.args(h:Pass lt0 lt B n a d)(hb:b≤n)(h1:a+B < b)(h2:b=a+2*B∨(b=n∧b≤a+2*B)) :
  (∀ p q,a≤p→p < a+B→a+B≤q→q < b→lt0 d[q]! d[p]! = lt d[q]! d[p]!)∧SortedIn lt a (a+B) d∧SortedIn lt (a+B) b d:=by
 have hB:B ∣ a:=Ac5 h.al
 have hB2:B ∣ a+B:=Nat.dvd_add hB (Nat.dvd_refl B)
 refine⟨fun p q _ k2 k3 k4=>h.o2 (a+B) hB2 (by omega) p q k2 k3 (by omega),?_,?_⟩
 ·have:=h.hi a hB (Nat.le_refl _);rw[show min (a+B) n=a+B by omega]at this;exact this
 ·have:=h.hi (a+B) hB2 (by omega);rw[show min (a+B+B) n=b by omega]at this;exact this
theorem Pass.step(h:Pass lt0 lt B n a d)(hB:0 < B)(hn:n=d.size)(hb:a+2*B≤n)(hp:PermIn a (a+2*B) d d')(hs:SortedIn lt a (a+2*B) d'):Pass lt0 lt B n (a+2*B) d':=by
 refine⟨Nat.dvd_add h.al (Nat.dvd_refl _),fun c h1 h2=>?_,fun c h1 h2=>?_,fun c h1=>?_,fun c h1 h2=>?_⟩
 ·rcases Nat.lt_or_ge c a with h3 | h3
  ·have:=U1 h1 h.al h3
   exact I8 (h.lo c h1 h3) fun i k1 k2=>hp.2.1 i (by omega)
  ·have h4:c=a:=by
    rcases Nat.lt_or_ge a c with h5 | h5
    ·have:=U1 h.al h1 h5;omega
    ·omega
   rw[h4];exact hs
 ·exact I8 (h.hi c h1 (by omega)) fun i k1 k2=>hp.2.1 i (by omega)
 ·refine OB.keep hp (by omega) ?_ (h.o1 c h1) hb
  rcases Nat.lt_or_ge a c with h5 | h5
  ·exact Or.inr (U1 h.al h1 h5)
  ·exact Or.inl h5
 ·exact OB.keep hp (by omega) (Or.inr h2) (h.o2 c h1 (by omega)) hb
theorem Pass.last(h:Pass lt0 lt B n a d)(hB:0 < B)(hn:n=d.size)(ha:a≤n)(hb:n < a+2*B)(hp:PermIn a n d d')(hs:SortedIn lt a n d'):Blocks lt0 lt (2*B) n d':=by
 refine⟨fun c h1=>?_,fun c h1=>?_⟩
 ·rcases Nat.lt_or_ge c a with h3 | h3
  ·have:=U1 h1 h.al h3
   rw[show min (c+2*B) n=c+2*B by omega]
   exact I8 (h.lo c h1 h3) fun i k1 k2=>hp.2.1 i (by omega)
  ·rcases Nat.lt_or_ge a c with h5 | h5
   ·have:=U1 h.al h1 h5
    intro i j k1 k2 k3;omega
   ·have h4:c=a:=by omega
    rw[h4,show min (a+2*B) n=n by omega];exact hs
 ·rcases Nat.lt_or_ge a c with h5 | h5
  ·intro p q k1 k2 k3
   have:=U1 h.al h1 h5
   omega
  ·exact OB.keep hp (by omega) (Or.inl h5) (h.o1 c h1) (Nat.le_refl _)
theorem Pass.skip(h:Pass lt0 lt B n a d)(hb:n≤a+B):SortedIn lt a n d:=by
 have:=h.hi a (Ac5 h.al) (Nat.le_refl _);rw[show min (a+B) n=n by omega]at this;exact this
theorem Blocks.all(h:Blocks lt0 lt B n d)(hb:n≤B):SortedIn lt 0 n d:=by
 have:=h.hi 0 (Nat.dvd_zero _);rw[show min (0+B) n=n by omega]at this;exact this
theorem A0z(a i:Nat):∀(j:Nat) (d:Array α),a≤j→j≤i→i < d.size→PermIn a (i+1) d (insInner lt a j d)
 | 0,d,_,_,_=>permIn_refl d _ _
 | j+1,d,h1,h2,h3=>by
  unfold insInner
  split
  ·rename_i hc
   simp only [Bool.and_eq_true,decide_eq_true_eq]at hc
   exact permIn_trans _ _ _ a (i+1) (swp_permIn d a (i+1) (j+1) j (by omega) (by omega) (by omega) (by omega) (by omega)) (A0z a i j (swp d (j+1) j) (by omega) (by omega) (by rw[Sort.size_swp];exact h3))
  ·exact permIn_refl d _ _
theorem Z2(a:Nat):∀(j:Nat) (d:Array α),j < d.size→(∀ p,a≤p→p < j→lt0 d[j]! d[p]! = lt d[j]! d[p]!)→insInner lt0 a j d=insInner lt a j d
 | 0,d,_,_=>rfl
 | j+1,d,hj,h=>by
  unfold insInner
  by_cases hc:a < j+1
  ·rw[h j (by omega) (by omega)]
   split
   ·refine Z2 a j (swp d (j+1) j) (by rw[Sort.size_swp];omega) fun p h1 h2=>?_
    rw[swp_get d (by omega) (by omega),swp_get d (by omega) (by omega)]
    rw[if_pos rfl,if_neg (by omega),if_neg (by omega)]
    exact h p h1 (by omega)
   ·rfl
  ·rw[if_neg (by simp;omega),if_neg (by simp;omega)]
theorem Z3(a b:Nat):∀(m i:Nat) (d:Array α),b-i=m→a < i→b≤d.size→(∀ p q,a≤p→p < q→i≤q→q < b→lt0 d[q]! d[p]! = lt d[q]! d[p]!)→insOuter lt0 a b i d=insOuter lt a b i d
 | 0,i,d,hm,_,_,_=>by rw[insOuter_stop lt0 a b i d (by omega),insOuter_stop lt a b i d (by omega)]
 | m+1,i,d,hm,hai,hb,h=>by
  rw[insOuter_go lt0 a b i d (by omega),insOuter_go lt a b i d (by omega),Z2 a i d (by omega) (fun p h1 h2=>h p i h1 h2 (Nat.le_refl _) (by omega))]
  have hp:PermIn a (i+1) d (insInner lt a i d):=A0z a i i d (by omega) (Nat.le_refl _) (by omega)
  refine Z3 a b m (i+1) _ (by omega) (by omega) (by rw[hp.1];exact hb) fun p q h1 h2 h3 h4=>?_
  rw[hp.2.1 q (by omega)]
  by_cases hpi:p < i+1
  ·exact permIn_all d _ a (i+1) (fun x=>lt0 d[q]! x=lt d[q]! x) (by omega) hp (fun r k1 k2=>h r q k1 (by omega) (by omega) h4) p h1 hpi
  ·rw[hp.2.1 p (by omega)];exact h p q h1 h2 (by omega) h4
theorem A42(hb:b≤d.size)(h:∀ p q,a≤p→p < q→q < b→lt0 d[q]! d[p]! = lt d[q]! d[p]!):Sort.insertionSort lt0 d a b=Sort.insertionSort lt d a b :=
 Z3 a b _ (a+1) d rfl (by omega) hb fun p q h1 h2 _ h4=>h p q h1 h2 h4
structure First (lt0 lt:α→α→Bool) (B a:Nat) (d dk:Array α):Prop where
 sz:dk.size=d.size
 p:PermIn 0 d.size d dk
 al:B ∣ a
 lo:∀ c,B ∣ c→c < a→SortedIn lt c (c+B) dk
 o:∀ c,B ∣ c→OB lt0 lt d.size c dk
 same:∀ q,a≤q→dk[q]! = d[q]!
theorem First.start(hord:∀ p q,p < q→q < d.size→lt0 d[q]! d[p]! = lt d[q]! d[p]!):First lt0 lt B 0 d d :=
 ⟨rfl,permIn_refl d _ _,Nat.dvd_zero _,fun c _ h=>absurd h (Nat.not_lt_zero c),fun c _ p q h1 h2 h3=>hord p q (by omega) h3,fun _ _=>rfl⟩
theorem First.agree(h:First lt0 lt B a d dk)(hord:∀ p q,p < q→q < d.size→lt0 d[q]! d[p]! = lt d[q]! d[p]!)(hb:b≤d.size):Sort.insertionSort lt0 dk a b=Sort.insertionSort lt dk a b :=
 A42 (by rw[h.sz];exact hb) fun p q h1 h2 h3=>by rw[h.same p h1,h.same q (by omega)];exact hord p q h2 (by omega)
theorem First.step(h:First lt0 lt B a d dk)(hO:SWO lt)(hB:0 < B)(hb:a+B≤d.size):First lt0 lt B (a+B) d (Sort.insertionSort lt dk a (a+B)):=by
 obtain⟨hp,hs⟩:=insertionSort_holds hO dk a (a+B) (by omega) (by rw[h.sz];exact hb)
 refine⟨hp.1.trans h.sz,permIn_trans _ _ _ _ _ h.p (H7 (Nat.zero_le _) hb (by rw[h.sz];exact Nat.le_refl _) hp),Nat.dvd_add h.al (Nat.dvd_refl _),fun c h1 h2=>?_,fun c h1=>?_,fun q hq=>?_⟩
 ·rcases Nat.lt_or_ge c a with h3 | h3
  ·have:=U1 h1 h.al h3
   exact I8 (h.lo c h1 h3) fun i k1 k2=>hp.2.1 i (by omega)
  ·have h4:c=a:=by
    rcases Nat.lt_or_ge a c with h5 | h5
    ·have:=U1 h.al h1 h5;omega
    ·omega
   rw[h4];exact hs
 ·refine OB.keep hp (by rw[h.sz];exact hb) ?_ (h.o c h1) hb
  rcases Nat.lt_or_ge a c with h5 | h5
  ·exact Or.inr (U1 h.al h1 h5)
  ·exact Or.inl h5
 ·rw[hp.2.1 q (by omega)];exact h.same q (by omega)
theorem First.last(h:First lt0 lt B a d dk)(hO:SWO lt)(hB:0 < B)(ha:a≤d.size)(hb:d.size < a+B):Blocks lt0 lt B d.size (Sort.insertionSort lt dk a d.size)∧PermIn 0 d.size d (Sort.insertionSort lt dk a d.size):=by
 obtain⟨hp,hs⟩:=insertionSort_holds hO dk a d.size ha (by rw[h.sz];exact Nat.le_refl _)
 refine⟨⟨fun c h1=>?_,fun c h1=>?_⟩,permIn_trans _ _ _ _ _ h.p (H7 (Nat.zero_le _) (Nat.le_refl _) (by rw[h.sz];exact Nat.le_refl _) hp)⟩
 ·rcases Nat.lt_or_ge c a with h3 | h3
  ·have:=U1 h1 h.al h3
   rw[show min (c+B) d.size=c+B by omega]
   exact I8 (h.lo c h1 h3) fun i k1 k2=>hp.2.1 i (by omega)
  ·rcases Nat.lt_or_ge a c with h5 | h5
   ·have:=U1 h.al h1 h5
    intro i j k1 k2 k3;omega
   ·have h4:c=a:=by omega
    rw[h4,show min (a+B) d.size=d.size by omega];exact hs
 ·rcases Nat.lt_or_ge a c with h5 | h5
  ·intro p q k1 k2 k3
   have:=U1 h.al h1 h5
   omega
  ·exact OB.keep hp (by rw[h.sz];exact Nat.le_refl _) (Or.inl h5) (h.o c h1) (Nat.le_refl _)
end
set_option maxHeartbeats 8000000 in
theorem Ac6 (hk:∀ x,(enc x).length=k) (lt0 lt:α→α→Bool) (hO:SWO lt) (g:Nat) (lb:Array Value) (sf:Nat) (sb:Array Value) (hg:D5 Tryz.prog g) (w0:World) (d:Array α) (hless:A0x g lb enc k lt0 blk off d.size w0) (hswap:A0v sf sb enc k blk off d.size) (hH:HoldsK enc k w0 blk off d) (hb:blk < w0.heap.size)
  (hsz:d.size < 1152921504606846976) (hord:∀ p q,p < q→q < d.size→lt0 d[q]! d[p]! = lt d[q]! d[p]!) :
  Calls Tryz.prog 240 #[.agg #[.func (.func g) #[] lb,.func (.func sf) #[] sb],.int .i64 d.size] w0 fun e w' =>
   e=.returned (.tuple #[])∧∃ d',Fam enc k blk off w0 d' w'∧d'.size=d.size∧PermIn 0 d.size d d'∧SortedIn lt 0 d.size d':=by
 have HF:=Box.mk (A0w hH g lb sf sb)
 have hb1:blk <(A07 w0 g lb sf sb).heap.size:=by rw[O0];omega
 have HH:=Box.mk (HF.out.holds hb hH rfl)
 have HS:=Box.mk hswap
 have HL:=Box.mk (hless.on hb HF.out rfl)
 have HO:=Box.mk hord
 clear hswap hless hord
 generalize hn:d.size=n at hsz
 have HN:=Box.mk hn
 clear hn
 go_enter Tryz.func240,Tryz.ntmps240
 go_wp2
 go_loopw [5,6] (fun v5 v6 wr=>∃(a:Nat) (dk:Array α),v5=.int .i64 a∧v6=.int .i64 ((a:Int)+20)∧a≤n∧Box (Fam enc k blk off (A07 w0 g lb sf sb) dk wr)∧Box (First lt0 lt 20 a d dk)) (fun v5 _ _=>n-(intOf v5).toNat)
 case atStart=>exact⟨0,d,rfl,rfl,by omega,⟨Fam.start HH.out⟩,⟨First.start HO.out⟩⟩
 case round =>
  obtain⟨a,dk,rfl,rfl,han,HW,HI⟩:=hrel
  have c:=F3 hb g lb sf sb HW.out
  have c0:=c.1
  have c1:=c.2
  clear c
  by_cases hfit:a+20≤n
  ·have hc:=Z1 hk lt0 g lb sf sb wr dk hg (by rw[HI.out.sz];exact HL.out.on hb1 HW.out HI.out.sz) (by rw[HI.out.sz];exact HS.out) (HW.out.holds hb1 HH.out HI.out.sz) (by have:=HW.out.size;omega) a (a+20) (by omega) (by rw[HI.out.sz,HN.out];exact hfit) (by rw[HI.out.sz,HN.out];omega)
   rw[show((a+20:Nat):Int)=(a:Int)+20 by omega,HI.out.agree HO.out (by rw[HN.out];exact hfit)]at hc
   have HQ:=Box.mk hc
   have HI2:=Box.mk (HI.out.step hO (by omega) (by rw[HN.out];exact hfit))
   clear hc
   go_wp2_with (go_at_call 255;refine HQ.out.mono ?_;rintro e w1 ⟨rfl,f1⟩;have FA:=Box.mk (HW.out.trans hb1 f1 (HI2.out.sz.trans HI.out.sz.symm));clear f1)
   go_roundw
   case rel=>exact⟨a+20,_,by go_num,by go_num,hfit,FA,HI2⟩
   case measure=>simp [intOf];omega
  ·have hc:=Z1 hk lt0 g lb sf sb wr dk hg (by rw[HI.out.sz];exact HL.out.on hb1 HW.out HI.out.sz) (by rw[HI.out.sz];exact HS.out) (HW.out.holds hb1 HH.out HI.out.sz) (by have:=HW.out.size;omega) a n han (by rw[HI.out.sz,HN.out];exact Nat.le_refl _) (by rw[HI.out.sz,HN.out];omega)
   rw[HI.out.agree HO.out (by rw[HN.out];exact Nat.le_refl _)]at hc
   have HQ:=Box.mk hc
   have HI2:=HI.out.last hO (by omega) (by rw[HN.out];exact han) (by rw[HN.out];omega)
   rw[HN.out]at HI2
   have HI3:=Box.mk HI2
   clear hc HI2
   go_wp2_with (go_at_call 255;refine HQ.out.mono ?_;rintro e w1 ⟨rfl,f1⟩;have FA:=Box.mk (HW.out.trans hb1 f1 (by rw[HI3.out.2.1,HI.out.sz]));clear f1)
   go_loopw [4] (fun v4 wr=>∃(B:Nat) (dj:Array α),v4=.int .i64 B∧0 < B∧(B≤20∨B < 2*n)∧Box (Fam enc k blk off (A07 w0 g lb sf sb) dj wr)∧Box (dj.size=d.size)∧Box (Blocks lt0 lt B n dj∧PermIn 0 n d dj)) (fun v4 _=>n-(intOf v4).toNat)
   case atStart=>exact⟨20,_,rfl,by omega,by omega,FA,⟨HI3.out.2.1⟩,HI3⟩
   case round =>
    obtain⟨B,dj,rfl,hB0,hBn,FJ,SJ,HJ⟩:=hrel
    clear c0 c1
    by_cases hbn:B < n
    ·go_wp2
     go_loopw [5,6] (fun v5 v6 wr=>∃(a:Nat) (dl:Array α),v5=.int .i64 a∧v6=.int .i64 ((a:Int)+2*B)∧a≤n∧Box (Fam enc k blk off (A07 w0 g lb sf sb) dl wr)∧Box (dl.size=d.size)∧Box (Pass lt0 lt B n a dl∧PermIn 0 n d dl)) (fun v5 _ _=>n-(intOf v5).toNat)
     case atStart=>exact⟨0,dj,rfl,by go_num,by omega,FJ,SJ,⟨HJ.out.1.start,HJ.out.2⟩⟩
     case round =>
      obtain⟨a,dl,rfl,rfl,han,FL,SL,HP⟩:=hrel
      have c:=F3 hb g lb sf sb FL.out
      have c0:=c.1
      have c1:=c.2
      clear c
      by_cases hfit:a+2*B≤n
      ·have PG:=HP.out.1.args (b:=a+2*B) hfit (by omega) (Or.inl rfl)
       have hc:=A0y hk lt0 lt hO g lb sf sb hg (2*B) wr dl (by rw[SL.out];exact HL.out.on hb1 FL.out SL.out) (by rw[SL.out];exact HS.out) (FL.out.holds hb1 HH.out SL.out) (by have:=FL.out.size;omega) a (a+B) (a+2*B) (by omega) (by omega) (by rw[SL.out,HN.out];omega) (by rw[SL.out,HN.out];omega) (by omega) PG.1 PG.2.1 PG.2.2
       rw[show((a+B:Nat):Int)=(a:Int)+B by omega,show((a+2*B:Nat):Int)=(a:Int)+2*B by omega]at hc
       have HQ:=Box.mk hc
       clear hc PG
       go_wp2_with (go_at_call 277;refine HQ.out.mono ?_;rintro e w1 ⟨rfl,dM,f1,f2,f3,f4⟩;have FA:=Box.mk (FL.out.trans hb1 f1 f2);have SA:=Box.mk (f2.trans SL.out);have PA:=Box.mk f3;have RA:=Box.mk f4;clear f1 f2 f3 f4)
       go_roundw
       case rel =>
        exact⟨a+2*B,dM,by go_num,by go_num,hfit,FA,SA,⟨HP.out.1.step hB0 (by rw[SL.out,HN.out]) hfit PA.out RA.out,permIn_trans d dl dM _ _ HP.out.2 (H7 (by omega) hfit (by rw[SL.out,HN.out];exact Nat.le_refl _) PA.out)⟩⟩
       case measure=>simp [intOf];omega
      ·by_cases hmn:a+B < n
       ·have PG:=HP.out.1.args (b:=n) (Nat.le_refl _) hmn (Or.inr ⟨rfl,by omega⟩)
        have hc:=A0y hk lt0 lt hO g lb sf sb hg n wr dl (by rw[SL.out];exact HL.out.on hb1 FL.out SL.out) (by rw[SL.out];exact HS.out) (FL.out.holds hb1 HH.out SL.out) (by have:=FL.out.size;omega) a (a+B) n (by omega) (by omega) (by rw[SL.out,HN.out];omega) (by rw[SL.out,HN.out];omega) (by omega) PG.1 PG.2.1 PG.2.2
        rw[show((a+B:Nat):Int)=(a:Int)+B by omega]at hc
        have HQ:=Box.mk hc
        clear hc PG
        go_wp2_with (go_at_call 277;refine HQ.out.mono ?_;rintro e w1 ⟨rfl,dM,f1,f2,f3,f4⟩;have FA:=Box.mk (FL.out.trans hb1 f1 f2);have SA:=Box.mk (f2.trans SL.out);have PA:=Box.mk f3;have RA:=Box.mk f4;clear f1 f2 f3 f4)
        go_roundw
        case rel =>
         exact⟨2*B,dM,by go_num,by omega,by omega,FA,SA,⟨HP.out.1.last hB0 (by rw[SL.out,HN.out]) han (by omega) PA.out RA.out,permIn_trans d dl dM _ _ HP.out.2 (H7 (by omega) (Nat.le_refl _) (by rw[SL.out,HN.out];exact Nat.le_refl _) PA.out)⟩⟩
        case measure=>simp [intOf];omega
       ·go_wp2
        go_roundw
        case rel =>
         exact⟨2*B,dl,by go_num,by omega,by omega,FL,SL,⟨HP.out.1.last hB0 (by rw[SL.out,HN.out]) han (by omega) (permIn_refl dl _ _) (HP.out.1.skip (by omega)),HP.out.2⟩⟩
        case measure=>simp [intOf];omega
    ·go_wp2
     go_end0
     exact⟨rfl,dj,HF.out.trans hb FJ.out SJ.out,SJ.out.trans HN.out,HJ.out.2,HJ.out.1.all (by omega)⟩
end
end Go.Proofs.YtphcaholhacnpaaGreat
namespace Go.Proofs.YtphcaholhacnpaaGreat
open Go.E
set_option maxRecDepth 100000
set_option maxHeartbeats 4000000
open Go Go.Sort Go.RowKit Go.Lib Go.Shelf Go.Proofs
section
variable {α : Type} [Inhabited α] {enc : α → List Value} {k blk off : Nat}
def stS(lt:α→α→Bool)(d:Array α):Array α:=(d.toList.mergeSort (fun x y=>!lt y x)).toArray
theorem Ai6(lt:α→α→Bool)(d:Array α):(stS lt d).size=d.size:=by simp [stS]
def ltT(lt:α→α→Bool)(x y:α×Nat):Bool:=lt x.1 y.1 || (!lt y.1 x.1 && decide (x.2 < y.2))
theorem B3g{lt:α→α→Bool}{x y:α×Nat}:ltT lt x y=true↔lt x.1 y.1=true∨(lt y.1 x.1=false∧x.2 < y.2):=by simp [ltT]
theorem A43{lt:α→α→Bool}{x y:α×Nat}:ltT lt x y=false↔lt x.1 y.1=false∧(lt y.1 x.1=true∨y.2≤x.2):=by
 simp only [ltT,Bool.or_eq_false_iff,Bool.and_eq_false_iff,Bool.not_eq_false',decide_eq_false_iff_not,Nat.not_lt]
theorem Ai7{lt:α→α→Bool}(hO:SWO lt){x y z:α}(h1:lt x y=true)(h2:lt z y=false):lt x z=true:=by
 cases h:lt x z with
 | true=>rfl
 | false=>rw[hO.ntrans _ _ _ h h2]at h1;cases h1
theorem A8y{lt:α→α→Bool}(hO:SWO lt){x y z:α}(h1:lt y x=false)(h2:lt y z=true):lt x z=true:=by
 cases h:lt x z with
 | true=>rfl
 | false=>rw[hO.ntrans _ _ _ h1 h]at h2;cases h2
theorem Ay9{lt:α→α→Bool}(hO:SWO lt):SWO (ltT lt):=by
 refine⟨fun x=>A43.2 ⟨hO.irrefl _,Or.inr (Nat.le_refl _)⟩,fun x y z h1 h2=>?_,fun x y z h1 h2=>?_⟩
 ·rw[B3g]at h1 h2 ⊢
  rcases h1 with h1 | ⟨h1,t1⟩ <;> rcases h2 with h2 | ⟨h2,t2⟩
  ·exact Or.inl (hO.trans _ _ _ h1 h2)
  ·exact Or.inl (Ai7 hO h1 h2)
  ·exact Or.inl (A8y hO h1 h2)
  ·exact Or.inr ⟨hO.ntrans _ _ _ h2 h1,by omega⟩
 ·rw[A43]at h1 h2 ⊢
  obtain⟨h1,g1⟩:=h1
  obtain⟨h2,g2⟩:=h2
  refine⟨hO.ntrans _ _ _ h1 h2,?_⟩
  rcases g1 with g1 | g1
  ·exact Or.inl (A8y hO h2 g1)
  ·rcases g2 with g2 | g2
   ·exact Or.inl (Ai7 hO g2 h1)
   ·exact Or.inr (by omega)
theorem ltT_le{lt:α→α→Bool}(hO:SWO lt):(fun x y=>!ltT lt y x)=List.zipIdxLE (fun x y=>!lt y x):=by
 funext x y
 simp only [List.zipIdxLE,ltT]
 by_cases h1:lt y.1 x.1=true <;> by_cases h2:lt x.1 y.1=true <;> simp [h1,h2]
 rw[Bool.eq_iff_iff];simp
def J2(d:Array α):Array (α×Nat):=d.toList.zipIdx.toArray
theorem G5(d:Array α):(J2 d).size=d.size:=by simp [J2]
theorem A5k(d:Array α){i:Nat}(h:i < d.size):(J2 d)[i]! =(d[i]!,i):=by
 rw[getElem!_pos (J2 d) i (by rw[G5];exact h),getElem!_pos d i h]
 simp [J2]
theorem A8z(lt:α→α→Bool)(d:Array α):∀ p q,p < q→q <(J2 d).size→(fun x y:α×Nat=>lt x.1 y.1) (J2 d)[q]! (J2 d)[p]! = ltT lt (J2 d)[q]! (J2 d)[p]!:=by
 intro p q h1 h2
 rw[G5]at h2
 rw[A5k d h2,A5k d (show p < d.size by omega)]
 simp only [ltT]
 rw[decide_eq_false (by omega)];simp
theorem A10(d:Array (α×Nat))(i:Nat):(d.map (·.1))[i]! = d[i]!.1:=by
 by_cases h:i < d.size
 ·rw[getElem!_pos (d.map (·.1)) i (by simpa using h),getElem!_pos d i h];simp
 ·rw[getElem!_neg (d.map (·.1)) i (by simpa using h),getElem!_neg d i h];rfl
theorem Ac7(d:Array α):(J2 d).map (·.1)=d:=by
 simp [J2]
theorem A44(d:Array (α×Nat)):flatK (fun x=>enc x.1) k d=flatK enc k (d.map (·.1)):=by
 unfold flatK
 rw[Array.size_map]
 congr 1
 funext t
 rw[A10]
theorem Ac8(lt:α→α→Bool)(hO:SWO lt)(d:Array α)(d':Array (α×Nat))(hp:PermIn 0 (J2 d).size (J2 d) d')(hs:SortedIn (ltT lt) 0 (J2 d).size d'):d'.map (·.1)=stS lt d:=by
 have hperm:d'.toList.Perm (J2 d).toList:=by
  obtain⟨hsz,_,hperm⟩:=hp
  have e1:d'.extract 0 (J2 d).size=d':=by rw[← hsz];exact Array.extract_size
  rw[e1,Array.extract_size]at hperm
  exact hperm
 have hT:=Ay9 hO
 have e:d'.toList=(d.toList.zipIdx).mergeSort (List.zipIdxLE (fun x y=>!lt y x)):=by
  rw[← ltT_le hO]
  refine List.Perm.eq_of_pairwise (le:=fun x y=>(!ltT lt y x)=true) ?_ ?_ ?_ (hperm.trans (by simpa [J2]using(List.mergeSort_perm d.toList.zipIdx _).symm))
  ·rintro⟨a,i⟩ ⟨b,j⟩ ha hb h1 h2
   have ha':(a,i)∈d.toList.zipIdx:=by have:=hperm.subset ha;simpa [J2]using this
   have hb':(b,j)∈d.toList.zipIdx:=List.mem_mergeSort.1 hb
   simp only [Bool.not_eq_true']at h1 h2
   rw[A43]at h1 h2
   simp only at h1 h2
   have hij:i=j:=by
    obtain⟨k1,k2⟩:=h1
    obtain⟨k3,k4⟩:=h2
    rw[k3]at k2
    rw[k1]at k4
    simp at k2 k4
    omega
   subst hij
   have m1:=List.mem_zipIdx ha'
   have m2:=List.mem_zipIdx hb'
   simp_all
  ·rw[List.pairwise_iff_getElem]
   intro i j hi hj hij
   have hi':i < d'.size:=by simpa using hi
   have hj':j < d'.size:=by simpa using hj
   have:=hs i j (Nat.zero_le _) hij (by rw[← hp.1];exact hj')
   rw[getElem!_pos d' j hj',getElem!_pos d' i hi']at this
   simpa using this
  ·refine List.pairwise_mergeSort ?_ ?_ _
   ·intro a b c h1 h2
    simp only [Bool.not_eq_true']at h1 h2 ⊢
    exact hT.ntrans _ _ _ h2 h1
   ·intro a b
    cases h:ltT lt b a with
    | false=>rfl
    | true=>simp [hT.asymmA h]
 unfold stS
 rw[← List.mergeSort_zipIdx,← e]
 exact(Array.toList_inj).1 (by simp)
theorem A45(hk:∀ x,(enc x).length=k)(lt:α→α→Bool)(hO:SWO lt)(g:Nat)(lb:Array Value)(sf:Nat)(sb:Array Value)(hg:D5 Tryz.prog g)(w0:World)(d:Array α)(hless:A0x g lb enc k lt blk off d.size w0)(hswap:A0v sf sb enc k blk off d.size)(hH:HoldsK enc k w0 blk off d)(hb:blk < w0.heap.size)
  (hsz:d.size < 1152921504606846976) :
  Calls Tryz.prog 240 #[.agg #[.func (.func g) #[] lb,.func (.func sf) #[] sb],.int .i64 d.size] w0 fun e w' =>
   e=.returned (.tuple #[])∧Fam enc k blk off w0 (stS lt d) w':=by
 have fam:∀ dk W,Fam (fun x:α×Nat=>enc x.1) k blk off w0 dk W→Fam enc k blk off w0 (dk.map (·.1)) W:=by
  rintro dk W ⟨q,os,rfl⟩
  exact⟨q,os,by unfold putRowK;rw[A44]⟩
 have hold:∀ dk W,HoldsK (fun x:α×Nat=>enc x.1) k W blk off dk→HoldsK enc k W blk off (dk.map (·.1)):=by
  intro dk W h
  unfold HoldsK at h ⊢
  rw[← A44];exact h
 have h:=Ac6 (enc:=fun x:α×Nat=>enc x.1) (fun x=>hk x.1) (fun x y=>lt x.1 y.1) (ltT lt) (Ay9 hO) g lb sf sb hg w0 (J2 d) (blk:=blk) (off:=off)
  (fun W dk hF hs i j hi hj=>by
   rw[G5]at hs hi hj
   have:=hless W _ (fam dk W hF) (by simpa using hs) i j hi hj
   rw[A10,A10]at this
   exact this)
  (fun W dk hF hs i j hi hj hij=>by
   rw[G5]at hs hi hj
   have:=hswap W _ (hold dk W hF) (by simpa using hs) i j hi hj hij
   rw[A10,A10]at this
   exact this)
  (by unfold HoldsK at hH ⊢;rw[A44,Ac7];exact hH) hb (by rw[G5];exact hsz) (A8z lt d)
 rw[G5]at h
 refine h.mono ?_
 rintro e w' ⟨rfl,d',f1,f2,f3,f4⟩
 refine⟨rfl,?_⟩
 rw[← Ac8 lt hO d d' (by rw[G5];exact f3) (by rw[G5];exact f4)]
 exact fam d' w' f1
end
end Go.Proofs.YtphcaholhacnpaaGreat
namespace Go.Proofs.YtphcaholhacnpaaGreat
open Go.E
set_option maxRecDepth 100000
set_option maxHeartbeats 4000000
open Go Go.Sort Go.RowKit Go.Lib Go.Shelf Go.Proofs
section
variable {α : Type} [Inhabited α] {enc : α → List Value} {k blk off : Nat}
noncomputable def Az0(e:TypeId)(ie:TypeInfo)(ke:Nat)(p:Option Addr)(n c:Nat):Array Value :=
 if swapperK n ie ke≤2 then #[]else #[.slice p n c,typeHandle Tryz.prog e]
noncomputable def A11(t:TypeId)(p:Option Addr)(n c:Nat)(w:World):World :=
 (w.alloc (.cells #[.slice p n c] t)).alloc (.cells #[.pointer (some ⟨Tryz.prog.globals.size,t,none⟩),.pointer (some ⟨w.heap.size,0,none⟩),.int .u64 151] 249)
set_option maxHeartbeats 4000000 in
theorem Z4 (t e:TypeId) (i ie:TypeInfo) (hi:Tryz.prog.info? t=some i) (hd:i.desc=.slice e) (hpk:Tryz.prog.packed t=false) (hie:Tryz.prog.info? e=some ie) (ke:Nat) (hke:∀ w,(Extern.Rtype.kind e).run Tryz.prog w=.ok ke w)
  (p:Option Addr) (n c:Nat) (hn:n < 1152921504606846976) (f:Nat) (hf:Tryz.prog.funcs.findIdx? (·.name == "internal/reflectlite"++".Swapper$"++toString (swapperK n ie ke))=some f) (lf:Fn) (la lb:Array Value) (w:World) (R:World→Prop)
  (hp:Calls Tryz.prog 240 #[.agg #[.func lf la lb,.func (.func f) #[] (Az0 e ie ke p n c)],.int .i64 n] (A11 t p n c w) fun e w'=>e=.returned (.tuple #[])∧R w') :
  Calls Tryz.prog 210 #[.iface t (.slice p n c),.func lf la lb] w fun e w'=>e=.returned (.tuple #[])∧R w':=by
 have hv:=run_valueOf_slice (P:=Tryz.prog) t e i hi hd p n c w
 have hs:=fun w=>run_swapper_slice (P:=Tryz.prog) t e i ie hi hd hie ke hke p n c f hf w
 have hl:=fun a w ha=>run_valueLen_slice (P:=Tryz.prog) t e i hi hd hpk a p n c w ha
 unfold Az0 A11 at hp
 generalize (if swapperK n ie ke≤2 then(#[]:Array Value)else #[.slice p n c,typeHandle Tryz.prog e])=B at hs hp
 have hz:Tryz.prog.globals.size=1:=by kernel_rfl
 simp only [typeHandle,hz]at hv hl hp
 have HP:=Box.mk hp
 have HV:=Box.mk hv
 have HS:=Box.mk hs
 have HL:=Box.mk hl
 clear hp hv hs hl
 go_enter Tryz.func210,Tryz.ntmps210
 go_wp2
 rw[run_callFunc_extern Tryz.func218 (by kernel_rfl) (by kernel_rfl) (by kernel_rfl) (e:=fun args=>Extern.ReflectliteValue.unpack (args.getD 0 (.tuple #[]))) (by kernel_rfl),
  show Sem.run Tryz.prog ((fun args:Array Value=>Extern.ReflectliteValue.unpack (args.getD 0 (.tuple #[]))) #[.iface t (.slice p n c)]) w=_ from HV.out]
 simp only [Result.andThen]
 rw[Oper.upon_value]
 go_wp2
 rw[run_callFunc_extern Tryz.func219 (by kernel_rfl) (by kernel_rfl) (by kernel_rfl) (e:=Extern.ReflectliteSwapper.swapper "internal/reflectlite" (Extern.ReflectliteValue.valueError "Swapper")) (by kernel_rfl),HS.out]
 simp only [Result.andThen]
 rw[Oper.upon_value]
 go_wp2
 rw[run_callFunc_extern Tryz.func220 (by kernel_rfl) (by kernel_rfl) (by kernel_rfl) (e:=Extern.ReflectliteValue.method (Extern.ReflectliteValue.valueError "reflectlite.Value.Len" 0) Extern.ReflectliteValue.len) (by kernel_rfl),
  HL.out _ _ (by simp)]
 simp only [Result.andThen]
 rw[Oper.upon_value]
 go_wp2_with (go_at_call 240;refine HP.out.mono ?_;rintro e w' ⟨rfl,hR⟩;have HR:=Box.mk hR;clear hR)
 go_end0
 exact⟨rfl,HR.out⟩
theorem A4s(gS:Bool)(sf:Nat)(hx:∀ args W,(callFunc sf args).run Tryz.prog W=((Extern.ReflectliteSwapper.swap gS args).run Tryz.prog W).andThen fun v w'=>.ok (.value v) w')
  (e:TypeId) (ie:TypeInfo) (hie:Tryz.prog.info? e=some ie) (hk:∀ x,(enc x).length=k) (hs:ie.size=k) (hagg:∀ w,(isAgg e).run Tryz.prog w=.ok true w) (h1:∀ x,∀ v∈enc x,v.oneCell'=true) (n c:Nat) :
  A0v sf #[.slice (some ⟨blk,off,none⟩) n c,typeHandle Tryz.prog e] enc k blk off n:=by
 intro W dk hH hsz i j hi hj _
 subst hs
 have cc:∀ x,x < dk.size→∀ u v,(enc dk[x]!)[u]?=some v→W.cell? ⟨blk,off+x*ie.size+u,none⟩=some v:=fun x hx u v h=>by
  have hu:u < ie.size:=by rw[← hk dk[x]!];exact(List.getElem?_eq_some_iff.mp h).1
  rw[(hH.cell hx hu).1];simp [h]
 have:=run_swap_cells (P:=Tryz.prog) gS e ie hie hagg blk off n c i j hi hj (enc dk[i]!) (enc dk[j]!) (hk _) (hk _) (h1 _) (h1 _) W (cc i (by omega)) (cc j (by omega))
  (fun u hu=>(hH.cell (by omega) hu).2) (fun u hu=>(hH.cell (by omega) hu).2)
 rw[hx,show(#[Value.int .i64 (i:Int),Value.int .i64 (j:Int)]++#[Value.slice (some ⟨blk,off,none⟩) n c,typeHandle Tryz.prog e])=#[.int .i64 i,.int .i64 j,.slice (some ⟨blk,off,none⟩) n c,typeHandle Tryz.prog e]from rfl,this]
 rfl
end
open Go Go.Sort Go.RowKit Go.Lib Go.Shelf Go.Proofs
section
variable {α : Type} [Inhabited α] {enc : α → List Value} {k blk off : Nat}
theorem swK_gt(n:Nat)(ie:TypeInfo)(ke:Nat)(h2:2≤n):¬ swapperK n ie ke≤2:=by
 have c:(n == 0)=false:=by simp;omega
 have d:(n == 1)=false:=by simp;omega
 unfold swapperK
 simp only [c,d,Bool.false_eq_true,if_false]
 repeat' split
 all_goals omega
structure SortTy (t e k:Nat) (fN:Nat→Nat):Prop where
 ex:∃ i ie ke gS,Tryz.prog.info? t=some i∧i.desc=.slice e∧Tryz.prog.packed t=false∧Tryz.prog.info? e=some ie∧(∀ w,(Extern.Rtype.kind e).run Tryz.prog w=.ok ke w) ∧
  (∀ n,Tryz.prog.funcs.findIdx? (·.name == "internal/reflectlite"++".Swapper$"++toString (swapperK n ie ke))=some (fN n))∧ie.size=k∧(∀ w,(isAgg e).run Tryz.prog w=.ok true w) ∧
  (∀ n,2≤n→∀ args W,(callFunc (fN n) args).run Tryz.prog W=((Extern.ReflectliteSwapper.swap gS args).run Tryz.prog W).andThen fun v w'=>.ok (.value v) w')
theorem A29{t e:Nat}{fN:Nat→Nat}(hT:SortTy t e k fN)(hk:∀ x,(enc x).length=k)(h1:∀ x,∀ v∈enc x,v.oneCell'=true)(lt:α→α→Bool)(hO:SWO lt)(g:Nat)(lb:Array Value)(hg:D5 Tryz.prog g)(c:Nat)(d:Array α)
  (hsz:d.size < 1152921504606846976) (w:World) (hless:A0x g lb enc k lt blk off d.size w) (hH:HoldsK enc k w blk off d) (hb:blk < w.heap.size) :
  Calls Tryz.prog 210 #[.iface t (.slice (some ⟨blk,off,none⟩) d.size c),.func (.func g) #[] lb] w fun e w'=>e=.returned (.tuple #[])∧Fam enc k blk off w (stS lt d) w':=by
 obtain⟨i,ie,ke,gS,a1,a2,a3,a4,a5,a6,a7,a8,a9⟩:=hT.ex
 refine Z4 t e i ie a1 a2 a3 a4 ke a5 _ d.size c hsz (fN d.size) (a6 _) (.func g) #[] lb w _ ?_
 have F0:Fam enc k blk off w d (A11 t (some ⟨blk,off,none⟩) d.size c w):=((Fam.start hH).alloc _).alloc _
 have hb0:blk <(A11 t (some ⟨blk,off,none⟩) d.size c w).heap.size:=Nat.lt_of_lt_of_le hb F0.size
 refine(A45 hk lt hO g lb (fN d.size) _ hg _ d (hless.on hb F0 rfl) ?_ (F0.holds hb hH rfl) hb0 hsz).mono ?_
 ·by_cases h2:2≤d.size
  ·unfold Az0
   rw[if_neg (swK_gt _ _ _ h2)]
   exact A4s gS (fN d.size) (a9 _ h2) e ie a4 hk a7 a8 h1 d.size c
  ·intro W dk _ _ i j hi hj hij
   omega
 ·rintro e' w' ⟨rfl,hF⟩
  exact⟨rfl,F0.trans hb hF (Ai6 lt d)⟩
theorem A46{t e:Nat}{fN:Nat→Nat}(hT:SortTy t e k fN)(lt:α→α→Bool)(hO:SWO lt)(hk:∀ x,(enc x).length=k)(g:Nat)(lb:Array Value)(hg:D5 Tryz.prog g)(w:World) :
  Calls Tryz.prog 210 #[.iface t (.slice none 0 0),.func (.func g) #[] lb] w fun e w'=>e=.returned (.tuple #[])∧Below w.heap.size w w':=by
 obtain⟨i,ie,ke,gS,a1,a2,a3,a4,a5,a6,a7,a8,a9⟩:=hT.ex
 refine Z4 t e i ie a1 a2 a3 a4 ke a5 none 0 0 (by omega) (fN 0) (a6 _) (.func g) #[] lb w _ ?_
 have hsize:(A11 t none 0 0 w).heap.size=w.heap.size+2:=by simp [A11]
 have hB0:Below w.heap.size w (A11 t none 0 0 w):=by
  unfold A11
  exact((Below.refl _ w).alloc (Nat.le_refl _) _).alloc (by simp) _
 refine(A45 (blk:=w.heap.size) (off:=0) (enc:=enc) hk lt hO g lb (fN 0) _ hg (A11 t none 0 0 w) (#[]:Array α) (fun W dk _ _ i j hi hj=>by simp at hi) (fun W dk _ _ i j hi hj=>by simp at hi) (fun j hj=>by simp at hj) (by rw[hsize];omega) (by simp)).mono ?_
 rintro e' w' ⟨rfl,hF⟩
 have f:=hF.facts
 refine⟨rfl,hB0.trans ⟨f.1,f.2.1,f.2.2.1,hF.size,fun j hj=>f.2.2.2 j (by rw[hsize];omega) (by omega)⟩⟩
end
end Go.Proofs.YtphcaholhacnpaaGreat
namespace Go.Proofs.YtphcaholhacnpaaGreat
open Go.E
set_option maxRecDepth 100000
set_option maxHeartbeats 4000000
open Go Go.Sort Go.RowKit Go.Lib Go.Shelf Go.Proofs
section
variable {α : Type} [Inhabited α] {encA : α → List AV} {k blk : Nat}
def A9f(encA:α→List AV)(x:α):List Value:=(encA x).map valA
theorem A47(d:List α):(d.map (A9f encA)).flatten=((d.map encA).flatten).map valA:=by
 induction d with
 | nil=>rfl
 | cons x d ih=>simp only [List.map_cons,List.flatten_cons,List.map_append,ih,A9f]
theorem Ao3(hk:∀ x,(encA x).length=k)(hp:∀ x,∀ a∈encA x,L4 a=true)(lt:α→α→Bool)(g:Nat)
  (hcon:∀(d:List α) (i j:Nat),i < d.length→j < d.length→Con Tryz.prog g [.i .i64 i,.i .i64 j,.eptr [.sl (d.map encA)]] (.b (lt d[i]! d[j]!)))
  {w:World} {gv n cap:Nat} (hgv:gv < w.heap.size) (hne:gv≠blk) (hb:blk < w.heap.size) (hc:w.cell? ⟨gv,0,none⟩=some (.slice (some ⟨blk,0,none⟩) n cap)) (hn:n≤cap) (hm:n≤maxLen) (d0:Array α) (hs0:d0.size=n) (hH:HoldsK (A9f encA) k w blk 0 d0) :
  A0x g #[.pointer (some ⟨gv,0,none⟩)] (A9f encA) k lt blk 0 n w:=by
 intro W dk hF hs i j hi hj
 have hkV:∀ x,(A9f encA x).length=k:=fun x=>by simp [A9f,hk]
 have hHW:HoldsK (A9f encA) k W blk 0 dk:=hF.holds hb hH (by omega)
 have hsize:=hF.size
 have hcW:W.cell? ⟨gv,0,none⟩=some (.slice (some ⟨blk,0,none⟩) n cap):=by rw[hF.cell hgv hne];exact hc
 have hlen:dk.toList.length=n:=by simpa using hs
 have hrel:RelV0 (fun b=>b < W.heap.size) W (.sl (dk.toList.map encA)) (.slice (some ⟨blk,0,none⟩) n cap):=by
  have hl:(dk.toList.map encA).length=n:=by simpa using hs
  have hel:∀ j q,j < n→q < k→∃ a,(encA dk[j]!)[q]?=some a∧L4 a=true∧(A9f encA dk[j]!)[q]! = valA a:=by
   intro j q hj hq
   have hq':q <(encA dk[j]!).length:=by rw[hk];exact hq
   refine⟨(encA dk[j]!)[q],List.getElem?_eq_getElem hq',hp _ _ (List.getElem_mem hq'),?_⟩
   rw[getElem!_pos _ q (by rw[hkV];exact hq)]
   simp [A9f]
  have:=RelV0.sl (S:=fun b=>b < W.heap.size) (w:=W) (dk.toList.map encA) (some ⟨blk,0,none⟩) cap k (fun j q=>if j < n∧q < k then(A9f encA dk[j]!)[q]! else .bool false) (by omega) (by omega) (fun h=>by cases h)
   (fun r hr=>by obtain⟨x,_,rfl⟩:=List.mem_map.1 hr;exact hk x)
   (fun _=>⟨⟨blk,0,none⟩,rfl,by show blk < W.heap.size;omega,fun j q hj hq=>by
    have:=(hHW.cell (i:=j) (c:=q) (by omega) hq).1
    rw[if_pos ⟨by omega,hq⟩,← this]
    congr 1
    simp [Addr.add]
    try (intros;omega)⟩)
   (fun j q=>by
    split
    ·rename_i h
     obtain⟨a,_,h2,h3⟩:=hel j q h.1 h.2
     rw[h3]
     exact N1 h2
    ·rfl)
   (fun j q r a hr ha=>by
    have hj:j < n:=by have:=lt_of_getElem? hr;omega
    rw[List.getElem?_map]at hr
    have e1:dk.toList[j]?=some dk[j]!:=by rw[Array.getElem?_toList,getElem?_pos dk j (by omega),getElem!_pos dk j (by omega)]
    rw[e1,Option.map_some,Option.some.injEq]at hr
    subst hr
    have hq:q < k:=by have:=lt_of_getElem? ha;rw[hk]at this;exact this
    rw[if_pos ⟨hj,hq⟩]
    obtain⟨a',h1,h2,h3⟩:=hel j q hj hq
    rw[ha,Option.some.injEq]at h1
    subst h1
    rw[h3]
    exact A0g h2)
  rw[hl]at this
  exact this
 have hC:=(hcon dk.toList i j (by omega) (by omega)).2 W (fun b=>b < W.heap.size) [.int .i64 i,.int .i64 j,.pointer (some ⟨gv,0,none⟩)] (fun _ h=>h) rfl (fun q a u ha hu=>by
  match q with
  | 0=>simp only [List.getElem?_cons_zero,Option.some.injEq]at ha hu;subst ha;subst hu;exact .i _ _
  | 1=>simp only [List.getElem?_cons_succ,List.getElem?_cons_zero,Option.some.injEq]at ha hu;subst ha;subst hu;exact .i _ _
  | 2 =>
   simp only [List.getElem?_cons_succ,List.getElem?_cons_zero,Option.some.injEq]at ha hu
   subst ha;subst hu
   refine .eptr _ ⟨gv,0,none⟩ (fun _=>.slice (some ⟨blk,0,none⟩) n cap) (by show gv < W.heap.size;omega) (fun q hq=>?_) (fun _=>rfl) (fun q a ha=>?_)
   ·have:q=0:=by simpa using hq
    subst this
    exact hcW
   ·have:q=0:=by have:=lt_of_getElem? ha;simpa using this
    subst this
    simp only [List.getElem?_cons_zero,Option.some.injEq]at ha
    subst ha
    exact hrel
  | q+3=>simp at ha)
 refine hC.mono ?_
 rintro e w' ⟨v,rfl,hr,hB⟩
 cases hr
 refine⟨?_,hB⟩
 rw[← Array.getElem!_toList,← Array.getElem!_toList]
theorem B3h{t e:Nat}{fN:Nat→Nat}(hT:SortTy t e k fN)(hk:∀ x,(encA x).length=k)(hp:∀ x,∀ a∈encA x,L4 a=true)(lt:α→α→Bool)(hO:SWO lt)(g:Nat)(hg:D5 Tryz.prog g)(hS:D5 Tryz.prog 210)
  (hcon:∀(d:List α) (i j:Nat),i < d.length→j < d.length→Con Tryz.prog g [.i .i64 i,.i .i64 j,.eptr [.sl (d.map encA)]] (.b (lt d[i]! d[j]!))) (d:List α) (hlen:d.length < 1152921504606846976) :
  B12 Tryz.prog 210 g t true e k (d.map encA) ((d.mergeSort (fun x y=>!lt y x)).map encA):=by
 have hkV:∀ x,(A9f encA x).length=k:=fun x=>by simp [A9f,hk]
 have hone:∀ x,∀ v∈A9f encA x,v.oneCell'=true:=by
  intro x v hv
  obtain⟨a,ha,rfl⟩:=List.mem_map.1 hv
  exact N1 (hp x a ha)
 have hpl:∀ l:List α,∀ a∈(l.map encA).flatten,L4 a=true:=by
  intro l a ha
  obtain⟨r,hr,har⟩:=List.mem_flatten.1 ha
  obtain⟨x,_,rfl⟩:=List.mem_map.1 hr
  exact hp x a har
 refine⟨hS,by simp,fun r hr=>?_,hpl _,hpl _,fun w base v cv ho hcap=>?_⟩
 ·obtain⟨x,_,rfl⟩:=List.mem_map.1 hr;exact hk x
 ·obtain⟨gv,rfl,q1,q2,q3⟩:=hcap rfl
  simp only [if_true]
  rw[List.length_map]at ho ⊢
  rcases ho.2 with⟨rfl,h0⟩ | ⟨b,cap,cur,rfl,hb,hh,h1,h2,h3,h4⟩
  ·have:d=[]:=List.eq_nil_of_length_eq_zero h0
   subst this
   refine(A46 (enc:=A9f encA) hT lt hO hkV g #[.pointer (some ⟨gv,0,none⟩)] hg w).mono ?_
   rintro e' w' ⟨rfl,hB⟩
   refine⟨rfl,⟨by simp,.inl ⟨rfl,rfl⟩⟩,fun j hj _=>hB.block j hj,hB.os,hB.tape,hB.output,hB.size⟩
  ·have hbl:b < w.heap.size:=(Array.getElem?_eq_some_iff.1 hh).1
   have hne:gv≠b:=fun e=>q3 (by rw[e];rfl)
   have hHd:HoldsK (A9f encA) k w b 0 d.toArray:=M2 hkV ho (by simp) (by rw[← A47])
   have hl:=Ao3 (blk:=b) hk hp lt g hcon q1 hne hbl q2 h1 (by omega) d.toArray (by simp) hHd
   have hw:=A29 (blk:=b) (off:=0) (enc:=A9f encA) hT hkV hone lt hO g #[.pointer (some ⟨gv,0,none⟩)] hg cap d.toArray (by simp;omega) w (by simpa using hl) hHd hbl
   rw[show d.toArray.size=d.length by simp]at hw
   refine hw.mono ?_
   rintro e' w' ⟨rfl,hF⟩
   have f:=hF.facts
   have ow:=hF.owns hkV (Ai6 lt d.toArray) (by rw[← A47]) (by simp) ho
   refine⟨rfl,?_,fun j hj hjb=>f.2.2.2 j hj (fun e=>hjb (by rw[e];rfl)),f.1,f.2.1,f.2.2.1,hF.size⟩
   rw[← A47]
   exact ow
end
end Go.Proofs.YtphcaholhacnpaaGreat
namespace Go.Proofs.YtphcaholhacnpaaGreat
open Go.E
set_option maxRecDepth 100000
set_option maxHeartbeats 4000000
open Go Go.Sort Go.RowKit Go.Lib Go.Shelf Go.Proofs
def renClE:Go.Shelf.Ren:=⟨fun | 41=>142 | n=>n,fun | 4=>4 | 22=>22 | 23=>46 | n=>n,fun n=>n⟩
theorem B79:Go.Proofs.SlLaysE0.n41 Tryz.prog renClE:={ mixed:=by kernel_rfl,f41:=⟨Tryz.f142.name,by decide,Tryz.func142.trans (congrArg some (by kernel_rfl))⟩,t4:=Tryz.underlying4,a4:=Tryz.isAgg4,z4:=Tryz.sizeOf4,v4:=Tryz.zeroValue4,t22:=Tryz.underlying22,a22:=Tryz.isAgg22,z22:=Tryz.sizeOf22,v22:=Tryz.zeroValue22 }
theorem con142(es:List Entry)(hl:es.length*40≤140737488355328):A4h Tryz.prog 142 [.sl (es.map c46)] 46 (.row 4 (es.map c46)) :=
 A1k (T:=tab) B79 A6 (te:=_) rfl ⟨_,Tryz.func142,by kernel_rfl,by kernel_rfl⟩ (by kernel_rfl) (by decide +kernel) (fun r hr=>by obtain⟨x,_,rfl⟩:=List.mem_map.1 hr;kernel_rfl) (by rw[List.length_map];exact hl)
noncomputable def tiRowE:TypeInfo:=(Tryz.prog.info? 22).get!
noncomputable def tiE:TypeInfo:=(Tryz.prog.info? 46).get!
def swE(n:Nat):Nat:=if n=0 then 244 else if n=1 then 245 else 252
theorem swKE(n:Nat)(h2:2≤n):swapperK n tiE 25=9:=by
 have b:tiE.bytes=40:=by kernel_rfl
 have c:(n == 0)=false:=by simp;omega
 have d:(n == 1)=false:=by simp;omega
 simp [swapperK,b,c,d]
theorem B7a:SortTy 22 46 4 swE:=by
 refine⟨tiRowE,tiE,25,false,by kernel_rfl,by kernel_rfl,by kernel_rfl,by kernel_rfl,fun _=>by kernel_rfl,fun n=>?_,by kernel_rfl,fun _=>by kernel_rfl,fun n h2=>?_⟩
 ·match n with
  | 0=>show _=some 244;kernel_rfl
  | 1=>show _=some 245;kernel_rfl
  | n+2 =>
   rw[swKE _ (by omega)]
   simp only [swE]
   rw[if_neg (by omega),if_neg (by omega)]
   show _=some 252
   kernel_rfl
 ·have e:swE n=252:=by simp only [swE];rw[if_neg (by omega),if_neg (by omega)]
  rw[e]
  exact fun args W=>run_callFunc_extern Tryz.func252 (by kernel_rfl) (by kernel_rfl) (by kernel_rfl) (e:=Extern.ReflectliteSwapper.swap false) (by kernel_rfl) args W
def ltE(a b:Entry):Bool:=dLt a.dot b.dot
theorem Ac9:SWO ltE:=by
 refine⟨fun x=>?_,fun x y z h1 h2=>?_,fun x y z h1 h2=>?_⟩ <;> simp only [ltE,dLt,decide_eq_true_eq,decide_eq_false_iff_not]at*<;> omega
theorem con211(d:List Entry)(i j:Int)(hi0:0≤i)(hj0:0≤j)(hi:i < d.length)(hj:j < d.length):Con Tryz.prog 211 [.i .i64 i,.i .i64 j,.eptr [.sl (d.map c46)]] (.b (ltE d[i.toNat]! d[j.toNat]!)) :=
 by
 refine sC A6 [.tmp 5] 17 Tryz.func211 ?_
 intro e0 cx
 refine sq<|rG cx [0,1,2] [] z0<|sn<|sq<|rA cx [5] [] (fA (0≤i) (fG c46 d i.toNat (fR 4 (fN 2 4 (fA (0≤j) (fG c46 d j.toNat (fR 4 (fN 2 4 (fT (con99 (d[i.toNat]!.dot) (d[j.toNat]!.dot)) (oR 2 (c46 d[i.toNat]!) (oR 7 (c46 d[j.toNat]!) (oA 10 (.b (dLt d[i.toNat]!.dot d[j.toNat]!.dot)) z0))))))))))))<|sn<|rT<|qR (.b (dLt d[i.toNat]!.dot d[j.toNat]!.dot)) (.eq ?g0);rotate_left
 case g0=>exact rfl
theorem io210(d:List Entry)(hlen:d.length < 1152921504606846976) :
  U9 Tryz.prog 210 211 (some 22) true 46 4 (d.map c46) ((d.mergeSort (fun x y=>!ltE y x)).map c46):=by
 refine B12.toG (fun r hr=>by obtain⟨x,_,rfl⟩:=List.mem_map.1 hr;rfl) ?_
 exact B3h (α:=Entry) (encA:=c46) (k:=4) B7a (fun x=>rfl)
  (fun x a ha=>by
   simp only [c46,List.mem_cons,List.not_mem_nil,or_false]at ha
   rcases ha with rfl | rfl | rfl | rfl <;> rfl)
  ltE Ac9 211 ⟨_,Tryz.func211,by kernel_rfl,by kernel_rfl⟩ ⟨_,Tryz.func210,by kernel_rfl,by kernel_rfl⟩
  (fun d i j hi hj=>by
   have:=con211 d (i:Int) (j:Int) (by omega) (by omega) (by omega) (by omega)
   rw[Int.toNat_natCast,Int.toNat_natCast]at this
   exact this) d hlen
def A48(es:List Entry):List Entry:=es.mergeSort (fun x y=>!ltE y x)
theorem A49(es:List Entry):(A48 es).length=es.length:=by simp [A48]
def B7b(es:List Entry):Int:=match es.find? (fun e=>decide (N9 e≠0))with | some e=>N9 e | none=>0
def M4(s:List Entry):Nat→Option (List Entry)
 | 0=>some []
 | n+1=>match M4 s n with
  | none=>none
  | some l=>if n=0∨s[n-1]!.dot≠s[n]!.dot then some (l++[s[n]!])else if s[n-1]! = s[n]! then some l else none
def A4a(s:List Entry):List Entry×Int:=match M4 s s.length with | some l=>(l,0) | none=>([],10)
def P9(es:List Entry):List Entry×Int:=if B7b es=0 then A4a (A48 es)else([],B7b es)
theorem B7c{es:List Entry}(h:∀ j:Nat,j < es.length→N9 es[j]! = 0):B7b es=0:=by
 unfold B7b
 have:es.find? (fun e=>decide (N9 e≠0))=none:=by
  rw[List.find?_eq_none]
  intro x hx
  obtain⟨j,hj,rfl⟩:=List.mem_iff_getElem.1 hx
  have:=h j hj
  rw[getElem!_pos es j hj]at this
  simp [this]
 rw[this]
theorem B3i{es:List Entry}:∀ {i:Nat},i < es.length→¬ N9 es[i]! = 0→(∀ j:Nat,j < i→N9 es[j]! = 0)→B7b es=N9 es[i]!:=by
 induction es with
 | nil=>intro i hi;simp at hi
 | cons e es ih =>
  intro i hi hb hok
  cases i with
  | zero =>
   have hb':¬ N9 e=0:=by simpa using hb
   unfold B7b
   simp [List.find?_cons,hb']
  | succ i =>
   have h0:N9 e=0:=by simpa using hok 0 (by omega)
   have:=ih (i:=i) (by simpa using hi) (by simpa using hb) (fun j hj=>by simpa using hok (j+1) (by omega))
   unfold B7b at this ⊢
   simpa [List.find?_cons,h0]using this
theorem A5l{s:List Entry}{n:Nat}(h:M4 s n=none):∀ m,M4 s (n+m)=none
 | 0=>h
 | m+1=>by rw[← Nat.add_assoc,M4,A5l h m]
def Az1(s:List Entry):Prop:=s.Pairwise (fun x y=>(!ltE y x)=true)
theorem Ao4(es:List Entry):Az1 (A48 es):=by
 refine List.pairwise_mergeSort (le:=fun x y=>!ltE y x) ?_ ?_ es
 ·intro a b c h1 h2
  simp only [Bool.not_eq_true']at *
  exact Ac9.ntrans _ _ _ h2 h1
 ·intro a b
  cases h:ltE b a with
  | false=>rfl
  | true=>simp [Ac9.asymmA h]
theorem Az2(s:List Entry):(A4a s).1.length≤s.length:=by
 have:∀ n l,M4 s n=some l→l.length≤n:=by
  intro n
  induction n with
  | zero=>intro l h;simp [M4]at h;simp [← h]
  | succ n ih =>
   intro l h
   rw[M4]at h
   split at h
   ·cases h
   ·rename_i l0 h0
    have:=ih l0 h0
    split at h
    ·simp only [Option.some.injEq]at h;rw[← h];simp;omega
    ·split at h
     ·simp only [Option.some.injEq]at h;rw[← h];omega
     ·cases h
 unfold A4a
 split
 ·rename_i l h;exact this _ _ h
 ·simp
theorem Az3(es:List Entry):(P9 es).1.length≤es.length:=by
 unfold P9
 split
 ·have:=Az2 (A48 es)
  rwa [A49]at this
 ·simp
def Az4(es:List Entry)(i:Int):Prop:=0≤i∧i≤es.length∧∀ j:Nat,(j:Int) < i→N9 es[j]! = 0
end Go.Proofs.YtphcaholhacnpaaGreat
namespace Go.Proofs.YtphcaholhacnpaaGreat
open Go.E
set_option maxRecDepth 100000
set_option maxHeartbeats 4000000
def inv57(s:List Entry)(i:Int)(l:List Entry):Prop:=0≤i∧i≤s.length∧M4 s i.toNat=some l∧(l.length:Int)≤i
def Ai8(s:List Entry)(i:Int)(a l:List Entry):Prop:=a=s∧0≤i∧i≤s.length∧M4 s i.toNat=some l∧(l.length:Int)≤i
def dec25c(s:List Entry)(i:Int)(a l:List Entry):Nat:=(s.length-i).toNat
def J4(es:List Entry)(d:Dot):Entry×Bool:=match es.find? (fun e=>decide (e.dot=d))with | some e=>(e,true) | none=>(default,false)
def B7d(es:List Entry)(d:Dot)(i r n a b:Int)(s:ByteArray)(q:Int):Prop:=0≤i∧i≤es.length∧r=d.rep∧n=d.num∧∀ j:Nat,(j:Int) < i→¬ es[j]!.dot=d
def dec28(es:List Entry)(i r n a b:Int)(s:ByteArray)(q:Int):Nat:=(es.length-i).toNat
theorem A90{es:List Entry}{i:Nat}(hi:i < es.length)(hb:¬ N9 es[i]! = 0)(hok:∀ j:Nat,j < i→N9 es[j]! = 0):P9 es=([],N9 es[i]!):=by
 have:=B3i hi hb hok
 unfold P9
 rw[this,if_neg hb]
theorem A12{es:List Entry}(hok:∀ j:Nat,j < es.length→N9 es[j]! = 0):P9 es=A4a (A48 es):=by
 unfold P9
 rw[if_pos (B7c hok)]
theorem A1t{s l:List Entry}{i:Int}(h0:0≤i)(h:M4 s i.toNat=some l) :
  M4 s (i+1).toNat=if ¬(0 < i∧s[(i-1).toNat]!.dot=s[i.toNat]!.dot)then some (l++[s[i.toNat]!])else if s[(i-1).toNat]! = s[i.toNat]! then some l else none:=by
 have e:(i+1).toNat=i.toNat+1:=by omega
 have e2:(i-1).toNat=i.toNat-1:=by omega
 rw[e,M4,h,e2]
 have hc:(i.toNat=0∨s[i.toNat-1]!.dot≠s[i.toNat]!.dot)↔¬(0 < i∧s[i.toNat-1]!.dot=s[i.toNat]!.dot):=by
  constructor
  ·rintro(h | h) ⟨h1,h2⟩
   ·omega
   ·exact h h2
  ·intro h
   by_cases z:i.toNat=0
   ·exact .inl z
   ·exact .inr fun g=>h ⟨by omega,g⟩
 simp only [hc]
theorem B3j{s l:List Entry}{i:Int}(h0:0≤i)(h:M4 s i.toNat=some l)(hi:i < s.length)(hl:(l.length:Int)≤i)(hc:¬(0 < i∧s[(i-1).toNat]!.dot=s[i.toNat]!.dot)):inv57 s (i+1) (l++[s[i.toNat]!]) :=
 ⟨by omega,by omega,by rw[A1t h0 h,if_pos hc],by simp;omega⟩
theorem Az5{s l:List Entry}{i:Int}(h0:0≤i)(h:M4 s i.toNat=some l)(hi:i < s.length)(hl:(l.length:Int)≤i)(hc:0 < i∧s[(i-1).toNat]!.dot=s[i.toNat]!.dot)(he:¬ ¬ s[(i-1).toNat]! = s[i.toNat]!):inv57 s (i+1) l :=
 ⟨by omega,by omega,by rw[A1t h0 h,if_neg (fun k=>k hc),if_pos (Classical.not_not.1 he)],by omega⟩
theorem A5m{s l:List Entry}{i:Int}(h0:0≤i)(h:M4 s i.toNat=some l)(hi:i < s.length)(hc:0 < i∧s[(i-1).toNat]!.dot=s[i.toNat]!.dot)(he:¬ s[(i-1).toNat]! = s[i.toNat]!):A4a s=([],10):=by
 have h1:M4 s (i+1).toNat=none:=by rw[A1t h0 h,if_neg (fun k=>k hc),if_neg he]
 have h2:=A5l h1 (s.length-(i+1).toNat)
 rw[show(i+1).toNat+(s.length-(i+1).toNat)=s.length by omega]at h2
 unfold A4a
 rw[h2]
theorem Ai9{s l:List Entry}{i:Int}(h0:0≤i)(h:M4 s i.toNat=some l)(h1:i≤s.length)(hi:¬ i < s.length):A4a s=(l,0):=by
 unfold A4a
 rw[show s.length=i.toNat by omega,h]
theorem Az6{es:List Entry}{d:Dot}:∀ {i:Nat},i < es.length→es[i]!.dot=d→(∀ j:Nat,j < i→¬ es[j]!.dot=d)→J4 es d=(es[i]!,true):=by
 induction es with
 | nil=>intro i hi;simp at hi
 | cons e es ih =>
  intro i hi hb hok
  cases i with
  | zero =>
   have hb':e.dot=d:=by simpa using hb
   unfold J4
   simp [List.find?_cons,hb']
  | succ i =>
   have h0:¬ e.dot=d:=by simpa using hok 0 (by omega)
   have:=ih (i:=i) (by simpa using hi) (by simpa using hb) (fun j hj=>by simpa using hok (j+1) (by omega))
   unfold J4 at this ⊢
   simpa [List.find?_cons,h0]using this
theorem Az7{es:List Entry}{d:Dot}(h:∀ j:Nat,j < es.length→¬ es[j]!.dot=d):J4 es d=(default,false):=by
 unfold J4
 have:es.find? (fun e=>decide (e.dot=d))=none:=by
  rw[List.find?_eq_none]
  intro x hx
  obtain⟨j,hj,rfl⟩:=List.mem_iff_getElem.1 hx
  have:=h j hj
  rw[getElem!_pos es j hj]at this
  simpa using this
 rw[this]
theorem con168(es:List Entry)(hl:es.length*40≤140737488355328):Con Tryz.prog 168 [.sl (es.map c46)] (.tup [.sl ((P9 es).1.map c46),.i .i64 (P9 es).2]) :=
 by
 have hL:(es.mergeSort fun x y=>!ltE y x).length=es.length:=by simp
 have hS:=A49 es
 refine lN 0 c46 (es) Tryz.func168 fun hl_0=>sC A6 [.tmp 2,.tmp 3] 62 Tryz.func168 ?_
 intro e0 cx
 refine sq<|rG cx [0] [] z0<|sn<|sq<|sq<|rG cx [0,11,12,13] [] (tL 1 c46 es z0)<|sn<|bL 0<|sL (X:=Int) (fun x=>⟨[(0,.sl (List.map c46 es)),(11,.sl (List.map c46 es)),(12,.i .i64 ((↑es.length:Int))),(13,.i .i64 (x))],[]⟩) (fun x ↦ dec30i es x) (fun x ↦ Az4 es x) [0,11,12,13] [] ((0:Int)) (show Az4 es (0:Int)from ?g0) ?_;rotate_left
 intro i0 h_1
 obtain⟨hh2,hh3,hh4⟩:0≤i0∧i0≤(↑es.length:Int)∧∀(j:Nat),(↑j:Int) < i0→N9 es[j]! =(0:Int):=h_1
 refine rE cx [0,11,12,13,14] [] (zB 0 (i0 <(↑es.length:Int))) (fun h5=>?_) fun h5=>?_
 refine sK<|sn<|sq<|bL 1<|sq<|rG cx [0,11,12,13,5] [5] (fA (0≤i0) (fG c46 es i0.toNat (fR 4 (fN 4 4 (oR 0 (c46 es[i0.toNat]!) z0)))))<|sn<|sq<|rG cx [0,11,12,13,6] [] (fT (B34 (es[i0.toNat]!)) (oA 1 (.i .i64 (N9 es[i0.toNat]!)) z0))<|sn<|sq<|rG cx [0,11,12,13,6,20] [] (tN 1 (N9 es[i0.toNat]!) (0:Int) z0)<|sn<|dC (¬N9 es[i0.toNat]! =(0:Int)) (fun h6=>?_) fun h6=>?_
 refine sq<|rG cx [2,3] [] z0<|sn<|rT<|bR<|nR<|nR<|bR<|nR<|qR (.tup [.nl,.i .i64 (N9 es[i0.toNat]!)]) (A3.tup (ZLe.cons (A3.nl' (show List.map c46 (P9 es).1=[]from ?g2)) (ZLe.cons (A3.eq (show AV.i .i64 (N9 es[i0.toNat]!)=AV.i .i64 (P9 es).2 from ?g1)) ZLe.nil)));rotate_left 2
 refine sK<|bN<|sn<|rG cx [0,11,12,13] [] (tW 0 (i0+1) z0)<|sn<|nX (i0+1) (show((↑es.length:Int)-(i0+1)).toNat <((↑es.length:Int)-i0).toNat from(by omega)) (show Az4 es (i0+1)from ?g3);rotate_left
 refine eX 0<|nE<|nE<|bH<|sn<|sq<|rG cx [7] [24,7] (fT (con142 (es) (by(with_reducible assumption))) (oV 1 { val:=some (.own (46:Nat) (4:Nat)),rows:=some (List.map c46 es) } z0))<|sn<|sq<|rG cx [7] [24,7] (fR (AV.own (24) (0)) (fP (U9 Tryz.prog (210:FuncId) (211:FuncId) (some (22:Nat)) true (46:Nat) (4:Nat) (List.map c46 es) (List.map c46 (es.mergeSort fun x y ↦ !ltE y x))) (io210 (es) (by omega)) (oV 3 { rows:=some (List.map c46 (es.mergeSort fun x y ↦ !ltE y x)) } z0)))<|sn<|sq<|rG cx [7,8] [24,7] z0<|sn<|sq<|sq<|rG cx [7,8,29,30,31] [24,7] (tL 1 c46 (es.mergeSort fun x y ↦ !ltE y x) z0)<|sn<|bL 2<|G3 8 1008 46 4 (σ':=⟨[(7,.ptr (7) (0) (0) (0)),(8,.own 1008 0),(29,.own 24 0),(30,.i .i64 ((↑(es.mergeSort fun x y ↦ !ltE y x).length:Int))),(31,.i .i64 ((0:Int)))],[(24,⟨0,46,.row 4 (List.map c46 (es.mergeSort fun x y ↦ !ltE y x))⟩),(7,⟨0,22,.var [.own 24 0]⟩),(1008,⟨0,46,.row 4 (List.map c46 [])⟩)]⟩) (by kernel_rfl)<|sL (X:=Int×List Entry×List Entry) (fun x=>⟨[(7,.ptr (7) (0) (0) (0)),(8,.own 1008 0),(29,.own 24 0),(30,.i .i64 ((↑(es.mergeSort fun x y ↦ !ltE y x).length:Int))),(31,.i .i64 (x.1))],[(24,⟨0,46,.row 4 (List.map c46 x.2.1)⟩),(7,⟨0,22,.var [.own 24 0]⟩),(1008,⟨0,46,.row 4 (List.map c46 x.2.2)⟩)]⟩) (fun x ↦ dec25c (A48 es) x.1 x.2.1 x.2.2) (fun x ↦ Ai8 (A48 es) x.1 x.2.1 x.2.2) [7,8,29,30,31] [24,7,1008] (((0:Int),es.mergeSort fun x y ↦ !ltE y x,[])) (show Ai8 (A48 es) (0:Int) (es.mergeSort fun x y ↦ !ltE y x) []from ?g4) ?_;rotate_left
 rintro⟨ii7,a8,l9⟩ h_10
 obtain⟨h11,h12,h13,h14,h15⟩:a8=A48 es∧0≤ii7∧ii7≤(↑(A48 es).length:Int)∧M4 (A48 es) ii7.toNat=some l9∧(↑l9.length:Int)≤ii7:=h_10
 refine rE cx [7,8,29,30,31,32] [24,7,1008] (zB 0 (ii7 <(↑(es.mergeSort fun x y ↦ !ltE y x).length:Int))) (fun h16=>?_) fun h16=>?_
 refine sK<|sn<|sq<|bL 3<|sq<|rG cx [7,8,29,30,31,10,9] [24,7,1008,10] (fA (0≤ii7) (fP (ii7.toNat <(List.map c46 a8).length) ?g5 (fR 4 (fP (E.rowAt { ver:=0,ty:=46,k:=BK.row (4) (List.map c46 a8):Blk } ii7.toNat (c46 a8[ii7.toNat]!)) ?g6 (fP (0+(4:Nat)≤(c46 a8[ii7.toNat]!).length) ?g7 (oR 2 (c46 a8[ii7.toNat]!) z0)))))) ?_;rotate_left 3
 refine sn<|sq<|sq<|A7 (σ':=⟨[(7,.ptr (7) (0) (0) (0)),(8,.own 1008 0),(29,.own 24 0),(30,.i .i64 ((↑(es.mergeSort fun x y ↦ !ltE y x).length:Int))),(31,.i .i64 (ii7)),(10,.ptr (10) (0) (0) (0)),(9,.i .i64 (ii7)),(48,.b (decide ((0:Int) < ii7∧a8[(ii7-1).toNat]!.dot=a8[ii7.toNat]!.dot)))],[(24,⟨0,46,.row 4 (List.map c46 a8)⟩),(7,⟨0,22,.var [.own 24 0]⟩),(1008,⟨0,46,.row 4 (List.map c46 l9)⟩),(10,⟨0,46,.var [.i .i64 (a8[ii7.toNat]!.dot.rep),.i .i64 (a8[ii7.toNat]!.dot.num),.s (a8[ii7.toNat]!.sku),.i .i64 (a8[ii7.toNat]!.qty)]⟩)]⟩) ?_ ?_
 refine A2 ((0:Int) < ii7) (fun h18=>?_) (fun h18=>?_)
 refine rA cx [7,8,29,30,31,10,9,48] [24,7,1008,10] (tT 1 (A1 h18) (tT 5 (C1 (by omega) ?g8:AV.i .i64 (IntKind.i64.wrap (ii7-1))=AV.i .i64 (ii7-1)) (fO (0≤ii7-1) (fP ((ii7-1).toNat <(List.map c46 a8).length) ?g9 (fR 4 (fP (E.rowAt { ver:=0,ty:=46,k:=BK.row (4) (List.map c46 a8):Blk } (ii7-1).toNat (c46 a8[(ii7-1).toNat]!)) ?g10 (fP (0+(2:Nat)≤(c46 a8[(ii7-1).toNat]!).length) ?g11 (fT (eq44 a8[(ii7-1).toNat]!.dot a8[ii7.toNat]!.dot) (tD 12 (decide (a8[(ii7-1).toNat]!.dot=a8[ii7.toNat]!.dot)) ((0:Int) < ii7∧a8[(ii7-1).toNat]!.dot=a8[ii7.toNat]!.dot) (by simp only [eq_true h18,tsl]) (oR 8 (c46 a8[(ii7-1).toNat]!) (oA 11 (.b (decide (a8[(ii7-1).toNat]!.dot=a8[ii7.toNat]!.dot))) z0))))))))))) ?_;rotate_left 4
 exact⟨rfl,by kernel_rfl⟩
 refine rA cx [7,8,29,30,31,10,9,48] [24,7,1008,10] (tT 1 (A0 h18) (tD 12 false ((0:Int) < ii7∧a8[(ii7-1).toNat]!.dot=a8[ii7.toNat]!.dot) (by simp only [eq_false h18,tsl]) z0)) ?_
 exact⟨rfl,by kernel_rfl⟩
 refine sn<|dC ((0:Int) < ii7∧a8[(ii7-1).toNat]!.dot=a8[ii7.toNat]!.dot) (fun h19=>?_) fun h19=>?_
 refine sq<|sq<|rA cx [7,8,29,30,31,55] [24,7,1008] (tT 2 (C1 (by omega) ?g12:AV.i .i64 (IntKind.i64.wrap (ii7-1))=AV.i .i64 (ii7-1)) (fO (0≤ii7-1) (fP ((ii7-1).toNat <(List.map c46 a8).length) ?g13 (fR 4 (fP (E.rowAt { ver:=0,ty:=46,k:=BK.row (4) (List.map c46 a8):Blk } (ii7-1).toNat (c46 a8[(ii7-1).toNat]!)) ?g14 (fP (0+(4:Nat)≤(c46 a8[(ii7-1).toNat]!).length) ?g15 (fT (A0k (eq46 a8[(ii7-1).toNat]! a8[ii7.toNat]!)) (oR 4 (c46 a8[(ii7-1).toNat]!) (oA 6 (.b (decide ¬a8[(ii7-1).toNat]! = a8[ii7.toNat]!)) z0))))))))) ?_;rotate_left 4
 refine sn<|dC (¬a8[(ii7-1).toNat]! = a8[ii7.toNat]!) (fun h20=>?_) fun h20=>?_
 refine sq<|rG cx [2,3] [] z0<|sn<|rT<|nR<|nR<|bR<|nR<|nR<|bR<|nR<|qR (.tup [.nl,.i .i64 ((10:Int))]) (A3.tup (ZLe.cons (A3.nl' (show List.map c46 (P9 es).1=[]from ?g17)) (ZLe.cons (A3.eq (show AV.i .i64 10=AV.i .i64 (P9 es).2 from ?g16)) ZLe.nil)));rotate_left 2
 refine sK<|sn<|eX 3<|nE<|bH<|sn<|rG cx [7,8,29,30,31] [24,7,1008] (tT 0 (C1 (by omega) ?g18:AV.i .i64 (IntKind.i64.wrap (ii7+1))=AV.i .i64 (ii7+1)) z0) ?_;rotate_left
 refine sn<|nX ((ii7+1,a8,l9)) (show((↑(A48 es).length:Int)-(ii7+1)).toNat <((↑(A48 es).length:Int)-ii7).toNat from ?g19) (show Ai8 (A48 es) (ii7+1) a8 l9 from ?g20);rotate_left 2
 refine sK<|sn<|rG cx [7,8,29,30,31] [24,7,1008] (fR 46 (fR 4 (fR 4 (fX c46 [a8[ii7.toNat]!] 4 (fP ((List.map c46 l9).length+(List.map c46 [a8[ii7.toNat]!]).length≤maxLen) ?g21 (fP (((List.map c46 l9).length+(List.map c46 [a8[ii7.toNat]!]).length)*(40:Nat)≤(140737488355328:Nat)) ?g22 (fM c46 l9 [a8[ii7.toNat]!] (oV 3 { rows:=some (List.map c46 (l9++[a8[ii7.toNat]!])) } z0)))))))) ?_;rotate_left 2
 refine bN<|sn<|rG cx [7,8,29,30,31] [24,7,1008] (tT 0 (C1 (by omega) ?g23:AV.i .i64 (IntKind.i64.wrap (ii7+1))=AV.i .i64 (ii7+1)) z0) ?_;rotate_left
 refine sn<|nX ((ii7+1,a8,l9++[a8[ii7.toNat]!])) (show((↑(A48 es).length:Int)-(ii7+1)).toNat <((↑(A48 es).length:Int)-ii7).toNat from ?g24) (show Ai8 (A48 es) (ii7+1) a8 (l9++[a8[ii7.toNat]!])from ?g25);rotate_left 2
 refine eX 2<|nE<|nE<|bH<|sn<|sq<|rG cx [2,3] [1008] z0<|sn<|rT<|qR (.tup [.sl (List.map c46 l9),.i .i64 ((0:Int))]) (A3.tup (ZLe.cons (A3.eq (show AV.sl (List.map c46 l9)=AV.sl (List.map c46 (P9 es).1)from ?g27)) (ZLe.cons (A3.eq (show AV.i .i64 0=AV.i .i64 (P9 es).2 from ?g26)) ZLe.nil)));rotate_left 2
 rotate_left
 revert i0 hh2 hh3 hh4 h5 h6;rotate_left
 revert i0 hh2 hh3 hh4 h5 h6;rotate_left
 revert i0 hh2 hh3 hh4 h5 h6;rotate_left
 revert i0 hh2 hh3 hh4 h5;rotate_left
 revert i0 hh2 hh3 hh4 h5 ii7 a8 l9 h11 h12 h13 h14 h15 h16;rotate_left
 revert i0 hh2 hh3 hh4 h5 ii7 a8 l9 h11 h12 h13 h14 h15 h16;rotate_left
 revert i0 hh2 hh3 hh4 h5 ii7 a8 l9 h11 h12 h13 h14 h15 h16;rotate_left
 revert i0 hh2 hh3 hh4 h5 ii7 a8 l9 h11 h12 h13 h14 h15 h16 h18;rotate_left
 revert i0 hh2 hh3 hh4 h5 ii7 a8 l9 h11 h12 h13 h14 h15 h16 h18;rotate_left
 revert i0 hh2 hh3 hh4 h5 ii7 a8 l9 h11 h12 h13 h14 h15 h16 h18;rotate_left
 revert i0 hh2 hh3 hh4 h5 ii7 a8 l9 h11 h12 h13 h14 h15 h16 h18;rotate_left
 revert i0 hh2 hh3 hh4 h5 ii7 a8 l9 h11 h12 h13 h14 h15 h16 h19;rotate_left
 revert i0 hh2 hh3 hh4 h5 ii7 a8 l9 h11 h12 h13 h14 h15 h16 h19;rotate_left
 revert i0 hh2 hh3 hh4 h5 ii7 a8 l9 h11 h12 h13 h14 h15 h16 h19;rotate_left
 revert i0 hh2 hh3 hh4 h5 ii7 a8 l9 h11 h12 h13 h14 h15 h16 h19;rotate_left
 revert i0 hh2 hh3 hh4 h5 ii7 a8 l9 h11 h12 h13 h14 h15 h16 h19 h20;rotate_left
 revert i0 hh2 hh3 hh4 h5 ii7 a8 l9 h11 h12 h13 h14 h15 h16 h19 h20;rotate_left
 revert i0 hh2 hh3 hh4 h5 ii7 a8 l9 h11 h12 h13 h14 h15 h16 h19 h20;rotate_left
 revert i0 hh2 hh3 hh4 h5 ii7 a8 l9 h11 h12 h13 h14 h15 h16 h19 h20;rotate_left
 revert i0 hh2 hh3 hh4 h5 ii7 a8 l9 h11 h12 h13 h14 h15 h16 h19 h20;rotate_left
 revert i0 hh2 hh3 hh4 h5 ii7 a8 l9 h11 h12 h13 h14 h15 h16 h19;rotate_left
 revert i0 hh2 hh3 hh4 h5 ii7 a8 l9 h11 h12 h13 h14 h15 h16 h19;rotate_left
 revert i0 hh2 hh3 hh4 h5 ii7 a8 l9 h11 h12 h13 h14 h15 h16 h19;rotate_left
 revert i0 hh2 hh3 hh4 h5 ii7 a8 l9 h11 h12 h13 h14 h15 h16 h19;rotate_left
 revert i0 hh2 hh3 hh4 h5 ii7 a8 l9 h11 h12 h13 h14 h15 h16 h19;rotate_left
 revert i0 hh2 hh3 hh4 h5 ii7 a8 l9 h11 h12 h13 h14 h15 h16;rotate_left
 revert i0 hh2 hh3 hh4 h5 ii7 a8 l9 h11 h12 h13 h14 h15 h16;rotate_left
 case g1=>intro i h0 h1 h2 h3 h4;rw[A90 (by omega) h4 (fun j hj=>h2 j (by omega))]
 case g2=>intro i h0 h1 h2 h3 h4;rw[A90 (by omega) h4 (fun j hj=>h2 j (by omega))];rfl
 case g3 =>
  intro i h0 h1 h2 h3 h4
  refine⟨by omega,by omega,fun j hj=>?_⟩
  by_cases e:j=i.toNat
  ·rw[e];exact Classical.not_not.1 h4
  ·exact h2 j (by omega)
 case g4=>intro i h0 h1 h2 h3;exact⟨rfl,by omega,by omega,rfl,by simp⟩
 case g16=>intro i h0 h1 h2 h3 i7 a l k0 k1 k2 k3 k4 k5 k6 k7;subst k0;rw[A12 (fun j hj=>h2 j (by omega)),A5m k1 k3 (by omega) k6 k7]
 case g17=>intro i h0 h1 h2 h3 i7 a l k0 k1 k2 k3 k4 k5 k6 k7;subst k0;rw[A12 (fun j hj=>h2 j (by omega)),A5m k1 k3 (by omega) k6 k7];rfl
 case g20=>intro i h0 h1 h2 h3 i7 a l k0 k1 k2 k3 k4 k5 k6 k7;subst k0;exact⟨rfl,Az5 k1 k3 (by omega) k4 k6 k7⟩
 case g25=>intro i h0 h1 h2 h3 i7 a l k0 k1 k2 k3 k4 k5 k6;subst k0;exact⟨rfl,B3j k1 k3 (by omega) k4 k6⟩
 case g26=>intro i h0 h1 h2 h3 i7 a l k0 k1 k2 k3 k4 k5;rw[A12 (fun j hj=>h2 j (by omega)),Ai9 k1 k3 k2 (by omega)]
 case g27=>intro i h0 h1 h2 h3 i7 a l k0 k1 k2 k3 k4 k5;rw[A12 (fun j hj=>h2 j (by omega)),Ai9 k1 k3 k2 (by omega)]
 all_goals intros
 all_goals (try subst_vars)
 all_goals first
  | omega
  | (simp only [List.length_map,List.length_append,List.length_cons,List.length_nil,Go.maxLen];omega)
  | exact P4 (by omega)
  | exact Nat.le_of_ble_eq_true rfl
  | exact⟨by omega,by omega,fun j hj=>by omega⟩
theorem con95(es:List Entry)(d:Dot):Con Tryz.prog 95 [.sl (es.map c46),.agg (c44 d)] (.tup [.agg (c46 (J4 es d).1),.b (J4 es d).2]) :=
 by
 refine lN 0 c46 (es) Tryz.func95 fun hl_0=>sC A6 [.cell 4 46,.tmp 5] 21 Tryz.func95 ?_
 intro e0 cx
 refine sq<|rG cx [0,3,4] [3,4] z0<|sn<|sq<|sq<|rG cx [3,4,8,9,10] [3,4] (tL 1 c46 es z0)<|sn<|bL 0<|sL (X:=Int×Int×Int×Int×Int×ByteArray×Int) (fun x=>⟨[(3,.ptr (3) (0) (0) (0)),(4,.ptr (4) (0) (0) (0)),(8,.sl (List.map c46 es)),(9,.i .i64 ((↑es.length:Int))),(10,.i .i64 (x.1))],[(3,⟨0,44,.var [.i .i64 (x.2.1),.i .i64 (x.2.2.1)]⟩),(4,⟨0,46,.var [.i .i64 (x.2.2.2.1),.i .i64 (x.2.2.2.2.1),.s (x.2.2.2.2.2.1),.i .i64 (x.2.2.2.2.2.2)]⟩)]⟩) (fun x ↦ dec28 es x.1 x.2.1 x.2.2.1 x.2.2.2.1 x.2.2.2.2.1 x.2.2.2.2.2.1 x.2.2.2.2.2.2) (fun x ↦ B7d es d x.1 x.2.1 x.2.2.1 x.2.2.2.1 x.2.2.2.2.1 x.2.2.2.2.2.1 x.2.2.2.2.2.2) [3,4,8,9,10] [3,4] (((0:Int),d.rep,d.num,(0:Int),(0:Int),{ data:=#[]:ByteArray },(0:Int))) (show B7d es d (0:Int) d.rep d.num (0:Int) (0:Int) { data:=#[]:ByteArray } (0:Int)from(by exact⟨by omega,by omega,rfl,rfl,fun j hj=>by omega⟩)) ?_
 rintro⟨i0,r1,n2,a3,b4,s5,q6⟩ h_7
 obtain⟨h8,h9,h10,h11,h12⟩:0≤i0∧i0≤(↑es.length:Int)∧r1=d.rep∧n2=d.num∧∀(j:Nat),(↑j:Int) < i0→¬es[j]!.dot=d:=h_7
 refine rE cx [3,4,8,9,10,11] [3,4] (zB 0 (i0 <(↑es.length:Int))) (fun h13=>?_) fun h13=>?_
 refine sK<|sn<|sq<|bL 1<|sq<|rG cx [3,4,8,9,10,7] [3,4,7] (fA (0≤i0) (fG c46 es i0.toNat (fR 4 (fN 4 4 (oR 0 (c46 es[i0.toNat]!) z0)))))<|sn<|sq<|rG cx [3,4,8,9,10,7,17] [3,4,7] (fT (eq44 es[i0.toNat]!.dot { rep:=r1,num:=n2:Dot }) (oA 3 (.b (decide (es[i0.toNat]!.dot={ rep:=r1,num:=n2:Dot }))) z0))<|sn<|dC (es[i0.toNat]!.dot={ rep:=r1,num:=n2:Dot }) (fun h14=>?_) fun h14=>?_
 refine sq<|rG cx [4,5] [4] z0<|sn<|rT<|bR<|nR<|nR<|bR<|nR<|qR (.tup [.agg [.i .i64 (es[i0.toNat]!.dot.rep),.i .i64 (es[i0.toNat]!.dot.num),.s (es[i0.toNat]!.sku),.i .i64 (es[i0.toNat]!.qty)],.b (true)]) (A3.tup (ZLe.cons (A3.eq (show AV.agg [AV.i .i64 es[i0.toNat]!.dot.rep,AV.i .i64 es[i0.toNat]!.dot.num,AV.s es[i0.toNat]!.sku,AV.i .i64 es[i0.toNat]!.qty]=AV.agg [AV.i .i64 (J4 es d).1.dot.rep,AV.i .i64 (J4 es d).1.dot.num,AV.s (J4 es d).1.sku,AV.i .i64 (J4 es d).1.qty]from(by exact(by subst h10 h11;rw[Az6 (by omega) h14 (fun j hj=>h12 j (by omega))])))) (ZLe.cons (A3.eq (show AV.b true=AV.b (J4 es d).2 from(by exact(by subst h10 h11;rw[Az6 (by omega) h14 (fun j hj=>h12 j (by omega))])))) ZLe.nil)))
 refine sK<|bN<|sn<|rG cx [3,4,8,9,10] [3,4] (tW 0 (i0+1) z0)<|sn<|nX ((i0+1,r1,n2,a3,b4,s5,q6)) (show((↑es.length:Int)-(i0+1)).toNat <((↑es.length:Int)-i0).toNat from(by omega)) (show B7d es d (i0+1) r1 n2 a3 b4 s5 q6 from ?g3);rotate_left
 refine eX 0<|nE<|nE<|bH<|sn<|sq<|rG cx [4,5] [4] z0<|sn<|rT<|qR (.tup [.agg [.i .i64 ((0:Int)),.i .i64 ((0:Int)),.s ({ data:=#[]:ByteArray }),.i .i64 ((0:Int))],.b (false)]) (A3.tup (ZLe.cons (A3.eq (show AV.agg [AV.i .i64 (0:Int),AV.i .i64 (0:Int),AV.s { data:=#[]:ByteArray },AV.i .i64 (0:Int)]=AV.agg [AV.i .i64 (J4 es d).1.dot.rep,AV.i .i64 (J4 es d).1.dot.num,AV.s (J4 es d).1.sku,AV.i .i64 (J4 es d).1.qty]from(by exact(by rw[Az7 (fun j hj=>h12 j (by omega))];rfl)))) (ZLe.cons (A3.eq (show AV.b false=AV.b (J4 es d).2 from(by exact(by rw[Az7 (fun j hj=>h12 j (by omega))])))) ZLe.nil)))
 case g3=>revert i0 r1 n2 a3 b4 s5 q6 h8 h9 h10 h11 h12 h13 h14;exact(fun i r n a b s q h0 h1 h2 h3 h4 h5 h6=>⟨by omega,by omega,h2,h3,fun j hj=>by
   subst h2 h3
   by_cases e:j=i.toNat
   ·rw[e];exact h6
   ·exact h4 j (by omega)⟩)
end Go.Proofs.YtphcaholhacnpaaGreat
namespace Go.Proofs.YtphcaholhacnpaaGreat
open Go.E
set_option maxRecDepth 100000
set_option maxHeartbeats 4000000
open Go Go.Lib Go.RowKit Go.Proofs
set_option maxHeartbeats 4000000 in
theorem Az8 (n:Nat) (h0:0 < n) (hb:n*40≤140737488351232) (w:World):Calls Tryz.prog 212 #[.slice none 0 0,.int .i64 n] w fun e w' =>
  ∃ cap cells,e=.returned (.slice (some ⟨w.heap.size,0,none⟩) 0 cap)∧w'.heap[w.heap.size]?=some (.cells cells 46 (0,0))∧cells.size=cap*4∧cap≤maxLen∧Below w.heap.size w w':=by
 obtain⟨i,z,hi,hi1,hi2,hz,hzs⟩:∃(i:TypeInfo) (z:Value),Tryz.prog.info? 46=some i∧i.size=4∧i.bytes=40∧i.zero=some z∧z.cells.size=4 :=
  ⟨tiE,tiE.zero.get!,by kernel_rfl,by kernel_rfl,by kernel_rfl,by kernel_rfl,by kernel_rfl⟩
 have happ:=Lib.run_append_nil_zeros (P:=Tryz.prog) w 22 3 22 46 i z .i64 .i64 Tryz.underlying22 Tryz.underlying3 hi hz n h0 (by omega) (by omega) (by rw[hi2];omega)
 generalize hcap:grownCap w n 0 46=cap2 at happ
 have hcapge:n≤cap2:=by rw[← hcap];exact grownCap_ge w _ 0 46
 have hcaple:cap2≤maxLen:=by rw[← hcap];exact grownCap_le_maxLen w _ 0 46 (by unfold maxLen;omega)
 generalize hZ:(Builtin.zeroCells z.cells n++Builtin.zeroCells z.cells (cap2-n))=Z at happ
 have hZs:Z.size=cap2*4:=by rw[← hZ];simp [size_zeroCells,hzs];omega
 clear hcap hZ
 go_enter Tryz.func212,Tryz.ntmps212
 go_wp2_with (at_builtin;refine Lib.wpList_append_run _ rfl _ _ _ _ rfl _ _ rfl rfl _ _ happ ?_)
 go_ret
 exact⟨cap2,Z,rfl,heap_alloc_new w _,hZs,hcaple,⟨rfl,rfl,rfl,by simp,fun k hk=>Below.heap_alloc w _ k hk⟩⟩
set_option maxHeartbeats 4000000 in
theorem Az9 (w:World):Calls Tryz.prog 212 #[.slice none 0 0,.int .i64 0] w fun e w'=>e=.returned (.slice none 0 0)∧w'=w:=by
 go_enter Tryz.func212,Tryz.ntmps212
 go_wp2
 go_ret
 exact⟨rfl,rfl⟩
theorem con212(n:Int)(h0:0≤n)(hb:n*40≤140737488351232):A4h Tryz.prog 212 [.nl,.i .i64 n] 46 (.row 4 (([]:List Entry).map c46)):=by
 refine⟨⟨_,Tryz.func212,by kernel_rfl,by kernel_rfl⟩,fun w S0 vs hS hl hv=>?_⟩
 obtain⟨v,u,rfl⟩:∃ v u,vs=[v,u]:=by
  match vs,hl with
  | [v,u],_=>exact⟨v,u,rfl⟩
 have h1:=hv 0 _ v rfl rfl
 have h2:=hv 1 _ u rfl rfl
 cases h1
 cases h2
 by_cases hn:n=0
 ·subst hn
  refine(Az9 w).mono ?_
  rintro e w' ⟨rfl,rfl⟩
  exact⟨_,rfl,⟨fun r hr=>by simp at hr,[],World.ownsRow_nil _ _ _ _,fun u hu=>by simp at hu,fun j b u hb=>by simp at hb⟩,Below.refl _ _⟩
 ·obtain⟨m,rfl⟩:∃ m:Nat,n=m:=⟨n.toNat,by omega⟩
  refine(Az8 m (by omega) (by omega) w).mono ?_
  rintro e w' ⟨cap,cells,rfl,g1,g2,g3,g4⟩
  exact⟨_,rfl,⟨fun r hr=>by simp at hr,[],⟨by simp,.inr ⟨w.heap.size,cap,cells,rfl,Nat.le_refl _,g1,Nat.zero_le _,g3,g2,by simp⟩⟩,fun u hu=>by simp at hu,fun j b u hb=>by simp at hb⟩,g4⟩
def c22(l:List Entry):List AV:=[.sl (l.map c46)]
section
variable {α : Type}
def B3k(ss:List (List α))(n:Int)(i:Int):Prop:=n=((ss.take i.toNat).flatten.length:Int)
def A6x(ss:List (List α))(i:Int)(l:List α):Prop:=l=(ss.take i.toNat).flatten
def A91(ss:List (List α))(n i:Int):Prop:=0≤i∧i≤ss.length∧0≤n∧n≤140737488351232∧B3k ss n i
def dec59a(ss:List (List α))(n i:Int):Nat:=(ss.length-i).toNat
def Aj0(ss:List (List α))(i:Int)(l:List α):Prop:=0≤i∧i≤ss.length∧A6x ss i l
def dec59b(ss:List (List α))(i:Int)(l:List α):Nat:=(ss.length-i).toNat
theorem Ad0(ss:List (List α))(i:Nat):(ss.take i).flatten.length≤ss.flatten.length:=by
 have h:(ss.take i).flatten++(ss.drop i).flatten=ss.flatten:=by rw[← List.flatten_append,List.take_append_drop]
 rw[← h,List.length_append]
 omega
theorem A13{ss:List (List α)}{i:Int}(h0:0≤i)(h:i < ss.length):(ss.take (i+1).toNat).flatten=(ss.take i.toNat).flatten++ss[i.toNat]!:=by
 rw[← D1 h0 h,List.flatten_append]
 simp
theorem B00{ss:List (List α)}{n i:Int}(h0:0≤i)(h:i < ss.length)(hs:B3k ss n i):n+ss[i.toNat]!.length≤ss.flatten.length:=by
 have h1:=Ad0 ss (i+1).toNat
 rw[A13 h0 h,List.length_append]at h1
 unfold B3k at hs
 omega
theorem Ad1(ss:List (List α)):A91 ss 0 0:=⟨by omega,by omega,by omega,by omega,by simp [B3k]⟩
theorem Ad2{ss:List (List α)}{n i:Int}(hb:ss.flatten.length≤140737488351232)(h0:0≤i)(h:i < ss.length)(hn:0≤n)(hs:B3k ss n i):A91 ss (n+ss[i.toNat]!.length) (i+1):=by
 have:=B00 h0 h hs
 refine⟨by omega,by omega,by omega,by omega,?_⟩
 unfold B3k at *
 rw[A13 h0 h,List.length_append]
 omega
theorem B7e{ss:List (List α)}{n i:Int}(hs:B3k ss n i):n≤ss.flatten.length:=by
 have:=Ad0 ss i.toNat
 unfold B3k at hs
 omega
theorem B01{ss:List (List α)}{i:Int}{l:List α}(h0:0≤i)(h:i < ss.length)(hs:A6x ss i l):l.length+ss[i.toNat]!.length≤ss.flatten.length:=by
 have h1:=Ad0 ss (i+1).toNat
 rw[A13 h0 h,List.length_append]at h1
 unfold A6x at hs
 rw[hs]
 omega
theorem Ad3{ss:List (List α)}{i:Int}{l:List α}(h0:0≤i)(h:i < ss.length)(hs:A6x ss i l):Aj0 ss (i+1) (l++ss[i.toNat]!) :=
 ⟨by omega,by omega,by unfold A6x at *;rw[A13 h0 h,hs]⟩
theorem B02{ss:List (List α)}{i:Int}{l:List α}(h:¬ i < ss.length)(hs:A6x ss i l):l=ss.flatten:=by
 unfold A6x at hs
 rw[hs,List.take_of_length_le (by omega)]
end
theorem con169(ss:List (List Entry))(hb:ss.flatten.length*40≤140737488351232):A4h Tryz.prog 169 [.sl (ss.map c22)] 46 (.row 4 (ss.flatten.map c46)) :=
 by
 refine A33 0 (c22) (ss) (by kernel_rfl) Tryz.func169 (by kernel_rfl) fun hl_0=>A9w A6 (by kernel_rfl) (.tmp 2) 36 Tryz.func169 (by kernel_rfl) (by kernel_rfl) ?_
 intro e0 cx
 refine sq<|rG cx [0] [] z0<|sn<|sq<|rG cx [0,3] [] z0<|sn<|sq<|sq<|rG cx [0,3,9,10,11] [] (tL 1 c22 ss z0)<|sn<|bL 0<|sL (X:=Int×Int) (fun x=>⟨[(0,.sl (List.map c22 ss)),(3,.i .i64 (x.1)),(9,.sl (List.map c22 ss)),(10,.i .i64 ((↑ss.length:Int))),(11,.i .i64 (x.2))],[]⟩) (fun x ↦ dec59a ss x.1 x.2) (fun x ↦ A91 ss x.1 x.2) [0,3,9,10,11] [] (((0:Int),(0:Int))) (show A91 ss (0:Int) (0:Int)from(by exact Ad1 ss)) ?_
 rintro⟨n0,i1⟩ h_2
 obtain⟨hh3,hh4,hh5,hh6,h7⟩:0≤i1∧i1≤(↑ss.length:Int)∧0≤n0∧n0≤140737488351232∧B3k ss n0 i1:=h_2
 refine rE cx [0,3,9,10,11,12] [] (zB 0 (i1 <(↑ss.length:Int))) (fun h8=>?_) fun h8=>?_
 refine sK<|sn<|sq<|bL 1<|sq<|rG cx [0,3,9,10,11,5] [] (fA (0≤i1) (fG c22 ss i1.toNat (fR 1 (oR 0 (c22 ss[i1.toNat]!) z0))))<|sn<|sq<|rG cx [0,3,9,10,11] [] (tL 2 c46 ss[i1.toNat]! (tT 3 (C1 (by omega) (by have:=B00 hh3 h8 h7;omega):AV.i .i64 (IntKind.i64.wrap (n0+(↑ss[i1.toNat]!.length:Int)))=AV.i .i64 (n0+(↑ss[i1.toNat]!.length:Int))) z0)) ?_
 refine sn<|sq<|rG cx [0,3,9,10,11,20] [] (tB 1 (n0+(↑ss[i1.toNat]!.length:Int) <(0:Int)) z0)<|sn<|Af1 (n0+(↑ss[i1.toNat]!.length:Int) <(0:Int)) (by kernel_rfl) (by kernel_rfl) (fun h9=>absurd h9 (by omega)) (fun h9=>?_)
 refine sK<|bN<|sn<|rG cx [0,3,9,10,11] [] (tW 0 (i1+1) z0)<|sn<|nX ((n0+(↑ss[i1.toNat]!.length:Int),i1+1)) (show((↑ss.length:Int)-(i1+1)).toNat <((↑ss.length:Int)-i1).toNat from(by omega)) (show A91 ss (n0+(↑ss[i1.toNat]!.length:Int)) (i1+1)from(by exact Ad2 (by omega) hh3 h8 hh5 h7))
 refine eX 0<|nE<|nE<|bH<|sn<|sq<|rG cx [0,6] [24] (fT (con212 (n0) (by(with_reducible assumption)) (by have:=B7e h7;omega)) (oV 1 { val:=some (.own (46:Nat) (4:Nat)),rows:=some (List.map c46 []) } z0)) ?_
 refine sn<|sq<|sq<|rG cx [6,25,26,27] [24] (tL 1 c22 ss z0)<|sn<|bL 2<|sL (X:=Int×List Entry) (fun x=>⟨[(6,.own 24 0),(25,.sl (List.map c22 ss)),(26,.i .i64 ((↑ss.length:Int))),(27,.i .i64 (x.1))],[(24,⟨0,46,.row 4 (List.map c46 x.2)⟩)]⟩) (fun x ↦ dec59b ss x.1 x.2) (fun x ↦ Aj0 ss x.1 x.2) [6,25,26,27] [24] (((0:Int),[])) (show Aj0 ss (0:Int) []from(by exact⟨by omega,by omega,by simp [A6x]⟩)) ?_
 rintro⟨i10,l11⟩ h_12
 obtain⟨h13,h14,h15⟩:0≤i10∧i10≤(↑ss.length:Int)∧A6x ss i10 l11:=h_12
 refine rE cx [6,25,26,27,28] [24] (zB 0 (i10 <(↑ss.length:Int))) (fun h16=>?_) fun h16=>?_
 refine sK<|sn<|sq<|bL 3<|sq<|rG cx [6,25,26,27,8] [24] (fA (0≤i10) (fG c22 ss i10.toNat (fR 1 (oR 0 (c22 ss[i10.toNat]!) z0))))<|sn<|rG cx [6,25,26,27] [24] (fR 46 (fR 4 (fR 4 (fX c46 ss[i10.toNat]! 4 (fP ((List.map c46 l11).length+(List.map c46 ss[i10.toNat]!).length≤maxLen) (by have:=B01 h13 h16 h15;simp only [List.length_map,Go.maxLen];omega) (fP (((List.map c46 l11).length+(List.map c46 ss[i10.toNat]!).length)*(40:Nat)≤(140737488355328:Nat)) (by have:=B01 h13 h16 h15;simp only [List.length_map];omega) (fM c46 l11 ss[i10.toNat]! (oV 2 { rows:=some (List.map c46 (l11++ss[i10.toNat]!)) } z0)))))))) ?_
 refine bN<|sn<|rG cx [6,25,26,27] [24] (tW 0 (i10+1) z0)<|sn<|nX ((i10+1,l11++ss[i10.toNat]!)) (show((↑ss.length:Int)-(i10+1)).toNat <((↑ss.length:Int)-i10).toNat from(by omega)) (show Aj0 ss (i10+1) (l11++ss[i10.toNat]!)from(by exact Ad3 h13 h16 h15))
 refine eX 2<|nE<|nE<|bH<|sn<|sq<|rG cx [2] [24] z0<|sn<|rT<|Af3 (rows':=(List.map c46 l11)) .ret (.inr rfl) 2 24 0 (by kernel_rfl) (by kernel_rfl) (by kernel_rfl) (by rw[B02 h16 h15])
def K0(a b:List Entry):List Entry×Int:=if okL a=true∧okL b=true then A4a (A48 (a++b))else([],1)
theorem Aj1{a b:List Entry}(h:¬ B2 a=0∨¬ B2 b=0):K0 a b=([],1):=by
 unfold K0
 rw[if_neg]
 rintro⟨h1,h2⟩
 exact h.elim (fun k=>Ai0 k h1) (fun k=>Ai0 k h2)
theorem Aj2{a b:List Entry}(h1:B2 a=0)(h2:B2 b=0):K0 a b=A4a (A48 (a++b)):=by
 unfold K0
 rw[if_pos ⟨L7 h1,L7 h2⟩]
theorem A5n{a b:List Entry}(h1:B2 a=0)(h2:B2 b=0):P9 (a++b)=K0 a b:=by
 rw[Aj2 h1 h2]
 refine A12 fun j hj=>?_
 by_cases h:j < a.length
 ·have:(a++b)[j]! = a[j]!:=by rw[getElem!_pos (a++b) j hj,getElem!_pos a j h,List.getElem_append_left h]
  rw[this]
  exact(U0 (L7 h1) h).1
 ·rw[List.length_append]at hj
  have:(a++b)[j]! = b[j-a.length]!:=by rw[getElem!_pos (a++b) j (by rw[List.length_append];omega),getElem!_pos b (j-a.length) (by omega),List.getElem_append_right (by omega)]
  rw[this]
  exact(U0 (L7 h2) (by omega)).1
theorem B7f{a b:List Entry}(h1:B2 a=0)(h2:B2 b=0):a.length≤16000000000∧b.length≤16000000000:=⟨A1r (L7 h1),A1r (L7 h2)⟩
theorem A6y(a b:List Entry):[a,b].flatten=a++b:=by simp
theorem A1u{a b:List Entry}(h:¬(¬ B2 a=0∨¬ B2 b=0)):B2 a=0∧B2 b=0:=⟨Classical.not_not.1 fun k=>h (.inl k),Classical.not_not.1 fun k=>h (.inr k)⟩
theorem B3l{a b:List Entry}(h:¬(¬ B2 a=0∨¬ B2 b=0)):a.length≤16000000000∧b.length≤16000000000:=B7f (A1u h).1 (A1u h).2
theorem A92{a b:List Entry}(h:¬(¬ B2 a=0∨¬ B2 b=0)):[a,b].flatten.length*40≤140737488351232:=by
 have:=B3l h
 rw[A6y,List.length_append]
 omega
theorem con97(a b:List Entry):Con Tryz.prog 97 [.sl (a.map c46),.sl (b.map c46)] (.tup [.sl ((K0 a b).1.map c46),.i .i64 (K0 a b).2]) :=
 by
 refine lN 0 c46 (a) Tryz.func97 fun hl_0=>lN 1 c46 (b) Tryz.func97 fun hl_1=>sC A6 [.tmp 4,.tmp 5] 21 Tryz.func97 ?_
 intro e0 cx
 refine sq<|rG cx [0,1] [] z0<|sn<|sq<|sq<|A7 (σ':=⟨[(0,.sl (List.map c46 a)),(1,.sl (List.map c46 b)),(13,.b (decide (¬B2 a=0∨¬B2 b=0)))],[]⟩) ?_ ?_
 refine A2 (¬B2 a=0) (fun h_1=>?_) (fun h_1=>?_)
 refine rG cx [0,1,13] [] (fT (I1 (a)) (tT 2 (E1 h_1:AV.b (B2 a !=0)=AV.b true) (tD 7 true (¬B2 a=0∨¬B2 b=0) (by simp only [eq_false h_1,tsl]) (oA 1 (.i .i64 (B2 a)) z0)))) ?_
 exact⟨rfl,by kernel_rfl⟩
 refine rG cx [0,1,13] [] (fT (I1 (a)) (tN 2 (B2 a) (0:Int) (tT 3 (A0 h_1) (fT (I1 (b)) (tN 6 (B2 b) (0:Int) (tT 7 (by first | (simp only [eq_false h_1,tsl];done) | simp_all:AV.b (decide ¬B2 b=0)=AV.b (decide (¬B2 a=0∨¬B2 b=0))) (oA 1 (.i .i64 (B2 a)) (oA 5 (.i .i64 (B2 b)) z0)))))))) ?_
 exact⟨rfl,by kernel_rfl⟩
 refine sn<|dC (¬B2 a=0∨¬B2 b=0) (fun h2=>?_) fun h2=>?_
 refine sq<|rG cx [4,5] [] z0<|sn<|rT<|nR<|qR (.tup [.nl,.i .i64 ((1:Int))]) (A3.tup (ZLe.cons (A3.nl' (show List.map c46 (K0 a b).1=[]from(by exact(by rw[Aj1 h2];rfl)))) (ZLe.cons (A3.eq (show AV.i .i64 1=AV.i .i64 (K0 a b).2 from(by exact(by rw[Aj1 h2])))) ZLe.nil)))
 refine sK<|sn<|sq ?_
 have hl_3:=(Az3 [a,b].flatten)
 refine rG cx [4,5] [] (fT (con169 ([a,b]) (by exact(Nat.le_trans (A92 h2) (by decide)))) (fT (con168 ([a,b].flatten) (by exact(Nat.le_trans (A92 h2) (by decide)))) (oV 3 { val:=some (.own (46:Nat) (4:Nat)),rows:=some (List.map c46 [a,b].flatten) } (oA 4 (.tup [.sl (List.map c46 (P9 [a,b].flatten).1),.i .i64 ((P9 [a,b].flatten).2)]) z0)))) ?_
 refine sn<|rT<|qR (.tup [.sl (List.map c46 (P9 [a,b].flatten).1),.i .i64 ((P9 [a,b].flatten).2)]) (A3.tup (ZLe.cons (A3.eq (show AV.sl (List.map c46 (P9 [a,b].flatten).1)=AV.sl (List.map c46 (K0 a b).1)from(by exact(by rw[A6y,A5n (A1u h2).1 (A1u h2).2])))) (ZLe.cons (A3.eq (show AV.i .i64 (P9 [a,b].flatten).2=AV.i .i64 (K0 a b).2 from(by exact(by rw[A6y,A5n (A1u h2).1 (A1u h2).2])))) ZLe.nil)))
end Go.Proofs.YtphcaholhacnpaaGreat
namespace Go.Proofs.YtphcaholhacnpaaGreat
open Go.E
set_option maxRecDepth 100000
set_option maxHeartbeats 4000000
open Go Go.Lib Go.RowKit Go.Proofs
def rulC:Array Value:=#[.nilFunc,.func (.func 154) #[] #[],.func (.func 155) #[] #[],.func (.func 156) #[] #[],.func (.func 157) #[] #[],.func (.func 158) #[] #[],.func (.func 159) #[] #[]]
def rulL:List (List AV):=[[.nilf],[.fn (.func 154) [] []],[.fn (.func 155) [] []],[.fn (.func 156) [] []],[.fn (.func 157) [] []],[.fn (.func 158) [] []],[.fn (.func 159) [] []]]
set_option maxHeartbeats 4000000 in
theorem B03 (w:World):Calls Tryz.prog 84 #[] w fun e w'=>e=.returned (.slice (some ⟨w.heap.size,0,none⟩) 7 7)∧w'.heap[w.heap.size]?=some (.cells rulC 132 (0,0))∧Below w.heap.size w w':=by
 go_enter Tryz.func84,Tryz.ntmps84
 go_wp2
 go_ret
 exact⟨rfl,heap_alloc_new w _,⟨rfl,rfl,rfl,by simp,fun k hk=>Below.heap_alloc w _ k hk⟩⟩
def rulU(j:Nat):Value:=(rulC[j]?).getD .nilFunc
theorem rul_at:∀ j:Nat,j < 7→rulC[j]?=some (rulU j)
 | 0,_ | 1,_ | 2,_ | 3,_ | 4,_ | 5,_ | 6,_=>rfl
theorem B7g:∀ j:Nat,(rulU j).oneCell'=true
 | 0 | 1 | 2 | 3 | 4 | 5 | 6=>rfl
 | n+7=>rfl
theorem Y2(S:Nat→Prop)(w:World)(f:Nat):RelV0 S w (.fn (.func f) [] []) (.func (.func f) #[] #[]):=.fn _ [] [] [] [] rfl rfl (fun j a u h=>by simp at h) (fun j a u h=>by simp at h)
theorem B7h(S:Nat→Prop)(w:World):∀(j q:Nat) (r:List AV) (a:AV),rulL[j]?=some r→r[q]?=some a→RelV0 S w a (rulU j)
 | 0,0,_,_,rfl,rfl=>.nilf
 | 1,0,_,_,rfl,rfl=>Y2 S w _
 | 2,0,_,_,rfl,rfl=>Y2 S w _
 | 3,0,_,_,rfl,rfl=>Y2 S w _
 | 4,0,_,_,rfl,rfl=>Y2 S w _
 | 5,0,_,_,rfl,rfl=>Y2 S w _
 | 6,0,_,_,rfl,rfl=>Y2 S w _
theorem A2a:Con Tryz.prog 84 [] (.sl [[.nilf],[.fn (.func 154) [] []],[.fn (.func 155) [] []],[.fn (.func 156) [] []],[.fn (.func 157) [] []],[.fn (.func 158) [] []],[.fn (.func 159) [] []]]):=by
 refine⟨⟨_,Tryz.func84,by kernel_rfl,by kernel_rfl⟩,fun w S0 vs hS hl hv=>?_⟩
 obtain rfl:vs=[]:=List.eq_nil_of_length_eq_zero hl
 refine(B03 w).mono ?_
 rintro e w' ⟨rfl,hc,hb⟩
 refine⟨_,rfl,?_,hb⟩
 refine RelV0.sl rulL (some ⟨w.heap.size,0,none⟩) 7 1 (fun j _=>rulU j) (by decide) (by decide) (fun h=>by cases h) (by decide) (fun _=>⟨_,rfl,.inr ⟨Nat.le_refl _,?_⟩,?_⟩) (fun j _=>B7g j) (B7h _ _)
 ·exact(Array.getElem?_eq_some_iff.1 hc).1
 ·intro j q hj hq
  obtain rfl:q=0:=by omega
  have:=rul_at j hj
  by_cases z:j=0
  ·subst z;simpa [World.cell?,Addr.add,hc]using this
  ·simpa [World.cell?,Addr.add,z,hc]using this
end Go.Proofs.YtphcaholhacnpaaGreat
namespace Go.Proofs.YtphcaholhacnpaaGreat
open Go.E
set_option maxRecDepth 100000
set_option maxHeartbeats 4000000
noncomputable def J5(w:Wish)(qty:Int)(old:List Entry):Facts×Int:=if ¬(U4 w.seen w.rep w.lim.count).2=0 then(default,(U4 w.seen w.rep w.lim.count).2)else(⟨[⟨(U4 w.seen w.rep w.lim.count).1,w.act.sku,qty⟩],(C3 old).1,[]⟩,0)
def A04(w:Wish):Bool:=decide (((ofV w.live w.act.sku).1.length:Int)≤0∧w.lim.lines≤(L6 w.live).1.length)
noncomputable def T3(w:Wish):Facts×Int:=if A04 w=true then(default,12)else J5 w w.act.qty (ofV w.live w.act.sku).1
noncomputable def M5(w:Wish):Facts×Int:=if A04 w=true then(default,12)else if 1000000 <(M3 (ofV w.live w.act.sku).1).1+w.act.qty then(default,13)else J5 w (w.act.qty+(M3 (E8 w.live w.rep w.act.sku).1).1) (E8 w.live w.rep w.act.sku).1
def T4(w:Wish):Facts×Int:=if((ofV w.live w.act.sku).1.length:Int)=0 then(default,11)else(⟨[],(C3 (ofV w.live w.act.sku).1).1,[]⟩,0)
noncomputable def G0(s:ByteArray)(p:Past):Facts:=if E0 p=0 then default else⟨[],⟨[],[]⟩,[⟨s,A4 p⟩]⟩
theorem T5(es:List Entry)(rep:Int)(sku:ByteArray):(E8 es rep sku).1.length≤es.length:=by
 by_cases h:B2 es=0
 ·by_cases r:rep < 0∨16≤rep
  ·rw[A6t h r];exact Nat.zero_le _
  ·by_cases g:J6 sku=true
   ·rw[A1q h r g];exact List.length_filter_le ..
   ·rw[A6u h r g];exact Nat.zero_le _
 ·rw[A3u h];exact Nat.zero_le _
theorem A14(es:List Entry):0≤(M3 es).1∧(M3 es).1≤1000000*es.length:=by
 by_cases h:B2 es=0
 ·have h2:=R0 (l:=es) fun e he=>A02 h e he
  rw[A03 h]
  simp only
  omega
 ·rw[Ac2 h]
  simp only
  omega
theorem Aj3(w:Wish)(hs:w.live.length*40≤140737488351232):Con Tryz.prog 201 [.agg (B28 w)] (.sl ((ofV w.live w.act.sku).1.map c46)) :=
 by
 refine sC A6 [.tmp 2] 15 Tryz.func201 ?_
 intro e0 cx
 refine sq<|rG cx [1] [1] z0<|sn<|sq ?_
 have hl_0:=(K7 w.live)
 have hl_1:=(K7 w.live w.act.sku)
 refine rG cx [3] [] (fT (B4y (w.live) (w.act.sku) (by(with_reducible assumption))) (oA 5 (.tup [.sl (List.map c46 (ofV w.live w.act.sku).1),.i .i64 ((ofV w.live w.act.sku).2)]) z0))<|sn<|sq<|rG cx [2] [] z0<|sn<|rT ?_
 exact A25 (r:=.sl (List.map c46 (ofV w.live w.act.sku).1)) (obl:=[]) (by kernel_rfl) trivial (A3.refl _)
theorem B50(w:Wish)(hs:w.live.length*40≤140737488351232):Con Tryz.prog 199 [.agg (B28 w)] (.b (A04 w)) :=
 by
 refine sC A6 [.tmp 2] 21 Tryz.func199 ?_
 intro e0 cx
 refine sq<|rG cx [1] [1] z0<|sn<|sq<|sq ?_
 have hl_0:=(K7 w.live)
 have hl_1:=(K7 w.live w.act.sku)
 refine rG cx [1,8] [1] (fT (Aj3 (w) (by(with_reducible assumption))) (tL 2 c46 ((ofV w.live w.act.sku).1) (tB 3 ((0:Int) <(↑(ofV w.live w.act.sku).1.length:Int)) (oA 1 (.sl (List.map c46 (ofV w.live w.act.sku).1)) z0))))<|sn<|dC ((0:Int) <(↑(ofV w.live w.act.sku).1.length:Int)) (fun h2=>?_) fun h2=>?_
 refine sq<|rG cx [2] [] z0<|sn<|rT<|nR<|qR (.b (false)) (.eq (by unfold A04;rw[decide_eq_false (by omega)]))
 refine sK<|sn<|sq<|rG cx [1,3] [1] (fT (con109 (w.live) (by(with_reducible assumption))) (oA 2 (.tup [.sl (List.map c61 (L6 w.live).1),.i .i64 ((L6 w.live).2)]) z0))<|sn<|sq<|rG cx [2] [] (tL 1 c61 ((L6 w.live).1) (tB 5 (w.lim.lines≤(↑(L6 w.live).1.length:Int)) z0))<|sn<|rT<|qR (.b (decide (w.lim.lines≤(↑(L6 w.live).1.length:Int)))) (.eq (by unfold A04;exact congrArg AV.b (decide_eq_decide.2 ⟨fun k=>⟨by omega,k⟩,fun k=>k.2⟩)))
theorem B04(es:List Entry):Con Tryz.prog 202 [.sl (es.map c46)] (.agg (c36 ⟨[],(C3 es).1,[]⟩)) :=
 by
 refine lN 0 c46 (es) Tryz.func202 fun hl_0=>sC A6 [.cell 2 36] 12 Tryz.func202 ?_
 intro e0 cx
 refine sq<|rG cx [0,2] [2] z0<|sn<|sq<|rG cx [2,3] [2,3] (fT (con113 (es)) (oA 1 (.tup [.agg [.sl (List.map c3 (C3 es).1.vec),.sl (List.map A9 (C3 es).1.cloud)],.i .i64 ((C3 es).2)]) z0))<|sn<|sq<|rG cx [2] [2] z0<|sn<|rT ?_
 exact A25 (r:=.agg [.nl,.sl (List.map c3 (C3 es).1.vec),.sl (List.map A9 (C3 es).1.cloud),.nl]) (obl:=[]) (by kernel_rfl) trivial (A3.agg (ZLe.cons A3.nl (ZLe.cons (A3.refl _) (ZLe.cons (A3.refl _) (ZLe.cons A3.nl ZLe.nil)))))
theorem B51(w:Wish)(qty:Int)(old:List Entry)(hb:szP w.seen):Con Tryz.prog 200 [.agg (B28 w),.i .i64 qty,.sl (old.map c46)] (.tup [.agg (c36 (J5 w qty old).1),.i .i64 (J5 w qty old).2]) :=
 by
 refine lN 2 c46 (old) Tryz.func200 fun hl_2=>sC A6 [.cell 6 36,.tmp 7] 37 Tryz.func200 ?_
 intro e0 cx
 refine sq<|rG cx [1,2,3,6] [3,6] z0<|sn<|sq<|rG cx [1,2,3,6,8,9] [3,6,8] (fT (con237 (w.seen) (w.rep) (w.lim.count) (by(with_reducible assumption))) (oA 7 (.tup [.agg [.i .i64 ((U4 w.seen w.rep w.lim.count).1.rep),.i .i64 ((U4 w.seen w.rep w.lim.count).1.num)],.i .i64 ((U4 w.seen w.rep w.lim.count).2)]) z0))<|sn<|sq<|sq<|rG cx [1,2,3,6,8,9,23] [3,6,8] (tN 1 ((U4 w.seen w.rep w.lim.count).2) (0:Int) z0)<|sn<|dC (¬(U4 w.seen w.rep w.lim.count).2=0) (fun h0=>?_) fun h0=>?_
 refine sq<|rG cx [6,7] [6] z0<|sn<|rT<|nR<|qR (.tup [.agg [.nl,.nl,.nl,.nl],.i .i64 ((U4 w.seen w.rep w.lim.count).2)]) (A3.tup (ZLe.cons (A3.agg (ZLe.cons (A3.nl' (show List.map c46 (J5 w qty old).1.adds=[]from(by unfold J5;rw[if_pos h0];rfl))) (ZLe.cons (A3.nl' (show List.map c3 (J5 w qty old).1.gone.vec=[]from(by unfold J5;rw[if_pos h0];rfl))) (ZLe.cons (A3.nl' (show List.map A9 (J5 w qty old).1.gone.cloud=[]from(by unfold J5;rw[if_pos h0];rfl))) (ZLe.cons (A3.nl' (show List.map c54 (J5 w qty old).1.recs=[]from(by unfold J5;rw[if_pos h0];rfl))) ZLe.nil))))) (ZLe.cons (A3.eq (show AV.i .i64 (U4 w.seen w.rep w.lim.count).2=AV.i .i64 (J5 w qty old).2 from(by unfold J5;rw[if_pos h0]))) ZLe.nil)))
 refine sK<|sn<|sq<|rG cx [1,3,6,8,10] [3,6,8,10] (fT (B04 (old)) (oA 1 (.agg [.sl (List.map c46 { adds:=[],gone:=(C3 old).1,recs:=[]:Facts }.adds),.sl (List.map c3 { adds:=[],gone:=(C3 old).1,recs:=[]:Facts }.gone.vec),.sl (List.map A9 { adds:=[],gone:=(C3 old).1,recs:=[]:Facts }.gone.cloud),.sl (List.map c54 { adds:=[],gone:=(C3 old).1,recs:=[]:Facts }.recs)]) z0))<|sn<|sq<|rG cx [6,10] [6,10,34] z0<|sn<|sq<|W9 [34] [6,10] [6,10] (σ':=⟨[(6,.ptr (6) (0) (0) (0)),(10,.ptr (10) (0) (0) (0))],[(6,⟨0,36,.var [.nl,.nl,.nl,.nl]⟩),(10,⟨0,36,.var [.sl (List.map c46 [{ dot:=(U4 w.seen w.rep w.lim.count).1,sku:=w.act.sku,qty:=qty:Entry }]),.sl (List.map c3 { adds:=[],gone:=(C3 old).1,recs:=[]:Facts }.gone.vec),.sl (List.map A9 { adds:=[],gone:=(C3 old).1,recs:=[]:Facts }.gone.cloud),.sl (List.map c54 { adds:=[],gone:=(C3 old).1,recs:=[]:Facts }.recs)]⟩)]⟩) (by kernel_rfl)<|rG cx [6,7] [6] z0<|sn<|rT<|qR (.tup [.agg [.sl (List.map c46 [{ dot:=(U4 w.seen w.rep w.lim.count).1,sku:=w.act.sku,qty:=qty:Entry }]),.sl (List.map c3 { adds:=[],gone:=(C3 old).1,recs:=[]:Facts }.gone.vec),.sl (List.map A9 { adds:=[],gone:=(C3 old).1,recs:=[]:Facts }.gone.cloud),.sl (List.map c54 { adds:=[],gone:=(C3 old).1,recs:=[]:Facts }.recs)],.i .i64 ((0:Int))]) (A3.tup (ZLe.cons (A3.eq (show AV.agg [AV.sl (List.map c46 [{ dot:=(U4 w.seen w.rep w.lim.count).1,sku:=w.act.sku,qty:=qty:Entry }]),AV.sl (List.map c3 { adds:=[],gone:=(C3 old).1,recs:=[]:Facts }.gone.vec),AV.sl (List.map A9 { adds:=[],gone:=(C3 old).1,recs:=[]:Facts }.gone.cloud),AV.sl (List.map c54 { adds:=[],gone:=(C3 old).1,recs:=[]:Facts }.recs)]=AV.agg [AV.sl (List.map c46 (J5 w qty old).1.adds),AV.sl (List.map c3 (J5 w qty old).1.gone.vec),AV.sl (List.map A9 (J5 w qty old).1.gone.cloud),AV.sl (List.map c54 (J5 w qty old).1.recs)]from(by unfold J5;rw[if_neg h0]))) (ZLe.cons (A3.eq (show AV.i .i64 0=AV.i .i64 (J5 w qty old).2 from(by unfold J5;rw[if_neg h0]))) ZLe.nil)))
theorem B52(s:ByteArray)(p:Past)(hb:szP p):Con Tryz.prog 203 [.s s,.agg (c26 p)] (.agg (c36 (G0 s p))) :=
 by
 refine sC A6 [.cell 4 36] 14 Tryz.func203 ?_
 intro e0 cx
 refine sq<|rG cx [0,3,4] [3,4] z0<|sn<|sq<|sq<|rG cx [0,3,4,6] [3,4] (fT (An4 (p) (by exact hb.1)) (oA 1 (.b (decide (E0 p=0))) z0)) ?_
 refine sn<|dC (E0 p=0) (fun h0=>?_) fun h0=>?_
 refine sq<|rG cx [4] [4] z0<|sn<|rT<|nR<|qR (.agg [.nl,.nl,.nl,.nl]) (A3.agg (ZLe.cons (A3.nl' (show List.map c46 (G0 s p).adds=[]from(by unfold G0;rw[if_pos h0];rfl))) (ZLe.cons (A3.nl' (show List.map c3 (G0 s p).gone.vec=[]from(by unfold G0;rw[if_pos h0];rfl))) (ZLe.cons (A3.nl' (show List.map A9 (G0 s p).gone.cloud=[]from(by unfold G0;rw[if_pos h0];rfl))) (ZLe.cons (A3.nl' (show List.map c54 (G0 s p).recs=[]from(by unfold G0;rw[if_pos h0];rfl))) ZLe.nil)))))
 refine sK<|sn<|sq<|rG cx [4] [4] (fT (A89 (p) (by exact hb.1)) (oA 2 (.agg [.sl (List.map c3 (A4 p).vec),.sl (List.map A9 (A4 p).cloud)]) z0)) ?_
 refine sn<|rT<|qR (.agg [.nl,.nl,.nl,.sl (List.map c54 [{ sku:=s,past:=A4 p:Record }])]) (A3.agg (ZLe.cons (A3.nl' (show List.map c46 (G0 s p).adds=[]from(by unfold G0;rw[if_neg h0];rfl))) (ZLe.cons (A3.nl' (show List.map c3 (G0 s p).gone.vec=[]from(by unfold G0;rw[if_neg h0];rfl))) (ZLe.cons (A3.nl' (show List.map A9 (G0 s p).gone.cloud=[]from(by unfold G0;rw[if_neg h0];rfl))) (ZLe.cons (A3.eq (show AV.sl (List.map c54 [{ sku:=s,past:=A4 p:Record }])=AV.sl (List.map c54 (G0 s p).recs)from(by unfold G0;rw[if_neg h0]))) ZLe.nil)))))
theorem con154(w:Wish)(hs:w.live.length*40≤140737488351232)(hb:szP w.seen):Con Tryz.prog 154 [.agg (B28 w)] (.tup [.agg (c36 (T3 w).1),.i .i64 (T3 w).2]) :=
 by
 refine sC A6 [.cell 2 36,.tmp 3] 16 Tryz.func154 ?_
 intro e0 cx
 refine sq<|rG cx [1,2] [1,2] z0<|sn<|sq<|sq<|rG cx [1,2,5] [1,2] (fT (B50 (w) (by(with_reducible assumption))) (oA 1 (.b (A04 w)) z0))<|sn<|Z7 (A04 w) (by kernel_rfl) (by kernel_rfl) (fun h0=>?_) (fun h0=>?_)
 refine sq<|rG cx [2,3] [2] z0<|sn<|rT<|nR<|qR (.tup [.agg [.nl,.nl,.nl,.nl],.i .i64 ((12:Int))]) (A3.tup (ZLe.cons (A3.agg (ZLe.cons (A3.nl' (show List.map c46 (T3 w).1.adds=[]from(by unfold T3;rw[if_pos h0];rfl))) (ZLe.cons (A3.nl' (show List.map c3 (T3 w).1.gone.vec=[]from(by unfold T3;rw[if_pos h0];rfl))) (ZLe.cons (A3.nl' (show List.map A9 (T3 w).1.gone.cloud=[]from(by unfold T3;rw[if_pos h0];rfl))) (ZLe.cons (A3.nl' (show List.map c54 (T3 w).1.recs=[]from(by unfold T3;rw[if_pos h0];rfl))) ZLe.nil))))) (ZLe.cons (A3.eq (show AV.i .i64 12=AV.i .i64 (T3 w).2 from(by unfold T3;rw[if_pos h0]))) ZLe.nil)))
 refine sK<|sn<|sq ?_
 have hl_1:=(K7 w.live)
 have hl_2:=(K7 w.live w.act.sku)
 refine rA cx [2,3] [2] (fT (Aj3 (w) (by(with_reducible assumption))) (fT (B51 (w) (w.act.qty) ((ofV w.live w.act.sku).1) (by(with_reducible assumption))) (oA 5 (.sl (List.map c46 (ofV w.live w.act.sku).1)) (oA 6 (.tup [.agg [.sl (List.map c46 (J5 w w.act.qty (ofV w.live w.act.sku).1).1.adds),.sl (List.map c3 (J5 w w.act.qty (ofV w.live w.act.sku).1).1.gone.vec),.sl (List.map A9 (J5 w w.act.qty (ofV w.live w.act.sku).1).1.gone.cloud),.sl (List.map c54 (J5 w w.act.qty (ofV w.live w.act.sku).1).1.recs)],.i .i64 ((J5 w w.act.qty (ofV w.live w.act.sku).1).2)]) z0))))<|sn<|rT<|qR (.tup [.agg [.sl (List.map c46 (J5 w w.act.qty (ofV w.live w.act.sku).1).1.adds),.sl (List.map c3 (J5 w w.act.qty (ofV w.live w.act.sku).1).1.gone.vec),.sl (List.map A9 (J5 w w.act.qty (ofV w.live w.act.sku).1).1.gone.cloud),.sl (List.map c54 (J5 w w.act.qty (ofV w.live w.act.sku).1).1.recs)],.i .i64 ((J5 w w.act.qty (ofV w.live w.act.sku).1).2)]) (A3.tup (ZLe.cons (A3.eq (show AV.agg [AV.sl (List.map c46 (J5 w w.act.qty (ofV w.live w.act.sku).1).1.adds),AV.sl (List.map c3 (J5 w w.act.qty (ofV w.live w.act.sku).1).1.gone.vec),AV.sl (List.map A9 (J5 w w.act.qty (ofV w.live w.act.sku).1).1.gone.cloud),AV.sl (List.map c54 (J5 w w.act.qty (ofV w.live w.act.sku).1).1.recs)]=AV.agg [AV.sl (List.map c46 (T3 w).1.adds),AV.sl (List.map c3 (T3 w).1.gone.vec),AV.sl (List.map A9 (T3 w).1.gone.cloud),AV.sl (List.map c54 (T3 w).1.recs)]from(by unfold T3;rw[if_neg (by rw[h0];decide)]))) (ZLe.cons (A3.eq (show AV.i .i64 (J5 w w.act.qty (ofV w.live w.act.sku).1).2=AV.i .i64 (T3 w).2 from(by unfold T3;rw[if_neg (by rw[h0];decide)]))) ZLe.nil)))
theorem con155(w:Wish)(hs:w.live.length*40≤140737488351232)(hb:szP w.seen)(hq:1≤w.act.qty∧w.act.qty≤1000000):Con Tryz.prog 155 [.agg (B28 w)] (.tup [.agg (c36 (M5 w).1),.i .i64 (M5 w).2]) :=
 by
 refine sC A6 [.cell 2 36,.tmp 3] 52 Tryz.func155 ?_
 intro e0 cx
 refine sq<|rG cx [1,2] [1,2] z0<|sn<|sq<|sq<|rG cx [1,2,11] [1,2] (fT (B50 (w) (by(with_reducible assumption))) (oA 1 (.b (A04 w)) z0))<|sn<|Z7 (A04 w) (by kernel_rfl) (by kernel_rfl) (fun h0=>?_) (fun h0=>?_)
 refine sq<|rG cx [2,3] [2] z0<|sn<|rT<|nR<|qR (.tup [.agg [.nl,.nl,.nl,.nl],.i .i64 ((12:Int))]) (A3.tup (ZLe.cons (A3.agg (ZLe.cons (A3.nl' (show List.map c46 (M5 w).1.adds=[]from(by unfold M5;rw[if_pos h0];rfl))) (ZLe.cons (A3.nl' (show List.map c3 (M5 w).1.gone.vec=[]from(by unfold M5;rw[if_pos h0];rfl))) (ZLe.cons (A3.nl' (show List.map A9 (M5 w).1.gone.cloud=[]from(by unfold M5;rw[if_pos h0];rfl))) (ZLe.cons (A3.nl' (show List.map c54 (M5 w).1.recs=[]from(by unfold M5;rw[if_pos h0];rfl))) ZLe.nil))))) (ZLe.cons (A3.eq (show AV.i .i64 12=AV.i .i64 (M5 w).2 from(by unfold M5;rw[if_pos h0]))) ZLe.nil)))
 refine sK<|sn<|sq ?_
 have hl_1:=(K7 w.live)
 have hl_2:=(K7 w.live w.act.sku)
 refine rG cx [1,2,4] [1,2] (fT (Aj3 (w) (by(with_reducible assumption))) (fT (Ay7 ((ofV w.live w.act.sku).1) (by omega)) (oA 1 (.sl (List.map c46 (ofV w.live w.act.sku).1)) (oA 2 (.tup [.i .i64 ((M3 (ofV w.live w.act.sku).1).1),.i .i64 ((M3 (ofV w.live w.act.sku).1).2)]) z0))))<|sn<|sq<|sq<|rG cx [1,2,24] [1,2] (tT 4 (C1 (by have:=A14 (ofV w.live w.act.sku).1;omega) (by have:=A14 (ofV w.live w.act.sku).1;have:=K7 w.live w.act.sku;omega):AV.i .i64 (IntKind.i64.wrap ((M3 (ofV w.live w.act.sku).1).1+w.act.qty))=AV.i .i64 ((M3 (ofV w.live w.act.sku).1).1+w.act.qty)) (tB 5 ((1000000:Int) <(M3 (ofV w.live w.act.sku).1).1+w.act.qty) z0)) ?_
 refine sn<|dC ((1000000:Int) <(M3 (ofV w.live w.act.sku).1).1+w.act.qty) (fun h3=>?_) fun h3=>?_
 refine sq<|rG cx [2,3] [2] z0<|sn<|rT<|nR<|qR (.tup [.agg [.nl,.nl,.nl,.nl],.i .i64 ((13:Int))]) (A3.tup (ZLe.cons (A3.agg (ZLe.cons (A3.nl' (show List.map c46 (M5 w).1.adds=[]from(by unfold M5;rw[if_neg (by rw[h0];decide)];rw[if_pos h3];rfl))) (ZLe.cons (A3.nl' (show List.map c3 (M5 w).1.gone.vec=[]from(by unfold M5;rw[if_neg (by rw[h0];decide)];rw[if_pos h3];rfl))) (ZLe.cons (A3.nl' (show List.map A9 (M5 w).1.gone.cloud=[]from(by unfold M5;rw[if_neg (by rw[h0];decide)];rw[if_pos h3];rfl))) (ZLe.cons (A3.nl' (show List.map c54 (M5 w).1.recs=[]from(by unfold M5;rw[if_neg (by rw[h0];decide)];rw[if_pos h3];rfl))) ZLe.nil))))) (ZLe.cons (A3.eq (show AV.i .i64 13=AV.i .i64 (M5 w).2 from(by unfold M5;rw[if_neg (by rw[h0];decide)];rw[if_pos h3]))) ZLe.nil)))
 refine sK<|sn<|sq ?_
 have hl_4:=(T5 w.live)
 have hl_5:=(T5 w.live w.rep)
 have hl_6:=(T5 w.live w.rep w.act.sku)
 refine rG cx [1,2,6] [1,2] (fT (con26 (w.live) (w.rep) (w.act.sku) (by(with_reducible assumption))) (oA 7 (.tup [.sl (List.map c46 (E8 w.live w.rep w.act.sku).1),.i .i64 ((E8 w.live w.rep w.act.sku).2)]) z0))<|sn<|sq<|rG cx [1,2,6,8] [1,2] (fT (Ay7 ((E8 w.live w.rep w.act.sku).1) (by omega)) (oA 1 (.tup [.i .i64 ((M3 (E8 w.live w.rep w.act.sku).1).1),.i .i64 ((M3 (E8 w.live w.rep w.act.sku).1).2)]) z0))<|sn<|sq<|rG cx [2,3] [2] (tT 5 (C1 (by have:=A14 (E8 w.live w.rep w.act.sku).1;omega) (by have:=A14 (E8 w.live w.rep w.act.sku).1;have:=T5 w.live w.rep w.act.sku;omega):AV.i .i64 (IntKind.i64.wrap (w.act.qty+(M3 (E8 w.live w.rep w.act.sku).1).1))=AV.i .i64 (w.act.qty+(M3 (E8 w.live w.rep w.act.sku).1).1)) (fT (B51 (w) (w.act.qty+(M3 (E8 w.live w.rep w.act.sku).1).1) ((E8 w.live w.rep w.act.sku).1) (by(with_reducible assumption))) (oA 7 (.tup [.agg [.sl (List.map c46 (J5 w (w.act.qty+(M3 (E8 w.live w.rep w.act.sku).1).1) (E8 w.live w.rep w.act.sku).1).1.adds),.sl (List.map c3 (J5 w (w.act.qty+(M3 (E8 w.live w.rep w.act.sku).1).1) (E8 w.live w.rep w.act.sku).1).1.gone.vec),.sl (List.map A9 (J5 w (w.act.qty+(M3 (E8 w.live w.rep w.act.sku).1).1) (E8 w.live w.rep w.act.sku).1).1.gone.cloud),.sl (List.map c54 (J5 w (w.act.qty+(M3 (E8 w.live w.rep w.act.sku).1).1) (E8 w.live w.rep w.act.sku).1).1.recs)],.i .i64 ((J5 w (w.act.qty+(M3 (E8 w.live w.rep w.act.sku).1).1) (E8 w.live w.rep w.act.sku).1).2)]) z0))) ?_
 refine sn<|rT<|qR (.tup [.agg [.sl (List.map c46 (J5 w (w.act.qty+(M3 (E8 w.live w.rep w.act.sku).1).1) (E8 w.live w.rep w.act.sku).1).1.adds),.sl (List.map c3 (J5 w (w.act.qty+(M3 (E8 w.live w.rep w.act.sku).1).1) (E8 w.live w.rep w.act.sku).1).1.gone.vec),.sl (List.map A9 (J5 w (w.act.qty+(M3 (E8 w.live w.rep w.act.sku).1).1) (E8 w.live w.rep w.act.sku).1).1.gone.cloud),.sl (List.map c54 (J5 w (w.act.qty+(M3 (E8 w.live w.rep w.act.sku).1).1) (E8 w.live w.rep w.act.sku).1).1.recs)],.i .i64 ((J5 w (w.act.qty+(M3 (E8 w.live w.rep w.act.sku).1).1) (E8 w.live w.rep w.act.sku).1).2)]) (A3.tup (ZLe.cons (A3.eq (show AV.agg [AV.sl (List.map c46 (J5 w (w.act.qty+(M3 (E8 w.live w.rep w.act.sku).1).1) (E8 w.live w.rep w.act.sku).1).1.adds),AV.sl (List.map c3 (J5 w (w.act.qty+(M3 (E8 w.live w.rep w.act.sku).1).1) (E8 w.live w.rep w.act.sku).1).1.gone.vec),AV.sl (List.map A9 (J5 w (w.act.qty+(M3 (E8 w.live w.rep w.act.sku).1).1) (E8 w.live w.rep w.act.sku).1).1.gone.cloud),AV.sl (List.map c54 (J5 w (w.act.qty+(M3 (E8 w.live w.rep w.act.sku).1).1) (E8 w.live w.rep w.act.sku).1).1.recs)]=AV.agg [AV.sl (List.map c46 (M5 w).1.adds),AV.sl (List.map c3 (M5 w).1.gone.vec),AV.sl (List.map A9 (M5 w).1.gone.cloud),AV.sl (List.map c54 (M5 w).1.recs)]from(by unfold M5;rw[if_neg (by rw[h0];decide)];rw[if_neg h3]))) (ZLe.cons (A3.eq (show AV.i .i64 (J5 w (w.act.qty+(M3 (E8 w.live w.rep w.act.sku).1).1) (E8 w.live w.rep w.act.sku).1).2=AV.i .i64 (M5 w).2 from(by unfold M5;rw[if_neg (by rw[h0];decide)];rw[if_neg h3]))) ZLe.nil)))
theorem con156(w:Wish)(hs:w.live.length*40≤140737488351232):Con Tryz.prog 156 [.agg (B28 w)] (.tup [.agg (c36 (T4 w).1),.i .i64 (T4 w).2]) :=
 by
 refine sC A6 [.cell 2 36,.tmp 3] 13 Tryz.func156 ?_
 intro e0 cx
 refine sq<|rG cx [1,2] [1,2] z0<|sn<|sq ?_
 have hl_0:=(K7 w.live)
 have hl_1:=(K7 w.live w.act.sku)
 refine rG cx [2,4] [2] (fT (Aj3 (w) (by(with_reducible assumption))) (oA 1 (.sl (List.map c46 (ofV w.live w.act.sku).1)) z0))<|sn<|sq<|rD cx [2,4,9] [2] (tL 1 c46 ((ofV w.live w.act.sku).1) (zB 2 ((↑(ofV w.live w.act.sku).1.length:Int)=0))) (fun h2=>?_) fun h2=>?_
 refine sq<|rG cx [2,3] [2] z0<|sn<|rT<|nR<|qR (.tup [.agg [.nl,.nl,.nl,.nl],.i .i64 ((11:Int))]) (A3.tup (ZLe.cons (A3.agg (ZLe.cons (A3.nl' (show List.map c46 (T4 w).1.adds=[]from(by unfold T4;rw[if_pos h2];rfl))) (ZLe.cons (A3.nl' (show List.map c3 (T4 w).1.gone.vec=[]from(by unfold T4;rw[if_pos h2];rfl))) (ZLe.cons (A3.nl' (show List.map A9 (T4 w).1.gone.cloud=[]from(by unfold T4;rw[if_pos h2];rfl))) (ZLe.cons (A3.nl' (show List.map c54 (T4 w).1.recs=[]from(by unfold T4;rw[if_pos h2];rfl))) ZLe.nil))))) (ZLe.cons (A3.eq (show AV.i .i64 11=AV.i .i64 (T4 w).2 from(by unfold T4;rw[if_pos h2]))) ZLe.nil)))
 refine sK<|sn<|sq<|rG cx [2,3] [2] (fT (B04 ((ofV w.live w.act.sku).1)) (oA 1 (.agg [.sl (List.map c46 { adds:=[],gone:=(C3 (ofV w.live w.act.sku).1).1,recs:=[]:Facts }.adds),.sl (List.map c3 { adds:=[],gone:=(C3 (ofV w.live w.act.sku).1).1,recs:=[]:Facts }.gone.vec),.sl (List.map A9 { adds:=[],gone:=(C3 (ofV w.live w.act.sku).1).1,recs:=[]:Facts }.gone.cloud),.sl (List.map c54 { adds:=[],gone:=(C3 (ofV w.live w.act.sku).1).1,recs:=[]:Facts }.recs)]) z0))<|sn<|rT<|qR (.tup [.agg [.sl (List.map c46 { adds:=[],gone:=(C3 (ofV w.live w.act.sku).1).1,recs:=[]:Facts }.adds),.sl (List.map c3 { adds:=[],gone:=(C3 (ofV w.live w.act.sku).1).1,recs:=[]:Facts }.gone.vec),.sl (List.map A9 { adds:=[],gone:=(C3 (ofV w.live w.act.sku).1).1,recs:=[]:Facts }.gone.cloud),.sl (List.map c54 { adds:=[],gone:=(C3 (ofV w.live w.act.sku).1).1,recs:=[]:Facts }.recs)],.i .i64 ((0:Int))]) (A3.tup (ZLe.cons (A3.eq (show AV.agg [AV.sl (List.map c46 { adds:=[],gone:=(C3 (ofV w.live w.act.sku).1).1,recs:=[]:Facts }.adds),AV.sl (List.map c3 { adds:=[],gone:=(C3 (ofV w.live w.act.sku).1).1,recs:=[]:Facts }.gone.vec),AV.sl (List.map A9 { adds:=[],gone:=(C3 (ofV w.live w.act.sku).1).1,recs:=[]:Facts }.gone.cloud),AV.sl (List.map c54 { adds:=[],gone:=(C3 (ofV w.live w.act.sku).1).1,recs:=[]:Facts }.recs)]=AV.agg [AV.sl (List.map c46 (T4 w).1.adds),AV.sl (List.map c3 (T4 w).1.gone.vec),AV.sl (List.map A9 (T4 w).1.gone.cloud),AV.sl (List.map c54 (T4 w).1.recs)]from(by unfold T4;rw[if_neg h2]))) (ZLe.cons (A3.eq (show AV.i .i64 0=AV.i .i64 (T4 w).2 from(by unfold T4;rw[if_neg h2]))) ZLe.nil)))
theorem con158(w:Wish):Con Tryz.prog 158 [.agg (B28 w)] (.tup [.agg (c36 ⟨[],(C3 w.live).1,[]⟩),.i .i64 0]) :=
 by
 refine sC A6 [.cell 2 36,.tmp 3] 7 Tryz.func158 ?_
 intro e0 cx
 refine sq<|rG cx [1,2] [1,2] z0<|sn<|sq<|rG cx [2,3] [2] (fT (B04 (w.live)) (oA 2 (.agg [.sl (List.map c46 { adds:=[],gone:=(C3 w.live).1,recs:=[]:Facts }.adds),.sl (List.map c3 { adds:=[],gone:=(C3 w.live).1,recs:=[]:Facts }.gone.vec),.sl (List.map A9 { adds:=[],gone:=(C3 w.live).1,recs:=[]:Facts }.gone.cloud),.sl (List.map c54 { adds:=[],gone:=(C3 w.live).1,recs:=[]:Facts }.recs)]) z0))<|sn<|rT ?_
 exact A25 (r:=.tup [.agg [.sl (List.map c46 { adds:=[],gone:=(C3 w.live).1,recs:=[]:Facts }.adds),.sl (List.map c3 { adds:=[],gone:=(C3 w.live).1,recs:=[]:Facts }.gone.vec),.sl (List.map A9 { adds:=[],gone:=(C3 w.live).1,recs:=[]:Facts }.gone.cloud),.sl (List.map c54 { adds:=[],gone:=(C3 w.live).1,recs:=[]:Facts }.recs)],.i .i64 ((0:Int))]) (obl:=[]) (by kernel_rfl) trivial (A3.tup (ZLe.cons (A3.refl _) (ZLe.cons (A3.refl _) ZLe.nil)))
theorem con157(w:Wish)(hb:szP w.act.past):Con Tryz.prog 157 [.agg (B28 w)] (.tup [.agg (c36 (G0 w.act.sku w.act.past)),.i .i64 0]) :=
 by
 refine sC A6 [.cell 2 36,.tmp 3] 11 Tryz.func157 ?_
 intro e0 cx
 refine sq<|rG cx [1,2] [1,2] z0<|sn<|sq<|rG cx [2,3] [2] (fT (B52 (w.act.sku) (w.act.past) (by(with_reducible assumption))) (oA 6 (.agg [.sl (List.map c46 (G0 w.act.sku w.act.past).adds),.sl (List.map c3 (G0 w.act.sku w.act.past).gone.vec),.sl (List.map A9 (G0 w.act.sku w.act.past).gone.cloud),.sl (List.map c54 (G0 w.act.sku w.act.past).recs)]) z0))<|sn<|rT ?_
 exact A25 (r:=.tup [.agg [.sl (List.map c46 (G0 w.act.sku w.act.past).adds),.sl (List.map c3 (G0 w.act.sku w.act.past).gone.vec),.sl (List.map A9 (G0 w.act.sku w.act.past).gone.cloud),.sl (List.map c54 (G0 w.act.sku w.act.past).recs)],.i .i64 ((0:Int))]) (obl:=[]) (by kernel_rfl) trivial (A3.tup (ZLe.cons (A3.refl _) (ZLe.cons (A3.refl _) ZLe.nil)))
theorem con159(w:Wish)(hb:szP w.act.past):Con Tryz.prog 159 [.agg (B28 w)] (.tup [.agg (c36 (G0 noneS w.act.past)),.i .i64 0]) :=
 by
 refine sC A6 [.cell 2 36,.tmp 3] 8 Tryz.func159 ?_
 intro e0 cx
 refine sq<|rG cx [1,2] [1,2] z0<|sn<|sq<|rG cx [2,3] [2] (fT (B52 ({ data:=#[]:ByteArray }) (w.act.past) (by(with_reducible assumption))) (oA 3 (.agg [.sl (List.map c46 (G0 { data:=#[]:ByteArray } w.act.past).adds),.sl (List.map c3 (G0 { data:=#[]:ByteArray } w.act.past).gone.vec),.sl (List.map A9 (G0 { data:=#[]:ByteArray } w.act.past).gone.cloud),.sl (List.map c54 (G0 { data:=#[]:ByteArray } w.act.past).recs)]) z0))<|sn<|rT<|qR (.tup [.agg [.sl (List.map c46 (G0 { data:=#[]:ByteArray } w.act.past).adds),.sl (List.map c3 (G0 { data:=#[]:ByteArray } w.act.past).gone.vec),.sl (List.map A9 (G0 { data:=#[]:ByteArray } w.act.past).gone.cloud),.sl (List.map c54 (G0 { data:=#[]:ByteArray } w.act.past).recs)],.i .i64 ((0:Int))]) (A3.tup (ZLe.cons (A3.eq (show AV.agg [AV.sl (List.map c46 (G0 { data:=#[]:ByteArray } w.act.past).adds),AV.sl (List.map c3 (G0 { data:=#[]:ByteArray } w.act.past).gone.vec),AV.sl (List.map A9 (G0 { data:=#[]:ByteArray } w.act.past).gone.cloud),AV.sl (List.map c54 (G0 { data:=#[]:ByteArray } w.act.past).recs)]=AV.agg [AV.sl (List.map c46 (G0 noneS w.act.past).adds),AV.sl (List.map c3 (G0 noneS w.act.past).gone.vec),AV.sl (List.map A9 (G0 noneS w.act.past).gone.cloud),AV.sl (List.map c54 (G0 noneS w.act.past).recs)]from ?g0)) (ZLe.cons (A3.refl _) ZLe.nil)));rotate_left
 case g0=>rfl
end Go.Proofs.YtphcaholhacnpaaGreat
