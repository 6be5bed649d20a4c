/- Lv: lines.Lines. Conditions: sizes. Lpa: entries in form, in plain words (first part). Conditions: none. Lw: lines: Line, Total; the document's Lines, Line, Total. Conditions: sizes. Lm: lines: Dots, Inside, Outside. Conditions: sizes. Dr: act.rules: the table. Conditions: none. Da: act: the rules of the acts. Conditions: sizes. Db: act.Decide. Conditions: sizes. Dc: act: the document's Dots, Sum, lines, limits. Conditions: sizes. Dp: act: what the document decides with is what the program decides with. Conditions: none. -/
import Derived.Below
import Derived.OwnWalk
import Derived.WalkKit
import Derived.KernelRfl
import Derived.Laws.MakeOwn
import Derived.Laws.OwnMore
import Derived.Laws.Slices
import Derived.Laws.CopyOwn
import Derived.Laws.AppendOwnNone
import Derived.Laws.Rows
import Derived.Orders
import Derived.Test.YtphcaholhacnpaaGreatProg
import Derived.DataReads
import Derived.ChangeOld
import Derived.DataElems
import Derived.SizedLaws
import Derived.ChangeKeysEq
import Derived.Sort.LotA
import Derived.Shelf.SlSortFuncK.RowK2
import Derived.Lib.Walk
import Derived.BigQuiet
import Derived.Shelf.SlSortFuncK.WholeK
import Derived.Shelf.GgSortFunc.Tiny
import Derived.Maps.RangeRun
import Derived.Shelf.SlSortCmp.NoneTotal
import Derived.Shelf.SlLaysE0
import Derived.Shelf.RegionOpenPlain
import Derived.Deep.LoopGhost
import Derived.Lib.SliceRun
import Derived.Shelf.SlSortFuncK.SWK
import Derived.Deep.Cut
import Derived.Deep.CutRange
import Derived.Deep.DeepCutAuto
import Derived.Lib.ReflectliteSwap
import Derived.Laws.Externs
import Derived.Lib.ReflectliteSlice
import Derived.Lib.AppendZeros
import Derived.Lib.Bytealg
import Derived.Test.YtphcaholhacnpaaGreatZv4
set_option linter.unusedVariables false
set_option linter.unusedSimpArgs false
namespace Go.Proofs.YtphcaholhacnpaaGreat
open Go.E
set_option maxRecDepth 100000
set_option maxHeartbeats 4000000
def A3u(p:ByteArray×Line):List AV:=[.s p.1,.agg (c61 p.2)]
def invF(es:List Entry)(i:Int)(m:List (ByteArray×Line)):Prop:=0≤i∧i≤es.length∧(m.length:Int)≤i∧m=K1 (es.take i.toNat)
def decF(es:List Entry)(i:Int)(m:List (ByteArray×Line)):Nat:=(es.length-i).toNat
def A56(m:List (ByteArray×Line))(seen:List Nat)(l:List Line):Prop:=seen.Nodup∧(∀ j∈seen,j < m.length)∧l=seen.map (fun j=>m[j]!.2)
def invS(es:List Entry)(m:List (ByteArray×Line))(l:List Line)(seen:List Nat):Prop:=m=K1 es∧(l.length:Int)=seen.length∧seen.length≤m.length∧A56 m seen l
def decS(m:List (ByteArray×Line))(l:List Line)(seen:List Nat):Nat:=m.length-seen.length
theorem Ab2{e:Entry}(h:U5 e=0):1≤e.qty∧e.qty≤1000000:=by
 unfold U5 at h
 split at h
 ·cases h
 ·split at h
  ·cases h
  ·split at h
   ·cases h
   ·split at h
    ·cases h
    ·omega
theorem R3:∀ {l:List Entry},(∀ e∈l,U5 e=0)→(l.length:Int)≤K9 l∧K9 l≤1000000*l.length
 | [],_=>by simp [K9]
 | e :: l,h=>by
  have h1:=Ab2 (h e (by simp))
  have h2:=R3 (l:=l) fun x hx=>h x (by simp [hx])
  simp only [K9,List.length_cons]
  omega
theorem A1g{es:List Entry}(h:C1 es=0):∀ e∈es,U5 e=0:=fun e he=>by
 obtain⟨i,hi,rfl⟩:=List.mem_iff_getElem.1 he
 have:=(Y6 (A3t h) hi).1
 rwa [getElem!_pos es i hi]at this
theorem Al0{l es:List Entry}(h:C1 es=0)(hs:∀ e∈l,e∈es)(s:ByteArray):0≤(lineOf l s).qty∧(lineOf l s).qty≤1000000*l.length∧0≤(lineOf l s).parts∧(lineOf l s).parts≤l.length:=by
 have h1:(A3j l s).length≤l.length:=List.length_filter_le _ _
 have h2:=R3 (l:=A3j l s) fun e he=>A1g h e (hs e (List.mem_filter.1 he).1)
 unfold lineOf
 simp only
 omega
theorem X5{es:List Entry}(h:C1 es=0){i:Int}(h0:0≤i)(h1:i≤es.length)(s:ByteArray) :
  0≤(lkp s (K1 (es.take i.toNat))).qty∧(lkp s (K1 (es.take i.toNat))).qty≤1000000*i∧0≤(lkp s (K1 (es.take i.toNat))).parts∧(lkp s (K1 (es.take i.toNat))).parts≤i:=by
 have h2:=Al0 h (l:=es.take i.toNat) (fun e he=>List.mem_of_mem_take he) s
 have h3:=(Av2 (es.take i.toNat)).lkp s
 rw[h3.1,h3.2]
 rw[List.length_take]at h2
 omega
theorem A57{es:List Entry}(h:C1 es=0){i:Int}(h0:0≤i)(h1:i < es.length):1≤es[i.toNat]!.qty∧es[i.toNat]!.qty≤1000000:=Ab2 (Y6 (A3t h) (by omega)).1
theorem Aw0{es:List Entry}{i:Int}{m:List (ByteArray×Line)}(h0:0≤i)(h1:(m.length:Int)≤i)(h2:m=K1 (es.take i.toNat))(h3:i < es.length) :
  invF es (i+1) (A06 es[i.toNat]!.sku ⟨es[i.toNat]!.sku,(lkp es[i.toNat]!.sku m).qty+es[i.toNat]!.qty,(lkp es[i.toNat]!.sku m).parts+1⟩ m):=by
 have h4:=A6q es[i.toNat]!.sku (Av1 es[i.toNat]! (lkp es[i.toNat]!.sku m)) m
 unfold Av1 at h4
 refine⟨by omega,by omega,by omega,?_⟩
 rw[← D6 h0 h3,A3k,← h2]
 rfl
theorem A3v{m:List (ByteArray×Line)}{seen:List Nat}{l:List Line}{j:Nat}(h:A56 m seen l)(hj:j < m.length)(hn:¬ j∈seen):A56 m (seen++[j]) (l++[m[j]!.2]):=by
 obtain⟨h1,h2,h3⟩:=h
 refine⟨List.nodup_append.2 ⟨h1,by simp,fun a ha b hb e=>?_⟩,fun k hk=>?_,by rw[h3,List.map_append];rfl⟩
 ·have:b=j:=by simpa using hb
  subst e this
  exact hn ha
 ·rcases List.mem_append.1 hk with k1 | k1
  ·exact h2 k k1
  ·have:k=j:=by simpa using k1
   omega
theorem T7{m:List (ByteArray×Line)}{seen:List Nat}{l:List Line}{j:Nat}(h:A56 m seen l)(hj:j < m.length)(hn:¬ j∈seen):seen.length+1≤m.length:=by
 have h1:=A3v h hj hn
 have:=A6r _ _ h1.1 h1.2.1
 simpa using this
theorem Al1{m:List (ByteArray×Line)}{seen:List Nat}{l:List Line}(h:A56 m seen l)(ha:∀ j,j < m.length→j∈seen):l.Perm (m.map (·.2)):=by
 obtain⟨h1,h2,h3⟩:=h
 have hp:=(Av4 h1 h2 ha).map (fun j=>m[j]!.2)
 rw[← h3]at hp
 have e:(List.range m.length).map (fun j=>m[j]!.2)=m.map (·.2):=by
  have:=congrArg (List.map fun p:ByteArray×Line=>p.2) (Av5 m)
  rw[List.map_map]at this
  exact this
 rwa [e]at hp
theorem con109(es:List Entry)(hs:es.length*40≤140737488351232):Con Tryz.prog 109 [.sl (es.map c46)] (.tup [.sl ((M0 es).1.map c61),.i .i64 (M0 es).2]) :=
 by
 refine lN 0 c46 (es) Tryz.func109 fun hl_0=>sC B3 [.tmp 2,.tmp 3] 61 Tryz.func109 ?_
 intro e0 cx
 refine sq<|rG cx [0] [] z0<|sn<|sq<|sq<|rG cx [0,13] [] (fT (M7 (es)) (tN 2 (C1 es) (0:Int) (oA 1 (.i .i64 (C1 es)) z0)))<|sn<|dC (¬C1 es=0) (fun hh0=>?_) fun hh0=>?_
 refine sq<|rG cx [2,3] [] z0<|sn<|rT<|nR<|qR (.tup [.nl,.i .i64 ((1:Int))]) (A5.tup (ZLe.cons (A5.nl' (show List.map c61 (M0 es).1=[]from ?g1)) (ZLe.cons (A5.eq (show AV.i .i64 1=AV.i .i64 (M0 es).2 from ?g0)) ZLe.nil)));rotate_left 2
 refine sK<|sn<|sq<|rG cx [0,4] [14] z0<|sn<|sq<|sq<|rG cx [4,15,16,17] [14] (tL 1 c46 es z0)<|sn<|bL 0<|sL (X:=Int×List (ByteArray×Line)) (fun x=>⟨[(4,.own 14 0),(15,.sl (List.map c46 es)),(16,.i .i64 ((↑es.length:Int))),(17,.i .i64 (x.1))],[(14,⟨0,217,.map (List.map A3u x.2)⟩)]⟩) (fun x ↦ decF es x.1 x.2) (fun x ↦ invF es x.1 x.2) [4,15,16,17] [14] (((0:Int),[])) (show invF es (0:Int) []from ?g2) ?_;rotate_left
 rintro⟨i1,m2⟩ h_3
 obtain⟨hh4,h5,h6,h7⟩:0≤i1∧i1≤(↑es.length:Int)∧(↑m2.length:Int)≤i1∧m2=K1 (List.take i1.toNat es):=h_3
 refine rE cx [4,15,16,17,18] [14] (zB 0 (i1 <(↑es.length:Int))) (fun h8=>?_) fun h8=>?_
 refine sK<|sn<|sq<|bL 1<|sq<|rG cx [4,15,16,17,6] [14,6] (fA (0≤i1) (fG c46 es i1.toNat (fR 4 (fN 4 4 (oR 0 (c46 es[i1.toNat]!) z0)))))<|sn<|sq<|rg (A:=((if false=true then AV.tup [Ay9 (A97 { desc:=TypeDesc.struct #[{ name:="Sku",type:=(9:Nat),offset:=(0:Nat),embedded:=false,tag:="",pkgPath:="",byteOffset:=(0:Nat):Field },{ name:="Qty",type:=(3:Nat),offset:=(1:Nat),embedded:=false,tag:="",pkgPath:="",byteOffset:=(16:Nat):Field },{ name:="Parts",type:=(3:Nat),offset:=(2:Nat),embedded:=false,tag:="",pkgPath:="",byteOffset:=(24:Nat):Field }],size:=(3:Nat),bytes:=(32:Nat),zero:=[AV.s { data:=#[]:ByteArray },AV.i .i64 (0:Int),AV.i .i64 (0:Int)]:TI }) es[i1.toNat]!.sku (List.map A3u m2),AV.b (Z8 es[i1.toNat]!.sku (List.map A3u m2)).isSome]else Ay9 (A97 { desc:=TypeDesc.struct #[{ name:="Sku",type:=(9:Nat),offset:=(0:Nat),embedded:=false,tag:="",pkgPath:="",byteOffset:=(0:Nat):Field },{ name:="Qty",type:=(3:Nat),offset:=(1:Nat),embedded:=false,tag:="",pkgPath:="",byteOffset:=(16:Nat):Field },{ name:="Parts",type:=(3:Nat),offset:=(2:Nat),embedded:=false,tag:="",pkgPath:="",byteOffset:=(24:Nat):Field }],size:=(3:Nat),bytes:=(32:Nat),zero:=[AV.s { data:=#[]:ByteArray },AV.i .i64 (0:Int),AV.i .i64 (0:Int)]:TI }) es[i1.toNat]!.sku (List.map A3u m2))=AV.agg [AV.s (lkp es[i1.toNat]!.sku m2).sku,AV.i .i64 (lkp es[i1.toNat]!.sku m2).qty,AV.i .i64 (lkp es[i1.toNat]!.sku m2).parts])∧(A72 Tryz.prog (61:Nat) (A97 { desc:=TypeDesc.struct #[{ name:="Sku",type:=(9:Nat),offset:=(0:Nat),embedded:=false,tag:="",pkgPath:="",byteOffset:=(0:Nat):Field },{ name:="Qty",type:=(3:Nat),offset:=(1:Nat),embedded:=false,tag:="",pkgPath:="",byteOffset:=(16:Nat):Field },{ name:="Parts",type:=(3:Nat),offset:=(2:Nat),embedded:=false,tag:="",pkgPath:="",byteOffset:=(24:Nat):Field }],size:=(3:Nat),bytes:=(32:Nat),zero:=[AV.s { data:=#[]:ByteArray },AV.i .i64 (0:Int),AV.i .i64 (0:Int)]:TI }))) cx [(3,{ tell:=some (.agg [.s ((lkp es[i1.toNat]!.sku m2).sku),.i .i64 ((lkp es[i1.toNat]!.sku m2).qty),.i .i64 ((lkp es[i1.toNat]!.sku m2).parts)]) })] [4,15,16,17,6,7] [14,6,7] ⟨(An2 (enc:=A3u) (fun b ↦ AV.agg [AV.s b.sku,AV.i .i64 b.qty,AV.i .i64 b.parts]) (fun _=>rfl) rfl (es[i1.toNat]!.sku) (m2)),(show _=_ from by kernel_rfl)⟩<|sn<|sq<|rG cx [4,15,16,17,6,7] [14,6,7] z0<|sn<|sq<|rG cx [4,15,16,17,6,7] [14,6,7] (tT 4 (B6 ?g3 ?g4:AV.i .i64 (IntKind.i64.wrap ((lkp es[i1.toNat]!.sku m2).qty+es[i1.toNat]!.qty))=AV.i .i64 ((lkp es[i1.toNat]!.sku m2).qty+es[i1.toNat]!.qty)) z0) ?_;rotate_left 2
 refine sn<|sq<|rG cx [4,15,16,17,6,7] [14,6,7] (tT 2 (B6 ?g5 ?g6:AV.i .i64 (IntKind.i64.wrap ((lkp es[i1.toNat]!.sku m2).parts+1))=AV.i .i64 ((lkp es[i1.toNat]!.sku m2).parts+1)) z0) ?_;rotate_left 2
 refine sn<|rG cx [4,15,16,17] [14] (fP (Z9 es[i1.toNat]!.sku (AV.agg [AV.s es[i1.toNat]!.sku,AV.i .i64 ((lkp es[i1.toNat]!.sku m2).qty+es[i1.toNat]!.qty),AV.i .i64 ((lkp es[i1.toNat]!.sku m2).parts+1)]) (List.map A3u m2)=List.map A3u (A06 es[i1.toNat]!.sku { sku:=es[i1.toNat]!.sku,qty:=(lkp es[i1.toNat]!.sku m2).qty+es[i1.toNat]!.qty,parts:=(lkp es[i1.toNat]!.sku m2).parts+1:Line } m2)) (A5o (enc:=A3u) (fun b ↦ AV.agg [AV.s b.sku,AV.i .i64 b.qty,AV.i .i64 b.parts]) (fun _=>rfl) (es[i1.toNat]!.sku) ({ sku:=es[i1.toNat]!.sku,qty:=(lkp es[i1.toNat]!.sku m2).qty+es[i1.toNat]!.qty,parts:=(lkp es[i1.toNat]!.sku m2).parts+1:Line }) (m2)) (oV 4 { rows:=some (List.map A3u (A06 es[i1.toNat]!.sku { sku:=es[i1.toNat]!.sku,qty:=(lkp es[i1.toNat]!.sku m2).qty+es[i1.toNat]!.qty,parts:=(lkp es[i1.toNat]!.sku m2).parts+1:Line } m2)) } z0))<|bN<|sn<|rG cx [4,15,16,17] [14] (tW 0 (i1+1) z0)<|sn<|nX ((i1+1,A06 es[i1.toNat]!.sku { sku:=es[i1.toNat]!.sku,qty:=(lkp es[i1.toNat]!.sku m2).qty+es[i1.toNat]!.qty,parts:=(lkp es[i1.toNat]!.sku m2).parts+1:Line } m2)) (show((↑es.length:Int)-(i1+1)).toNat <((↑es.length:Int)-i1).toNat from(by omega)) (show invF es (i1+1) (A06 es[i1.toNat]!.sku { sku:=es[i1.toNat]!.sku,qty:=(lkp es[i1.toNat]!.sku m2).qty+es[i1.toNat]!.qty,parts:=(lkp es[i1.toNat]!.sku m2).parts+1:Line } m2)from ?g7);rotate_left
 refine eX 0<|nE<|nE<|bH<|sn<|sq<|rG cx [4,8] [14,45,8] (tL 1 A3u m2 (fR (0:Int) (fR (↑m2.length:Int) (fO ((32:Nat)*m2.length≤(281474976710656:Nat)) (fP (m2.length≤maxLen) (by(simp only [Go.maxLen];omega)) (oV 2 { n:=m2.length,flat:=true } z0))))))<|sn<|sq<|sq<|rG cx [8,47] [14,45,8,47] z0<|sn<|bL 2<|sL (X:=List (ByteArray×Line)×List Line×List Nat) (fun x=>⟨[(8,.ptr (8) (0) (0) (0)),(47,.own 47 0)],[(14,⟨0,217,.map (List.map A3u x.1)⟩),(45,⟨0,61,.row 3 (List.map c61 x.2.1)⟩),(8,⟨0,167,.var [.own 45 0]⟩),(47,⟨0,217,.iter (.own 14 0) ((List.map A3u m2).length) (x.2.2)⟩)]⟩) (fun x ↦ decS x.1 x.2.1 x.2.2) (fun x ↦ invS es x.1 x.2.1 x.2.2) [8,47] [14,45,8,47] ((m2,[],[])) (show invS es m2 [] []from ?g8) ?_;rotate_left
 rintro⟨m9,l10,s11⟩ h_12
 obtain⟨h13,h14,h15,h16⟩:m9=K1 es∧(↑l10.length:Int)=(↑s11.length:Int)∧s11.length≤m9.length∧A56 m9 s11 l10:=h_12
 refine sq<|B64 cx 47 48 47 14 0 ((List.map A3u m2).length) ⟨0,217,.iter (.own 14 0) ((List.map A3u m2).length) (s11)⟩ ⟨0,217,.map (List.map A3u m9)⟩ (s11) (List.map A3u m9) [8,47,49] [14,45,8,47] (σ0:=⟨[(8,.ptr (8) (0) (0) (0)),(47,.own 47 0),(49,.b (false))],[(14,⟨0,217,.map (List.map A3u m9)⟩),(45,⟨0,61,.row 3 (List.map c61 l10)⟩),(8,⟨0,167,.var [.own 45 0]⟩),(47,⟨0,217,.iter (.own 14 0) ((List.map A3u m2).length) (s11)⟩)]⟩) (σ1:=fun j18=>⟨[(8,.ptr (8) (0) (0) (0)),(47,.own 47 0),(49,.b (true))],[(14,⟨0,217,.map (List.map A3u m9)⟩),(45,⟨0,61,.row 3 (List.map c61 l10)⟩),(8,⟨0,167,.var [.own 45 0]⟩),(47,⟨0,217,.iter (.own 14 0) ((List.map A3u m2).length) (s11++[j18])⟩)]⟩) ?g9 (fun h_17=>?_) (fun j18 h19 h20=>?_) (by kernel_rfl) (by kernel_rfl) (by kernel_rfl) (by kernel_rfl) (by kernel_rfl) (by kernel_rfl) (by kernel_rfl) (by kernel_rfl) (by kernel_rfl) (fun _=>by kernel_rfl);rotate_left
 refine sn<|sq<|W5 (by kernel_rfl) (by kernel_rfl)<|eX 2<|nE<|nE<|bH<|sn<|sq ?_
 have hl_21:=(B2c l10)
 refine rG cx [8] [45,8] (fR (AV.own (45) (0)) (fP (A1i Tryz.prog (176:FuncId) (177:FuncId) (some (167:Nat)) true (61:Nat) (3:Nat) (List.map c61 l10) (List.map c61 (A1f l10))) (io176 (l10) ?g10) (oV 3 { rows:=some (List.map c61 (A1f l10)) } z0))) ?_;rotate_left
 refine sn<|sq<|rG cx [2,3] [45] z0<|sn<|rT<|qR (.tup [.sl (List.map c61 (A1f l10)),.i .i64 ((0:Int))]) (A5.tup (ZLe.cons (A5.eq (show AV.sl (List.map c61 (A1f l10))=AV.sl (List.map c61 (M0 es).1)from ?g12)) (ZLe.cons (A5.eq (show AV.i .i64 0=AV.i .i64 (M0 es).2 from ?g11)) ZLe.nil)));rotate_left 2
 refine sn<|sq<|A17 (by kernel_rfl) (by kernel_rfl)<|sK<|sn<|bL 3<|sq<|rG cx [8,47,10] [14,45,8,47,10] (fP ((List.map A3u m2).length=(List.map A3u m9).length) ?g13 (fP (A14 (List.map A3u m9) (s11++[j18]) [AV.s m9[j18]!.1,AV.agg [AV.s m9[j18]!.2.sku,AV.i .i64 m9[j18]!.2.qty,AV.i .i64 m9[j18]!.2.parts]]) (by(refine An3 ?_ rfl;simp only [List.length_map]at *;omega)) (oR 0 [.s (m9[j18]!.1),.agg [.s (m9[j18]!.2.sku),.i .i64 (m9[j18]!.2.qty),.i .i64 (m9[j18]!.2.parts)]] z0))) ?_;rotate_left
 refine sn<|rG cx [8,47] [14,45,8,47] (fR 61 (fR 3 (fR 3 (fX c61 [m9[j18]!.2] 3 (fP ((List.map c61 l10).length+(List.map c61 [m9[j18]!.2]).length≤maxLen) ?g14 (fP (((List.map c61 l10).length+(List.map c61 [m9[j18]!.2]).length)*(32:Nat)≤(140737488355328:Nat)) ?g15 (fM c61 l10 [m9[j18]!.2] (oV 3 { rows:=some (List.map c61 (l10++[m9[j18]!.2])) } z0)))))))) ?_;rotate_left 2
 refine bN<|sn<|nX ((m9,l10++[m9[j18]!.2],s11++[j18])) (show m9.length-(s11++[j18]).length < m9.length-s11.length from ?g16) (show invS es m9 (l10++[m9[j18]!.2]) (s11++[j18])from ?g17);rotate_left 2
 revert hh0;rotate_left
 revert hh0;rotate_left
 revert hh0;rotate_left
 revert hh0 i1 m2 hh4 h5 h6 h7 h8;rotate_left
 revert hh0 i1 m2 hh4 h5 h6 h7 h8;rotate_left
 revert hh0 i1 m2 hh4 h5 h6 h7 h8;rotate_left
 revert hh0 i1 m2 hh4 h5 h6 h7 h8;rotate_left
 revert hh0 i1 m2 hh4 h5 h6 h7 h8;rotate_left
 revert hh0 i1 m2 hh4 h5 h6 h7 h8;rotate_left
 revert hh0 i1 m2 hh4 h5 h6 h7 h8 m9 l10 s11 h13 h14 h15 h16;rotate_left
 clear hl_21;revert hh0 i1 m2 hh4 h5 h6 h7 h8 m9 l10 s11 h13 h14 h15 h16 h_17;rotate_left
 clear hl_21;revert hh0 i1 m2 hh4 h5 h6 h7 h8 m9 l10 s11 h13 h14 h15 h16 h_17;rotate_left
 clear hl_21;revert hh0 i1 m2 hh4 h5 h6 h7 h8 m9 l10 s11 h13 h14 h15 h16 h_17;rotate_left
 revert hh0 i1 m2 hh4 h5 h6 h7 h8 m9 l10 s11 h13 h14 h15 h16 j18 h19 h20;rotate_left
 revert hh0 i1 m2 hh4 h5 h6 h7 h8 m9 l10 s11 h13 h14 h15 h16 j18 h19 h20;rotate_left
 revert hh0 i1 m2 hh4 h5 h6 h7 h8 m9 l10 s11 h13 h14 h15 h16 j18 h19 h20;rotate_left
 revert hh0 i1 m2 hh4 h5 h6 h7 h8 m9 l10 s11 h13 h14 h15 h16 j18 h19 h20;rotate_left
 revert hh0 i1 m2 hh4 h5 h6 h7 h8 m9 l10 s11 h13 h14 h15 h16 j18 h19 h20;rotate_left
 case g0=>intro h;rw[A8o h]
 case g1=>intro h;rw[A8o h];rfl
 case g2=>intro _;exact⟨by omega,by omega,by simp,by simp [K1]⟩
 case g3=>intro h i m h0 h1 h2 h3 h4;subst h3;have:=X5 (Classical.not_not.1 h) h0 h1 es[i.toNat]!.sku;have:=A57 (Classical.not_not.1 h) h0 h4;omega
 case g4=>intro h i m h0 h1 h2 h3 h4;subst h3;have:=X5 (Classical.not_not.1 h) h0 h1 es[i.toNat]!.sku;have:=A57 (Classical.not_not.1 h) h0 h4;omega
 case g5=>intro h i m h0 h1 h2 h3 h4;subst h3;have:=X5 (Classical.not_not.1 h) h0 h1 es[i.toNat]!.sku;omega
 case g6=>intro h i m h0 h1 h2 h3 h4;subst h3;have:=X5 (Classical.not_not.1 h) h0 h1 es[i.toNat]!.sku;omega
 case g7=>intro h i m h0 h1 h2 h3 h4;exact Aw0 h0 h2 h3 h4
 case g8 =>
  intro h i m h0 h1 h2 h3 h4
  refine⟨by rw[h3,List.take_of_length_le (by omega)],by simp,by simp,⟨by simp,by simp,rfl⟩⟩
 case g9=>intro h i m h0 h1 h2 h3 h4 m' l s k0 k1 k2 k3;rw[k0,h3,List.take_of_length_le (by omega)]
 case g13=>intro h i m h0 h1 h2 h3 h4 m' l s k0 k1 k2 k3;intros;rw[k0,h3,List.take_of_length_le (by omega)]
 case g10=>intro h i m h0 h1 h2 h3 h4 m' l s k0 k1 k2 k3;intros;have:=A3l es;subst k0;omega
 case g11=>intro h i m h0 h1 h2 h3 h4 m' l s k0 k1 k2 k3;intros;rw[A3n (Classical.not_not.1 h)]
 case g12 =>
  intro h i m h0 h1 h2 h3 h4 m' l s k0 k1 k2 k3 ha
  rw[A3n (Classical.not_not.1 h)]
  subst k0
  rw[Ab0 (Al1 k3 fun j hj=>ha j (by rw[List.length_map];exact hj))]
 case g14 =>
  intro h i m h0 h1 h2 h3 h4 m' l s k0 k1 k2 k3 j hj hn
  have:=T7 k3 (by rw[List.length_map]at hj;exact hj) hn
  have:=A3l es
  subst k0
  simp only [List.length_map,List.length_cons,List.length_nil,Go.maxLen]
  omega
 case g15 =>
  intro h i m h0 h1 h2 h3 h4 m' l s k0 k1 k2 k3 j hj hn
  have:=T7 k3 (by rw[List.length_map]at hj;exact hj) hn
  have:=A3l es
  subst k0
  simp only [List.length_map,List.length_cons,List.length_nil]
  omega
 case g16 =>
  intro h i m h0 h1 h2 h3 h4 m' l s k0 k1 k2 k3 j hj hn
  have:=T7 k3 (by rw[List.length_map]at hj;exact hj) hn
  rw[List.length_append,List.length_cons,List.length_nil]
  omega
 case g17 =>
  intro h i m h0 h1 h2 h3 h4 m' l s k0 k1 k2 k3 j hj hn
  rw[List.length_map]at hj
  have:=T7 k3 hj hn
  exact⟨k0,by rw[List.length_append,List.length_append];simp;omega,by rw[List.length_append];simpa using this,A3v k3 hj hn⟩
end Go.Proofs.YtphcaholhacnpaaGreat
namespace Go.Proofs.YtphcaholhacnpaaGreat
open Go.E
set_option maxRecDepth 100000
set_option maxHeartbeats 4000000
theorem B65{a b:Dot}:dLt a b=true↔a.rep < b.rep∨a.rep=b.rep∧a.num < b.num:=by simp [dLt]
theorem Aw1{a b c:Dot}(h1:dLt a b=true)(h2:dLt b c=true):dLt a c=true:=by rw[B65]at *;omega
def upE(es:List Entry):Prop:=es.Pairwise (fun a b=>dLt a.dot b.dot=true)
def B2g(es:List Entry):Prop:=(∀ e∈es,U5 e=0)∧upE es
theorem B66(es:List Entry):okL es=true↔B2g es:=by
 constructor
 ·intro h
  refine⟨fun e he=>?_,?_⟩
  ·obtain⟨i,hi,rfl⟩:=List.mem_iff_getElem.1 he
   have:=(Y6 h hi).1
   rwa [getElem!_pos es i hi]at this
  ·unfold upE
   rw[List.pairwise_iff_getElem]
   have step:∀ n i:Nat,(hi:i+n+1 < es.length)→dLt es[i]!.dot es[i+n+1]!.dot=true:=by
    intro n
    induction n with
    | zero =>
     intro i hi
     have:=(Y6 h hi).2
     rcases this with k | k
     ·omega
     ·simpa using k
    | succ n ih =>
     intro i hi
     have h1:=ih i (by omega)
     have h2:=(Y6 h (i:=i+(n+1)+1) hi).2
     rcases h2 with k | k
     ·omega
     ·rw[show i+(n+1)+1-1=i+n+1 by omega]at k;exact Aw1 h1 k
   intro i j hi hj hij
   have:=step (j-i-1) i (by omega)
   rw[show i+(j-i-1)+1=j by omega,getElem!_pos es i hi,getElem!_pos es j hj]at this
   exact this
 ·rintro⟨h1,h2⟩
  unfold upE at h2
  rw[List.pairwise_iff_getElem]at h2
  unfold okL
  rw[I8]
  intro i hi
  rw[X4]
  refine⟨h1 _ (B0z hi),?_⟩
  by_cases e:i=0
  ·exact .inl e
  ·refine .inr ?_
   have:=h2 (i-1) i (by omega) hi (by omega)
   rwa [getElem!_pos es (i-1) (by omega),getElem!_pos es i hi]
theorem Ab3(es:List Entry):C1 es=0↔B2g es:=by
 rw[← B66]
 exact⟨A3t,fun h=>by unfold C1;rw[if_pos h]⟩
theorem Aw2{l es:List Entry}(h:B2g es)(hs:l.Sublist es):B2g l:=⟨fun e he=>h.1 e (hs.subset he),List.Pairwise.sublist hs h.2⟩
end Go.Proofs.YtphcaholhacnpaaGreat
namespace Go.Proofs.YtphcaholhacnpaaGreat
open Go.E
set_option maxRecDepth 100000
set_option maxHeartbeats 4000000
def O2(es:List Entry):Int×Int:=if C1 es=0 then(K9 es,0)else(0,1)
theorem Ab4{es:List Entry}(h:¬ C1 es=0):O2 es=(0,1):=by unfold O2;rw[if_neg h]
theorem Z4{es:List Entry}(h:C1 es=0):O2 es=(K9 es,0):=by unfold O2;rw[if_pos h]
theorem Aw3{es:List Entry}{i:Int}(h0:0≤i)(h:i < es.length):K9 (es.take (i+1).toNat)=K9 (es.take i.toNat)+es[i.toNat]!.qty:=by
 rw[← D6 h0 h,A6p]
 simp [K9]
theorem A58{es:List Entry}(h:C1 es=0){i:Int}(h0:0≤i)(h1:i≤es.length):0≤K9 (es.take i.toNat)∧K9 (es.take i.toNat)≤1000000*i:=by
 have h2:=R3 (l:=es.take i.toNat) fun e he=>A1g h e (List.mem_of_mem_take he)
 rw[List.length_take]at h2
 omega
def invT(es:List Entry)(n i:Int):Prop:=0≤i∧i≤es.length∧n=K9 (es.take i.toNat)
def decT(es:List Entry)(n i:Int):Nat:=(es.length-i).toNat
theorem Aw4{es:List Entry}{n i:Int}(h0:0≤i)(h2:n=K9 (es.take i.toNat))(h:i < es.length):invT es (n+es[i.toNat]!.qty) (i+1):=⟨by omega,by omega,by rw[Aw3 h0 h,h2]⟩
theorem B2h{es:List Entry}{n i:Int}(h2:n=K9 (es.take i.toNat))(h:¬ i < es.length):n=K9 es:=by rw[h2,List.take_of_length_le (by omega)]
theorem B3z(es:List Entry)(hs:es.length*40≤140737488351232):Con Tryz.prog 101 [.sl (es.map c46)] (.tup [.i .i64 (O2 es).1,.i .i64 (O2 es).2]) :=
 by
 refine lN 0 c46 (es) Tryz.func101 fun hl_0=>sC B3 [.tmp 2,.tmp 3] 22 Tryz.func101 ?_
 intro e0 cx
 refine sq<|rG cx [0] [] z0<|sn<|sq<|sq<|rG cx [0,9] [] (fT (M7 (es)) (tN 2 (C1 es) (0:Int) (oA 1 (.i .i64 (C1 es)) z0)))<|sn<|dC (¬C1 es=0) (fun hh0=>?_) fun hh0=>?_
 refine sq<|rG cx [2,3] [] z0<|sn<|rT<|nR<|qR (.tup [.i .i64 ((0:Int)),.i .i64 ((1:Int))]) (A5.tup (ZLe.cons (A5.eq (show AV.i .i64 0=AV.i .i64 (O2 es).1 from(by rw[Ab4 hh0]))) (ZLe.cons (A5.eq (show AV.i .i64 1=AV.i .i64 (O2 es).2 from(by rw[Ab4 hh0]))) ZLe.nil)))
 refine sK<|sn<|sq<|rG cx [0,4] [] z0<|sn<|sq<|sq<|rG cx [4,10,11,12] [] (tL 1 c46 es z0)<|sn<|bL 0<|sL (X:=Int×Int) (fun x=>⟨[(4,.i .i64 (x.1)),(10,.sl (List.map c46 es)),(11,.i .i64 ((↑es.length:Int))),(12,.i .i64 (x.2))],[]⟩) (fun x ↦ decT es x.1 x.2) (fun x ↦ invT es x.1 x.2) [4,10,11,12] [] (((0:Int),(0:Int))) (show invT es (0:Int) (0:Int)from(by exact⟨by omega,by omega,rfl⟩)) ?_
 rintro⟨n1,i2⟩ h_3
 obtain⟨h4,h5,h6⟩:0≤i2∧i2≤(↑es.length:Int)∧n1=K9 (List.take i2.toNat es):=h_3
 refine rE cx [4,10,11,12,13] [] (zB 0 (i2 <(↑es.length:Int))) (fun h7=>?_) fun h7=>?_
 refine sK<|sn<|sq<|bL 1<|sq<|rG cx [4,10,11,12,6] [6] (fA (0≤i2) (fG c46 es i2.toNat (fR 4 (fN 4 4 (oR 0 (c46 es[i2.toNat]!) z0)))))<|sn<|rG cx [4,10,11,12] [] (tT 3 (B6 (by have:=A58 (Classical.not_not.1 hh0) h4 h5;have:=A57 (Classical.not_not.1 hh0) h4 h7;omega) (by have:=A58 (Classical.not_not.1 hh0) h4 h5;have:=A57 (Classical.not_not.1 hh0) h4 h7;omega):AV.i .i64 (IntKind.i64.wrap (n1+es[i2.toNat]!.qty))=AV.i .i64 (n1+es[i2.toNat]!.qty)) z0) ?_
 refine bN<|sn<|rG cx [4,10,11,12] [] (tW 0 (i2+1) z0)<|sn<|nX ((n1+es[i2.toNat]!.qty,i2+1)) (show((↑es.length:Int)-(i2+1)).toNat <((↑es.length:Int)-i2).toNat from(by omega)) (show invT es (n1+es[i2.toNat]!.qty) (i2+1)from(by exact Aw4 h4 h6 h7))
 refine eX 0<|nE<|nE<|bH<|sn<|sq<|rG cx [2,3] [] z0<|sn<|rT<|qR (.tup [.i .i64 (n1),.i .i64 ((0:Int))]) (A5.tup (ZLe.cons (A5.eq (show AV.i .i64 n1=AV.i .i64 (O2 es).1 from(by rw[Z4 (Classical.not_not.1 hh0),B2h h6 h7]))) (ZLe.cons (A5.eq (show AV.i .i64 0=AV.i .i64 (O2 es).2 from(by rw[Z4 (Classical.not_not.1 hh0)]))) ZLe.nil)))
end Go.Proofs.YtphcaholhacnpaaGreat
namespace Go.Proofs.YtphcaholhacnpaaGreat
open Go.E
set_option maxRecDepth 100000
set_option maxHeartbeats 4000000
def C8(es:List Entry):Past×Int:=if okL es=true then(I4 (ofT (es.map fun e=>e.dot)),0)else(⟨[],[]⟩,1)
def F0(es:List Entry)(p:Past)(t:Bool):List Entry×Int:=if okL es=true∧p=A6 p then(es.filter (fun e=>H4 p e.dot == t),0)else([],1)
theorem A26{es:List Entry}(h:¬ C1 es=0):C8 es=(⟨[],[]⟩,1):=by unfold C8;rw[if_neg (B3y h)]
theorem T9{es:List Entry}(h:C1 es=0):C8 es=(I4 (ofT (es.map fun e=>e.dot)),0):=by unfold C8;rw[if_pos (A3t h)]
theorem Ah4{es:List Entry}{p:Past}{t:Bool}(h:¬ C1 es=0∨¬ p=A6 p):F0 es p t=([],1):=by
 unfold F0
 rw[if_neg]
 rintro⟨h1,h2⟩
 exact h.elim (fun k=>B3y k h1) (fun k=>k h2)
theorem A6w{es:List Entry}{p:Past}{t:Bool}(h:C1 es=0)(h2:p=A6 p):F0 es p t=(es.filter (fun e=>H4 p e.dot == t),0):=by unfold F0;rw[if_pos ⟨A3t h,h2⟩]
def A8q(es:List Entry)(i:Int)(l:List Dot):Prop:=l.length=es.length∧l.take i.toNat=(es.take i.toNat).map fun e=>e.dot
def invD(es:List Entry)(i:Int)(l:List Dot):Prop:=0≤i∧i≤es.length∧l.length=es.length∧A8q es i l
def decD(es:List Entry)(i:Int)(l:List Dot):Nat:=(es.length-i).toNat
theorem Ab5{es:List Entry}{i:Int}{l:List Dot}(h0:0≤i)(h:i < es.length)(hs:A8q es i l):A8q es (i+1) (l.set i.toNat es[i.toNat]!.dot):=by
 obtain⟨h1,h2⟩:=hs
 refine⟨by rw[List.length_set];exact h1,?_⟩
 rw[← D6 h0 h,List.map_append,← h2,show(i+1).toNat=i.toNat+1 by omega,List.take_succ_eq_append_getElem (by rw[List.length_set];omega)]
 simp [List.take_set_of_le]
theorem Al2{es:List Entry}{i:Int}{l:List Dot}(h:¬ i < es.length)(hs:A8q es i l):l=es.map fun e=>e.dot:=by
 obtain⟨h1,h2⟩:=hs
 rwa [List.take_of_length_le (by omega),List.take_of_length_le (by omega)]at h2
theorem ok_len{es:List Entry}(h:¬ ¬ C1 es=0):es.length≤16000000000:=Av9 (A3t (Classical.not_not.1 h))
theorem A3w{es:List Entry}{p:Past}(h:¬(¬ C1 es=0∨¬ p=A6 p)):C1 es=0∧p=A6 p:=⟨Classical.not_not.1 fun k=>h (.inl k),Classical.not_not.1 fun k=>h (.inr k)⟩
theorem Aw5(es:List Entry):(C8 es).1.cloud.length≤8000000000∧(C8 es).1.vec.length≤16:=by
 unfold C8
 split
 ·exact A0i _
 ·simp
theorem con113(es:List Entry):Con Tryz.prog 113 [.sl (es.map c46)] (.tup [.agg (c26 (C8 es).1),.i .i64 (C8 es).2]) :=
 by
 refine lN 0 c46 (es) Tryz.func113 fun hl_0=>sC B3 [.cell 2 26,.tmp 3] 29 Tryz.func113 ?_
 intro e0 cx
 refine sq<|rG cx [0,2] [2] z0<|sn<|sq<|sq<|rG cx [0,2,9] [2] (fT (M7 (es)) (tN 2 (C1 es) (0:Int) (oA 1 (.i .i64 (C1 es)) z0)))<|sn<|dC (¬C1 es=0) (fun hh0=>?_) fun hh0=>?_
 refine sq<|rG cx [2,3] [2] z0<|sn<|rT<|nR<|qR (.tup [.agg [.nl,.nl],.i .i64 ((1:Int))]) (A5.tup (ZLe.cons (A5.agg (ZLe.cons (A5.nl' (show List.map c3 (C8 es).1.vec=[]from(by rw[A26 hh0];rfl))) (ZLe.cons (A5.nl' (show List.map B1 (C8 es).1.cloud=[]from(by rw[A26 hh0];rfl))) ZLe.nil))) (ZLe.cons (A5.eq (show AV.i .i64 1=AV.i .i64 (C8 es).2 from(by rw[A26 hh0]))) ZLe.nil)))
 refine sK<|sn<|sq<|rG cx [0,2,4] [2,13] (tL 1 c46 es (fR (↑es.length:Int) (fR (↑es.length:Int) (fP ((16:Nat)*es.length≤(281474976710656:Nat)) (by have:=ok_len hh0;omega) (fP (es.length≤maxLen) (by(simp only [Go.maxLen];omega)) (fR 2 (fP (ZLe [AV.i .i64 (0:Int),AV.i .i64 (0:Int)] [AV.i .i64 { rep:=(0:Int),num:=(0:Int):Dot }.rep,AV.i .i64 { rep:=(0:Int),num:=(0:Int):Dot }.num]) (by(with_reducible exact ZLe.refl _)) (fP (List.replicate es.length [AV.i .i64 { rep:=(0:Int),num:=(0:Int):Dot }.rep,AV.i .i64 { rep:=(0:Int),num:=(0:Int):Dot }.num]=List.map c44 (List.replicate es.length { rep:=(0:Int),num:=(0:Int):Dot })) (by(with_reducible refine A9l ?_;kernel_rfl)) (oV 2 { row:=[.i .i64 ({ rep:=(0:Int),num:=(0:Int):Dot }.rep),.i .i64 ({ rep:=(0:Int),num:=(0:Int):Dot }.num)],rows:=some (List.map c44 (List.replicate es.length { rep:=(0:Int),num:=(0:Int):Dot })),n:=es.length } z0))))))))) ?_
 refine sn<|sq<|sq<|rG cx [2,4,14,15,16] [2,13] (tL 1 c46 es z0)<|sn<|bL 0<|sL (X:=Int×List Dot) (fun x=>⟨[(2,.ptr (2) (0) (0) (0)),(4,.own 13 0),(14,.sl (List.map c46 es)),(15,.i .i64 ((↑es.length:Int))),(16,.i .i64 (x.1))],[(2,⟨0,26,.var [.nl,.nl]⟩),(13,⟨0,44,.row 2 (List.map c44 x.2)⟩)]⟩) (fun x ↦ decD es x.1 x.2) (fun x ↦ invD es x.1 x.2) [2,4,14,15,16] [2,13] (((0:Int),List.replicate es.length { rep:=(0:Int),num:=(0:Int):Dot })) (show invD es (0:Int) (List.replicate es.length { rep:=(0:Int),num:=(0:Int):Dot })from(by exact⟨by omega,by omega,by simp,by simp,by simp⟩)) ?_
 rintro⟨i1,l2⟩ h_3
 obtain⟨hh4,h5,h6,h7⟩:0≤i1∧i1≤(↑es.length:Int)∧l2.length=es.length∧A8q es i1 l2:=h_3
 refine rE cx [2,4,14,15,16,17] [2,13] (zB 0 (i1 <(↑es.length:Int))) (fun h8=>?_) fun h8=>?_
 refine sK<|sn<|sq<|bL 1<|sq<|rG cx [2,4,14,15,16,6,5] [2,13,6] (fA (0≤i1) (fG c46 es i1.toNat (fR 4 (fN 4 4 (oR 1 (c46 es[i1.toNat]!) z0)))))<|sn<|rG cx [2,4,14,15,16] [2,13] (fA (0≤i1) (fP (i1.toNat <(List.map c44 l2).length) (by(first | omega | (simp only [List.length_map];omega))) (fR 2 (fG c44 l2 i1.toNat (fR 2 (fP (0+(2:Nat)≤2) (by(first | omega | (simp only [List.length_map];omega))) (fP ((List.map c44 l2).set i1.toNat (List.take (0) (c44 l2[i1.toNat]!)++E0 (AV.agg [AV.i .i64 es[i1.toNat]!.dot.rep,AV.i .i64 es[i1.toNat]!.dot.num])++List.drop (0+(2:Nat)) (c44 l2[i1.toNat]!))=List.map c44 (l2.set i1.toNat es[i1.toNat]!.dot)) (by(with_reducible refine A5v ?_;kernel_rfl)) (oV 5 { row:=(c44 l2[i1.toNat]!),rows:=some (List.map c44 (l2.set i1.toNat es[i1.toNat]!.dot)) } z0)))))))) ?_
 refine bN<|sn<|rG cx [2,4,14,15,16] [2,13] (tW 0 (i1+1) z0)<|sn<|nX ((i1+1,l2.set i1.toNat es[i1.toNat]!.dot)) (show((↑es.length:Int)-(i1+1)).toNat <((↑es.length:Int)-i1).toNat from(by omega)) (show invD es (i1+1) (l2.set i1.toNat es[i1.toNat]!.dot)from(by exact⟨by omega,by omega,by rw[List.length_set];exact h6,Ab5 hh4 h8 h7⟩))
 refine eX 0<|nE<|nE<|bH<|sn<|sq<|rG cx [2,3] [2] (fT (con108 (l2) (by have:=ok_len hh0;omega)) (oA 1 (.agg [.sl (List.map c3 (I4 (ofT l2)).vec),.sl (List.map B1 (I4 (ofT l2)).cloud)]) z0)) ?_
 refine sn<|rT<|qR (.tup [.agg [.sl (List.map c3 (I4 (ofT l2)).vec),.sl (List.map B1 (I4 (ofT l2)).cloud)],.i .i64 ((0:Int))]) (A5.tup (ZLe.cons (A5.eq (show AV.agg [AV.sl (List.map c3 (I4 (ofT l2)).vec),AV.sl (List.map B1 (I4 (ofT l2)).cloud)]=AV.agg [AV.sl (List.map c3 (C8 es).1.vec),AV.sl (List.map B1 (C8 es).1.cloud)]from(by rw[T9 (Classical.not_not.1 hh0),Al2 h8 h7]))) (ZLe.cons (A5.eq (show AV.i .i64 0=AV.i .i64 (C8 es).2 from(by rw[T9 (Classical.not_not.1 hh0)]))) ZLe.nil)))
theorem B40(e:Entry)(p:Past):Con Tryz.prog 153 [.agg (c46 e),.eptr (c26 p)] (.b (H4 p e.dot == false)) :=
 by
 refine sC B3 [.tmp 3] 9 Tryz.func153 ?_
 intro e0 cx
 refine sq<|rG cx [1,2] [2] z0<|sn<|sq<|rG cx [3] [] (fN 2 2 (fT (con105 (p) (e.dot)) (tT 4 (E7:(AV.b !H4 p e.dot)=AV.b (decide ¬H4 p e.dot=true)) (oA 3 (.b (H4 p e.dot)) z0))))<|sn<|rT<|qR (.b (decide ¬H4 p e.dot=true)) (.eq ?g0);rotate_left
 case g0=>exact(by cases H4 p e.dot <;> rfl)
theorem B2i(es:List Entry)(p:Past)(hs:es.length*40≤140737488351232):Con Tryz.prog 103 [.sl (es.map c46),.fn (.func 153) [] [.eptr (c26 p)]] (.sl ((es.filter (fun e=>H4 p e.dot == false)).map c46)) :=
 by
 refine lN 0 c46 (es) Tryz.func103 fun hl_0=>sC B3 [.tmp 4] 23 Tryz.func103 ?_
 intro e0 cx
 refine sq<|rG cx [0,1] [] z0<|sn<|sq<|rG cx [0,1,5] [] z0<|sn<|sq<|sq<|rG cx [1,5,8,9,10] [] (tL 1 c46 es z0)<|sn<|bL 0<|I7 5 1005 46 4 (σ':=⟨[(1,.fn (Fn.func (153:FuncId)) [] [.eptr [.sl (List.map c3 p.vec),.sl (List.map B1 p.cloud)]]),(5,.own 1005 0),(8,.sl (List.map c46 es)),(9,.i .i64 ((↑es.length:Int))),(10,.i .i64 ((0:Int)))],[(1005,⟨0,46,.row 4 (List.map c46 [])⟩)]⟩) (by kernel_rfl)<|sL (X:=Int×List Entry) (fun x=>⟨[(1,.fn (Fn.func (153:FuncId)) [] [.eptr [.sl (List.map c3 p.vec),.sl (List.map B1 p.cloud)]]),(5,.own 1005 0),(8,.sl (List.map c46 es)),(9,.i .i64 ((↑es.length:Int))),(10,.i .i64 (x.1))],[(1005,⟨0,46,.row 4 (List.map c46 x.2)⟩)]⟩) (fun x ↦ decP es x.1 x.2) (fun x ↦ Ab1 (fun e ↦ H4 p e.dot == false) es x.1 x.2) [1,5,8,9,10] [1005] (((0:Int),[])) (show Ab1 (fun e ↦ H4 p e.dot == false) es (0:Int) []from(by exact(A3q _ _))) ?_
 rintro⟨i0,l1⟩ h_2
 obtain⟨hh3,hh4,hh5,h6⟩:0≤i0∧i0≤(↑es.length:Int)∧l1=List.filter (fun e ↦ H4 p e.dot == false) (List.take i0.toNat es)∧(↑l1.length:Int)≤i0:=h_2
 refine rE cx [1,5,8,9,10,11] [1005] (zB 0 (i0 <(↑es.length:Int))) (fun h7=>?_) fun h7=>?_
 refine sK<|sn<|sq<|bL 1<|sq<|rG cx [1,5,8,9,10,7] [1005,7] (fA (0≤i0) (fG c46 es i0.toNat (fR 4 (fN 4 4 (oR 0 (c46 es[i0.toNat]!) z0)))))<|sn<|sq<|rG cx [1,5,8,9,10,7,16] [1005,7] (fT (B40 (es[i0.toNat]!) (p)) (oA 2 (A95 (B40 (es[i0.toNat]!) (p))) z0))<|sn<|A2m (H4 p es[i0.toNat]!.dot == false) (by kernel_rfl) (by kernel_rfl) (fun h8=>?_) (fun h8=>?_)
 refine rG cx [1,5,8,9,10] [1005] (fR 46 (fR 4 (fR 4 (fX c46 [es[i0.toNat]!] 4 (fS c46 l1 c46 [es[i0.toNat]!] (fP (((List.map c46 l1).length+(List.map c46 [es[i0.toNat]!]).length)*(40:Nat)≤(140737488355328:Nat)) (by(simp only [Go.maxLen,List.length_map,List.length_append,List.length_cons,List.length_nil];omega)) (fM c46 l1 [es[i0.toNat]!] (oV 3 { rows:=some (List.map c46 (l1++[es[i0.toNat]!])) } z0))))))))<|bN<|sn<|rG cx [1,5,8,9,10] [1005] (tW 0 (i0+1) z0)<|sn<|nX ((i0+1,l1++[es[i0.toNat]!])) (show((↑es.length:Int)-(i0+1)).toNat <((↑es.length:Int)-i0).toNat from(by omega)) (show Ab1 (fun e ↦ H4 p e.dot == false) es (i0+1) (l1++[es[i0.toNat]!])from(by exact(A6v hh3 hh5 h6 h7 h8)))
 refine sK<|bN<|sn<|rG cx [1,5,8,9,10] [1005] (tW 0 (i0+1) z0)<|sn<|nX ((i0+1,l1)) (show((↑es.length:Int)-(i0+1)).toNat <((↑es.length:Int)-i0).toNat from(by omega)) (show Ab1 (fun e ↦ H4 p e.dot == false) es (i0+1) l1 from(by exact(A3r hh3 hh5 h6 h7 (by simpa using h8))))
 refine eX 0<|nE<|nE<|bH<|sn<|sq<|rG cx [4] [1005] z0<|sn<|rT<|qR (.sl (List.map c46 l1)) (.eq (by exact(by rw[A3s hh5 h7])))
theorem Ab6(es:List Entry)(p:Past)(hb:p.cloud.length*16≤140737488350000):Con Tryz.prog 82 [.sl (es.map c46),.agg (c26 p)] (.tup [.sl ((F0 es p false).1.map c46),.i .i64 (F0 es p false).2]) :=
 by
 refine lN 0 c46 (es) Tryz.func82 fun hl_0=>sC B3 [.tmp 4,.tmp 5] 17 Tryz.func82 ?_
 intro e0 cx
 refine sq<|rG cx [0,3] [3] z0<|sn<|sq<|sq<|A9 (σ':=⟨[(0,.sl (List.map c46 es)),(3,.ptr (3) (0) (0) (0)),(13,.b (decide (¬C1 es=0∨¬p=A6 p)))],[(3,⟨0,26,.var [.sl (List.map c3 p.vec),.sl (List.map B1 p.cloud)]⟩)]⟩) ?_ ?_
 refine A4 (¬C1 es=0) (fun h_1=>?_) (fun h_1=>?_)
 refine rG cx [0,3,13] [3] (fT (M7 (es)) (tT 2 (G9 h_1:AV.b (C1 es !=0)=AV.b true) (tD 7 true (¬C1 es=0∨¬p=A6 p) (by simp only [eq_false h_1,tsl]) (oA 1 (.i .i64 (C1 es)) z0)))) ?_
 exact⟨rfl,by kernel_rfl⟩
 refine rG cx [0,3,13] [3] (fT (M7 (es)) (tN 2 (C1 es) (0:Int) (tT 3 (A0 h_1) (fT (A0f (p) (by(with_reducible assumption))) (tQ 6 (p=A6 p) (tT 7 (by first | (simp only [eq_false h_1,tsl];done) | simp_all:AV.b (decide ¬p=A6 p)=AV.b (decide (¬C1 es=0∨¬p=A6 p))) (oA 1 (.i .i64 (C1 es)) (oA 5 (.b (decide (p=A6 p))) z0)))))))) ?_
 exact⟨rfl,by kernel_rfl⟩
 refine sn<|dC (¬C1 es=0∨¬p=A6 p) (fun h2=>?_) fun h2=>?_
 refine sq<|rG cx [4,5] [] z0<|sn<|rT<|nR<|qR (.tup [.nl,.i .i64 ((1:Int))]) (A5.tup (ZLe.cons (A5.nl' (show List.map c46 (F0 es p false).1=[]from(by exact(by rw[Ah4 h2];rfl)))) (ZLe.cons (A5.eq (show AV.i .i64 1=AV.i .i64 (F0 es p false).2 from(by exact(by rw[Ah4 h2])))) ZLe.nil)))
 refine sK<|sn<|sq<|rG cx [4,5] [] (fT (B2i (es) (p) (by exact(by have:=Av9 (A3t (A3w h2).1);omega))) (oA 2 (.sl (List.map c46 (List.filter (fun e ↦ H4 p e.dot == false) es))) z0)) ?_
 refine sn<|rT<|qR (.tup [.sl (List.map c46 (List.filter (fun e ↦ H4 p e.dot == false) es)),.i .i64 ((0:Int))]) (A5.tup (ZLe.cons (A5.eq (show AV.sl (List.map c46 (List.filter (fun e ↦ H4 p e.dot == false) es))=AV.sl (List.map c46 (F0 es p false).1)from(by exact(by rw[A6w (A3w h2).1 (A3w h2).2])))) (ZLe.cons (A5.eq (show AV.i .i64 0=AV.i .i64 (F0 es p false).2 from(by exact(by rw[A6w (A3w h2).1 (A3w h2).2])))) ZLe.nil)))
end Go.Proofs.YtphcaholhacnpaaGreat
namespace Go.Proofs.YtphcaholhacnpaaGreat
open Go.E
set_option maxRecDepth 100000
set_option maxHeartbeats 4000000
open Go Go.Lib Go.RowKit Go.Proofs
def rulC:Array Value:=#[.nilFunc,.func (.func 154) #[] #[],.func (.func 155) #[] #[],.func (.func 156) #[] #[],.func (.func 157) #[] #[],.func (.func 158) #[] #[],.func (.func 159) #[] #[]]
def rulL:List (List AV):=[[.nilf],[.fn (.func 154) [] []],[.fn (.func 155) [] []],[.fn (.func 156) [] []],[.fn (.func 157) [] []],[.fn (.func 158) [] []],[.fn (.func 159) [] []]]
set_option maxHeartbeats 4000000 in
theorem Aw6 (w:World):Calls Tryz.prog 84 #[] w fun e w'=>e=.returned (.slice (some ⟨w.heap.size,0,none⟩) 7 7)∧w'.heap[w.heap.size]?=some (.cells rulC 132 (0,0))∧Below w.heap.size w w':=by
 go_enter Tryz.func84,Tryz.ntmps84
 go_wp2
 go_ret
 exact⟨rfl,heap_alloc_new w _,⟨rfl,rfl,rfl,by simp,fun k hk=>Below.heap_alloc w _ k hk⟩⟩
def rulU(j:Nat):Value:=(rulC[j]?).getD .nilFunc
theorem rul_at:∀ j:Nat,j < 7→rulC[j]?=some (rulU j)
 | 0,_ | 1,_ | 2,_ | 3,_ | 4,_ | 5,_ | 6,_=>rfl
theorem B67:∀ j:Nat,(rulU j).oneCell'=true
 | 0 | 1 | 2 | 3 | 4 | 5 | 6=>rfl
 | n+7=>rfl
theorem X6(S:Nat→Prop)(w:World)(f:Nat):RelV0 S w (.fn (.func f) [] []) (.func (.func f) #[] #[]):=.fn _ [] [] [] [] rfl rfl (fun j a u h=>by simp at h) (fun j a u h=>by simp at h)
theorem B68(S:Nat→Prop)(w:World):∀(j q:Nat) (r:List AV) (a:AV),rulL[j]?=some r→r[q]?=some a→RelV0 S w a (rulU j)
 | 0,0,_,_,rfl,rfl=>.nilf
 | 1,0,_,_,rfl,rfl=>X6 S w _
 | 2,0,_,_,rfl,rfl=>X6 S w _
 | 3,0,_,_,rfl,rfl=>X6 S w _
 | 4,0,_,_,rfl,rfl=>X6 S w _
 | 5,0,_,_,rfl,rfl=>X6 S w _
 | 6,0,_,_,rfl,rfl=>X6 S w _
theorem A1w:Con Tryz.prog 84 [] (.sl [[.nilf],[.fn (.func 154) [] []],[.fn (.func 155) [] []],[.fn (.func 156) [] []],[.fn (.func 157) [] []],[.fn (.func 158) [] []],[.fn (.func 159) [] []]]):=by
 refine⟨⟨_,Tryz.func84,by kernel_rfl,by kernel_rfl⟩,fun w S0 vs hS hl hv=>?_⟩
 obtain rfl:vs=[]:=List.eq_nil_of_length_eq_zero hl
 refine(Aw6 w).mono ?_
 rintro e w' ⟨rfl,hc,hb⟩
 refine⟨_,rfl,?_,hb⟩
 refine RelV0.sl rulL (some ⟨w.heap.size,0,none⟩) 7 1 (fun j _=>rulU j) (by decide) (by decide) (fun h=>by cases h) (by decide) (fun _=>⟨_,rfl,.inr ⟨Nat.le_refl _,?_⟩,?_⟩) (fun j _=>B67 j) (B68 _ _)
 ·exact(Array.getElem?_eq_some_iff.1 hc).1
 ·intro j q hj hq
  obtain rfl:q=0:=by omega
  have:=rul_at j hj
  by_cases z:j=0
  ·subst z;simpa [World.cell?,Addr.add,hc]using this
  ·simpa [World.cell?,Addr.add,z,hc]using this
end Go.Proofs.YtphcaholhacnpaaGreat
namespace Go.Proofs.YtphcaholhacnpaaGreat
open Go.E
set_option maxRecDepth 100000
set_option maxHeartbeats 4000000
noncomputable def J9(w:Wish)(qty:Int)(old:List Entry):Facts×Int:=if ¬(G4 w.seen w.rep w.lim.count).2=0 then(default,(G4 w.seen w.rep w.lim.count).2)else(⟨[⟨(G4 w.seen w.rep w.lim.count).1,w.act.sku,qty⟩],(C8 old).1,[]⟩,0)
def A0w(w:Wish):Bool:=decide (((ofV w.live w.act.sku).1.length:Int)≤0∧w.lim.lines≤(M0 w.live).1.length)
noncomputable def U0(w:Wish):Facts×Int:=if A0w w=true then(default,12)else J9 w w.act.qty (ofV w.live w.act.sku).1
noncomputable def M1(w:Wish):Facts×Int:=if A0w w=true then(default,12)else if 1000000 <(O2 (ofV w.live w.act.sku).1).1+w.act.qty then(default,13)else J9 w (w.act.qty+(O2 (I6 w.live w.rep w.act.sku).1).1) (I6 w.live w.rep w.act.sku).1
def U1(w:Wish):Facts×Int:=if((ofV w.live w.act.sku).1.length:Int)=0 then(default,11)else(⟨[],(C8 (ofV w.live w.act.sku).1).1,[]⟩,0)
noncomputable def H2(s:ByteArray)(p:Past):Facts:=if C6 p=0 then default else⟨[],⟨[],[]⟩,[⟨s,A6 p⟩]⟩
theorem A27(es:List Entry)(rep:Int)(sku:ByteArray):(I6 es rep sku).1.length≤es.length:=by
 by_cases h:C1 es=0
 ·by_cases r:rep < 0∨16≤rep
  ·rw[A6s h r];exact Nat.zero_le _
  ·by_cases g:G2 sku=true
   ·rw[A6u h r g];exact List.length_filter_le ..
   ·rw[A6t h r g];exact Nat.zero_le _
 ·rw[A3p h];exact Nat.zero_le _
theorem A0x(es:List Entry):0≤(O2 es).1∧(O2 es).1≤1000000*es.length:=by
 by_cases h:C1 es=0
 ·have h2:=R3 (l:=es) fun e he=>A1g h e he
  rw[Z4 h]
  simp only
  omega
 ·rw[Ab4 h]
  simp only
  omega
theorem Ah5(w:Wish)(hs:w.live.length*40≤140737488351232):Con Tryz.prog 201 [.agg (B10 w)] (.sl ((ofV w.live w.act.sku).1.map c46)) :=
 by
 refine sC B3 [.tmp 2] 15 Tryz.func201 ?_
 intro e0 cx
 refine sq<|rG cx [1] [1] z0<|sn<|sq ?_
 have hl_0:=(O1 w.live)
 have hl_1:=(O1 w.live w.act.sku)
 refine rG cx [3] [] (fT (con100 (w.live) (w.act.sku) (by(with_reducible assumption))) (oA 5 (.tup [.sl (List.map c46 (ofV w.live w.act.sku).1),.i .i64 ((ofV w.live w.act.sku).2)]) z0))<|sn<|sq<|rG cx [2] [] z0<|sn<|rT ?_
 exact X8 (r:=.sl (List.map c46 (ofV w.live w.act.sku).1)) (obl:=[]) (by kernel_rfl) trivial (A5.refl _)
theorem B41(w:Wish)(hs:w.live.length*40≤140737488351232):Con Tryz.prog 199 [.agg (B10 w)] (.b (A0w w)) :=
 by
 refine sC B3 [.tmp 2] 21 Tryz.func199 ?_
 intro e0 cx
 refine sq<|rG cx [1] [1] z0<|sn<|sq<|sq ?_
 have hl_0:=(O1 w.live)
 have hl_1:=(O1 w.live w.act.sku)
 refine rG cx [1,8] [1] (fT (Ah5 (w) (by(with_reducible assumption))) (tL 2 c46 ((ofV w.live w.act.sku).1) (tB 3 ((0:Int) <(↑(ofV w.live w.act.sku).1.length:Int)) (oA 1 (.sl (List.map c46 (ofV w.live w.act.sku).1)) z0))))<|sn<|dC ((0:Int) <(↑(ofV w.live w.act.sku).1.length:Int)) (fun h2=>?_) fun h2=>?_
 refine sq<|rG cx [2] [] z0<|sn<|rT<|nR<|qR (.b (false)) (.eq (by unfold A0w;rw[decide_eq_false (by omega)]))
 refine sK<|sn<|sq<|rG cx [1,3] [1] (fT (con109 (w.live) (by(with_reducible assumption))) (oA 2 (.tup [.sl (List.map c61 (M0 w.live).1),.i .i64 ((M0 w.live).2)]) z0))<|sn<|sq<|rG cx [2] [] (tL 1 c61 ((M0 w.live).1) (tB 5 (w.lim.lines≤(↑(M0 w.live).1.length:Int)) z0))<|sn<|rT<|qR (.b (decide (w.lim.lines≤(↑(M0 w.live).1.length:Int)))) (.eq (by unfold A0w;exact congrArg AV.b (decide_eq_decide.2 ⟨fun k=>⟨by omega,k⟩,fun k=>k.2⟩)))
theorem Aw7(es:List Entry):Con Tryz.prog 202 [.sl (es.map c46)] (.agg (c36 ⟨[],(C8 es).1,[]⟩)) :=
 by
 refine lN 0 c46 (es) Tryz.func202 fun hl_0=>sC B3 [.cell 2 36] 12 Tryz.func202 ?_
 intro e0 cx
 refine sq<|rG cx [0,2] [2] z0<|sn<|sq<|rG cx [2,3] [2,3] (fT (con113 (es)) (oA 1 (.tup [.agg [.sl (List.map c3 (C8 es).1.vec),.sl (List.map B1 (C8 es).1.cloud)],.i .i64 ((C8 es).2)]) z0))<|sn<|sq<|rG cx [2] [2] z0<|sn<|rT ?_
 exact X8 (r:=.agg [.nl,.sl (List.map c3 (C8 es).1.vec),.sl (List.map B1 (C8 es).1.cloud),.nl]) (obl:=[]) (by kernel_rfl) trivial (A5.agg (ZLe.cons A5.nl (ZLe.cons (A5.refl _) (ZLe.cons (A5.refl _) (ZLe.cons A5.nl ZLe.nil)))))
theorem B42(w:Wish)(qty:Int)(old:List Entry)(hb:szP w.seen):Con Tryz.prog 200 [.agg (B10 w),.i .i64 qty,.sl (old.map c46)] (.tup [.agg (c36 (J9 w qty old).1),.i .i64 (J9 w qty old).2]) :=
 by
 refine lN 2 c46 (old) Tryz.func200 fun hl_2=>sC B3 [.cell 6 36,.tmp 7] 37 Tryz.func200 ?_
 intro e0 cx
 refine sq<|rG cx [1,2,3,6] [3,6] z0<|sn<|sq<|rG cx [1,2,3,6,8,9] [3,6,8] (fT (con237 (w.seen) (w.rep) (w.lim.count) (by(with_reducible assumption))) (oA 7 (.tup [.agg [.i .i64 ((G4 w.seen w.rep w.lim.count).1.rep),.i .i64 ((G4 w.seen w.rep w.lim.count).1.num)],.i .i64 ((G4 w.seen w.rep w.lim.count).2)]) z0))<|sn<|sq<|sq<|rG cx [1,2,3,6,8,9,23] [3,6,8] (tN 1 ((G4 w.seen w.rep w.lim.count).2) (0:Int) z0)<|sn<|dC (¬(G4 w.seen w.rep w.lim.count).2=0) (fun h0=>?_) fun h0=>?_
 refine sq<|rG cx [6,7] [6] z0<|sn<|rT<|nR<|qR (.tup [.agg [.nl,.nl,.nl,.nl],.i .i64 ((G4 w.seen w.rep w.lim.count).2)]) (A5.tup (ZLe.cons (A5.agg (ZLe.cons (A5.nl' (show List.map c46 (J9 w qty old).1.adds=[]from(by unfold J9;rw[if_pos h0];rfl))) (ZLe.cons (A5.nl' (show List.map c3 (J9 w qty old).1.gone.vec=[]from(by unfold J9;rw[if_pos h0];rfl))) (ZLe.cons (A5.nl' (show List.map B1 (J9 w qty old).1.gone.cloud=[]from(by unfold J9;rw[if_pos h0];rfl))) (ZLe.cons (A5.nl' (show List.map c54 (J9 w qty old).1.recs=[]from(by unfold J9;rw[if_pos h0];rfl))) ZLe.nil))))) (ZLe.cons (A5.eq (show AV.i .i64 (G4 w.seen w.rep w.lim.count).2=AV.i .i64 (J9 w qty old).2 from(by unfold J9;rw[if_pos h0]))) ZLe.nil)))
 refine sK<|sn<|sq<|rG cx [1,3,6,8,10] [3,6,8,10] (fT (Aw7 (old)) (oA 1 (.agg [.sl (List.map c46 { adds:=[],gone:=(C8 old).1,recs:=[]:Facts }.adds),.sl (List.map c3 { adds:=[],gone:=(C8 old).1,recs:=[]:Facts }.gone.vec),.sl (List.map B1 { adds:=[],gone:=(C8 old).1,recs:=[]:Facts }.gone.cloud),.sl (List.map c54 { adds:=[],gone:=(C8 old).1,recs:=[]:Facts }.recs)]) z0))<|sn<|sq<|rG cx [6,10] [6,10,34] z0<|sn<|sq<|H6 [34] [6,10] [6,10] (σ':=⟨[(6,.ptr (6) (0) (0) (0)),(10,.ptr (10) (0) (0) (0))],[(6,⟨0,36,.var [.nl,.nl,.nl,.nl]⟩),(10,⟨0,36,.var [.sl (List.map c46 [{ dot:=(G4 w.seen w.rep w.lim.count).1,sku:=w.act.sku,qty:=qty:Entry }]),.sl (List.map c3 { adds:=[],gone:=(C8 old).1,recs:=[]:Facts }.gone.vec),.sl (List.map B1 { adds:=[],gone:=(C8 old).1,recs:=[]:Facts }.gone.cloud),.sl (List.map c54 { adds:=[],gone:=(C8 old).1,recs:=[]:Facts }.recs)]⟩)]⟩) (by kernel_rfl)<|rG cx [6,7] [6] z0<|sn<|rT<|qR (.tup [.agg [.sl (List.map c46 [{ dot:=(G4 w.seen w.rep w.lim.count).1,sku:=w.act.sku,qty:=qty:Entry }]),.sl (List.map c3 { adds:=[],gone:=(C8 old).1,recs:=[]:Facts }.gone.vec),.sl (List.map B1 { adds:=[],gone:=(C8 old).1,recs:=[]:Facts }.gone.cloud),.sl (List.map c54 { adds:=[],gone:=(C8 old).1,recs:=[]:Facts }.recs)],.i .i64 ((0:Int))]) (A5.tup (ZLe.cons (A5.eq (show AV.agg [AV.sl (List.map c46 [{ dot:=(G4 w.seen w.rep w.lim.count).1,sku:=w.act.sku,qty:=qty:Entry }]),AV.sl (List.map c3 { adds:=[],gone:=(C8 old).1,recs:=[]:Facts }.gone.vec),AV.sl (List.map B1 { adds:=[],gone:=(C8 old).1,recs:=[]:Facts }.gone.cloud),AV.sl (List.map c54 { adds:=[],gone:=(C8 old).1,recs:=[]:Facts }.recs)]=AV.agg [AV.sl (List.map c46 (J9 w qty old).1.adds),AV.sl (List.map c3 (J9 w qty old).1.gone.vec),AV.sl (List.map B1 (J9 w qty old).1.gone.cloud),AV.sl (List.map c54 (J9 w qty old).1.recs)]from(by unfold J9;rw[if_neg h0]))) (ZLe.cons (A5.eq (show AV.i .i64 0=AV.i .i64 (J9 w qty old).2 from(by unfold J9;rw[if_neg h0]))) ZLe.nil)))
theorem B43(s:ByteArray)(p:Past)(hb:szP p):Con Tryz.prog 203 [.s s,.agg (c26 p)] (.agg (c36 (H2 s p))) :=
 by
 refine sC B3 [.cell 4 36] 14 Tryz.func203 ?_
 intro e0 cx
 refine sq<|rG cx [0,3,4] [3,4] z0<|sn<|sq<|sq<|rG cx [0,3,4,6] [3,4] (fT (B5m (p) (by exact hb.1)) (oA 1 (.b (decide (C6 p=0))) z0)) ?_
 refine sn<|dC (C6 p=0) (fun h0=>?_) fun h0=>?_
 refine sq<|rG cx [4] [4] z0<|sn<|rT<|nR<|qR (.agg [.nl,.nl,.nl,.nl]) (A5.agg (ZLe.cons (A5.nl' (show List.map c46 (H2 s p).adds=[]from(by unfold H2;rw[if_pos h0];rfl))) (ZLe.cons (A5.nl' (show List.map c3 (H2 s p).gone.vec=[]from(by unfold H2;rw[if_pos h0];rfl))) (ZLe.cons (A5.nl' (show List.map B1 (H2 s p).gone.cloud=[]from(by unfold H2;rw[if_pos h0];rfl))) (ZLe.cons (A5.nl' (show List.map c54 (H2 s p).recs=[]from(by unfold H2;rw[if_pos h0];rfl))) ZLe.nil)))))
 refine sK<|sn<|sq<|rG cx [4] [4] (fT (Af0 (p) (by exact hb.1)) (oA 2 (.agg [.sl (List.map c3 (A6 p).vec),.sl (List.map B1 (A6 p).cloud)]) z0)) ?_
 refine sn<|rT<|qR (.agg [.nl,.nl,.nl,.sl (List.map c54 [{ sku:=s,past:=A6 p:Record }])]) (A5.agg (ZLe.cons (A5.nl' (show List.map c46 (H2 s p).adds=[]from(by unfold H2;rw[if_neg h0];rfl))) (ZLe.cons (A5.nl' (show List.map c3 (H2 s p).gone.vec=[]from(by unfold H2;rw[if_neg h0];rfl))) (ZLe.cons (A5.nl' (show List.map B1 (H2 s p).gone.cloud=[]from(by unfold H2;rw[if_neg h0];rfl))) (ZLe.cons (A5.eq (show AV.sl (List.map c54 [{ sku:=s,past:=A6 p:Record }])=AV.sl (List.map c54 (H2 s p).recs)from(by unfold H2;rw[if_neg h0]))) ZLe.nil)))))
theorem con154(w:Wish)(hs:w.live.length*40≤140737488351232)(hb:szP w.seen):Con Tryz.prog 154 [.agg (B10 w)] (.tup [.agg (c36 (U0 w).1),.i .i64 (U0 w).2]) :=
 by
 refine sC B3 [.cell 2 36,.tmp 3] 16 Tryz.func154 ?_
 intro e0 cx
 refine sq<|rG cx [1,2] [1,2] z0<|sn<|sq<|sq<|rG cx [1,2,5] [1,2] (fT (B41 (w) (by(with_reducible assumption))) (oA 1 (.b (A0w w)) z0))<|sn<|A2m (A0w w) (by kernel_rfl) (by kernel_rfl) (fun h0=>?_) (fun h0=>?_)
 refine sq<|rG cx [2,3] [2] z0<|sn<|rT<|nR<|qR (.tup [.agg [.nl,.nl,.nl,.nl],.i .i64 ((12:Int))]) (A5.tup (ZLe.cons (A5.agg (ZLe.cons (A5.nl' (show List.map c46 (U0 w).1.adds=[]from(by unfold U0;rw[if_pos h0];rfl))) (ZLe.cons (A5.nl' (show List.map c3 (U0 w).1.gone.vec=[]from(by unfold U0;rw[if_pos h0];rfl))) (ZLe.cons (A5.nl' (show List.map B1 (U0 w).1.gone.cloud=[]from(by unfold U0;rw[if_pos h0];rfl))) (ZLe.cons (A5.nl' (show List.map c54 (U0 w).1.recs=[]from(by unfold U0;rw[if_pos h0];rfl))) ZLe.nil))))) (ZLe.cons (A5.eq (show AV.i .i64 12=AV.i .i64 (U0 w).2 from(by unfold U0;rw[if_pos h0]))) ZLe.nil)))
 refine sK<|sn<|sq ?_
 have hl_1:=(O1 w.live)
 have hl_2:=(O1 w.live w.act.sku)
 refine rA cx [2,3] [2] (fT (Ah5 (w) (by(with_reducible assumption))) (fT (B42 (w) (w.act.qty) ((ofV w.live w.act.sku).1) (by(with_reducible assumption))) (oA 5 (.sl (List.map c46 (ofV w.live w.act.sku).1)) (oA 6 (.tup [.agg [.sl (List.map c46 (J9 w w.act.qty (ofV w.live w.act.sku).1).1.adds),.sl (List.map c3 (J9 w w.act.qty (ofV w.live w.act.sku).1).1.gone.vec),.sl (List.map B1 (J9 w w.act.qty (ofV w.live w.act.sku).1).1.gone.cloud),.sl (List.map c54 (J9 w w.act.qty (ofV w.live w.act.sku).1).1.recs)],.i .i64 ((J9 w w.act.qty (ofV w.live w.act.sku).1).2)]) z0))))<|sn<|rT<|qR (.tup [.agg [.sl (List.map c46 (J9 w w.act.qty (ofV w.live w.act.sku).1).1.adds),.sl (List.map c3 (J9 w w.act.qty (ofV w.live w.act.sku).1).1.gone.vec),.sl (List.map B1 (J9 w w.act.qty (ofV w.live w.act.sku).1).1.gone.cloud),.sl (List.map c54 (J9 w w.act.qty (ofV w.live w.act.sku).1).1.recs)],.i .i64 ((J9 w w.act.qty (ofV w.live w.act.sku).1).2)]) (A5.tup (ZLe.cons (A5.eq (show AV.agg [AV.sl (List.map c46 (J9 w w.act.qty (ofV w.live w.act.sku).1).1.adds),AV.sl (List.map c3 (J9 w w.act.qty (ofV w.live w.act.sku).1).1.gone.vec),AV.sl (List.map B1 (J9 w w.act.qty (ofV w.live w.act.sku).1).1.gone.cloud),AV.sl (List.map c54 (J9 w w.act.qty (ofV w.live w.act.sku).1).1.recs)]=AV.agg [AV.sl (List.map c46 (U0 w).1.adds),AV.sl (List.map c3 (U0 w).1.gone.vec),AV.sl (List.map B1 (U0 w).1.gone.cloud),AV.sl (List.map c54 (U0 w).1.recs)]from(by unfold U0;rw[if_neg (by rw[h0];decide)]))) (ZLe.cons (A5.eq (show AV.i .i64 (J9 w w.act.qty (ofV w.live w.act.sku).1).2=AV.i .i64 (U0 w).2 from(by unfold U0;rw[if_neg (by rw[h0];decide)]))) ZLe.nil)))
theorem con155(w:Wish)(hs:w.live.length*40≤140737488351232)(hb:szP w.seen)(hq:1≤w.act.qty∧w.act.qty≤1000000):Con Tryz.prog 155 [.agg (B10 w)] (.tup [.agg (c36 (M1 w).1),.i .i64 (M1 w).2]) :=
 by
 refine sC B3 [.cell 2 36,.tmp 3] 52 Tryz.func155 ?_
 intro e0 cx
 refine sq<|rG cx [1,2] [1,2] z0<|sn<|sq<|sq<|rG cx [1,2,11] [1,2] (fT (B41 (w) (by(with_reducible assumption))) (oA 1 (.b (A0w w)) z0))<|sn<|A2m (A0w w) (by kernel_rfl) (by kernel_rfl) (fun h0=>?_) (fun h0=>?_)
 refine sq<|rG cx [2,3] [2] z0<|sn<|rT<|nR<|qR (.tup [.agg [.nl,.nl,.nl,.nl],.i .i64 ((12:Int))]) (A5.tup (ZLe.cons (A5.agg (ZLe.cons (A5.nl' (show List.map c46 (M1 w).1.adds=[]from(by unfold M1;rw[if_pos h0];rfl))) (ZLe.cons (A5.nl' (show List.map c3 (M1 w).1.gone.vec=[]from(by unfold M1;rw[if_pos h0];rfl))) (ZLe.cons (A5.nl' (show List.map B1 (M1 w).1.gone.cloud=[]from(by unfold M1;rw[if_pos h0];rfl))) (ZLe.cons (A5.nl' (show List.map c54 (M1 w).1.recs=[]from(by unfold M1;rw[if_pos h0];rfl))) ZLe.nil))))) (ZLe.cons (A5.eq (show AV.i .i64 12=AV.i .i64 (M1 w).2 from(by unfold M1;rw[if_pos h0]))) ZLe.nil)))
 refine sK<|sn<|sq ?_
 have hl_1:=(O1 w.live)
 have hl_2:=(O1 w.live w.act.sku)
 refine rG cx [1,2,4] [1,2] (fT (Ah5 (w) (by(with_reducible assumption))) (fT (B3z ((ofV w.live w.act.sku).1) (by omega)) (oA 1 (.sl (List.map c46 (ofV w.live w.act.sku).1)) (oA 2 (.tup [.i .i64 ((O2 (ofV w.live w.act.sku).1).1),.i .i64 ((O2 (ofV w.live w.act.sku).1).2)]) z0))))<|sn<|sq<|sq<|rG cx [1,2,24] [1,2] (tT 4 (B6 (by have:=A0x (ofV w.live w.act.sku).1;omega) (by have:=A0x (ofV w.live w.act.sku).1;have:=O1 w.live w.act.sku;omega):AV.i .i64 (IntKind.i64.wrap ((O2 (ofV w.live w.act.sku).1).1+w.act.qty))=AV.i .i64 ((O2 (ofV w.live w.act.sku).1).1+w.act.qty)) (tB 5 ((1000000:Int) <(O2 (ofV w.live w.act.sku).1).1+w.act.qty) z0)) ?_
 refine sn<|dC ((1000000:Int) <(O2 (ofV w.live w.act.sku).1).1+w.act.qty) (fun h3=>?_) fun h3=>?_
 refine sq<|rG cx [2,3] [2] z0<|sn<|rT<|nR<|qR (.tup [.agg [.nl,.nl,.nl,.nl],.i .i64 ((13:Int))]) (A5.tup (ZLe.cons (A5.agg (ZLe.cons (A5.nl' (show List.map c46 (M1 w).1.adds=[]from(by unfold M1;rw[if_neg (by rw[h0];decide)];rw[if_pos h3];rfl))) (ZLe.cons (A5.nl' (show List.map c3 (M1 w).1.gone.vec=[]from(by unfold M1;rw[if_neg (by rw[h0];decide)];rw[if_pos h3];rfl))) (ZLe.cons (A5.nl' (show List.map B1 (M1 w).1.gone.cloud=[]from(by unfold M1;rw[if_neg (by rw[h0];decide)];rw[if_pos h3];rfl))) (ZLe.cons (A5.nl' (show List.map c54 (M1 w).1.recs=[]from(by unfold M1;rw[if_neg (by rw[h0];decide)];rw[if_pos h3];rfl))) ZLe.nil))))) (ZLe.cons (A5.eq (show AV.i .i64 13=AV.i .i64 (M1 w).2 from(by unfold M1;rw[if_neg (by rw[h0];decide)];rw[if_pos h3]))) ZLe.nil)))
 refine sK<|sn<|sq ?_
 have hl_4:=(A27 w.live)
 have hl_5:=(A27 w.live w.rep)
 have hl_6:=(A27 w.live w.rep w.act.sku)
 refine rG cx [1,2,6] [1,2] (fT (con26 (w.live) (w.rep) (w.act.sku) (by(with_reducible assumption))) (oA 7 (.tup [.sl (List.map c46 (I6 w.live w.rep w.act.sku).1),.i .i64 ((I6 w.live w.rep w.act.sku).2)]) z0))<|sn<|sq<|rG cx [1,2,6,8] [1,2] (fT (B3z ((I6 w.live w.rep w.act.sku).1) (by omega)) (oA 1 (.tup [.i .i64 ((O2 (I6 w.live w.rep w.act.sku).1).1),.i .i64 ((O2 (I6 w.live w.rep w.act.sku).1).2)]) z0))<|sn<|sq<|rG cx [2,3] [2] (tT 5 (B6 (by have:=A0x (I6 w.live w.rep w.act.sku).1;omega) (by have:=A0x (I6 w.live w.rep w.act.sku).1;have:=A27 w.live w.rep w.act.sku;omega):AV.i .i64 (IntKind.i64.wrap (w.act.qty+(O2 (I6 w.live w.rep w.act.sku).1).1))=AV.i .i64 (w.act.qty+(O2 (I6 w.live w.rep w.act.sku).1).1)) (fT (B42 (w) (w.act.qty+(O2 (I6 w.live w.rep w.act.sku).1).1) ((I6 w.live w.rep w.act.sku).1) (by(with_reducible assumption))) (oA 7 (.tup [.agg [.sl (List.map c46 (J9 w (w.act.qty+(O2 (I6 w.live w.rep w.act.sku).1).1) (I6 w.live w.rep w.act.sku).1).1.adds),.sl (List.map c3 (J9 w (w.act.qty+(O2 (I6 w.live w.rep w.act.sku).1).1) (I6 w.live w.rep w.act.sku).1).1.gone.vec),.sl (List.map B1 (J9 w (w.act.qty+(O2 (I6 w.live w.rep w.act.sku).1).1) (I6 w.live w.rep w.act.sku).1).1.gone.cloud),.sl (List.map c54 (J9 w (w.act.qty+(O2 (I6 w.live w.rep w.act.sku).1).1) (I6 w.live w.rep w.act.sku).1).1.recs)],.i .i64 ((J9 w (w.act.qty+(O2 (I6 w.live w.rep w.act.sku).1).1) (I6 w.live w.rep w.act.sku).1).2)]) z0))) ?_
 refine sn<|rT<|qR (.tup [.agg [.sl (List.map c46 (J9 w (w.act.qty+(O2 (I6 w.live w.rep w.act.sku).1).1) (I6 w.live w.rep w.act.sku).1).1.adds),.sl (List.map c3 (J9 w (w.act.qty+(O2 (I6 w.live w.rep w.act.sku).1).1) (I6 w.live w.rep w.act.sku).1).1.gone.vec),.sl (List.map B1 (J9 w (w.act.qty+(O2 (I6 w.live w.rep w.act.sku).1).1) (I6 w.live w.rep w.act.sku).1).1.gone.cloud),.sl (List.map c54 (J9 w (w.act.qty+(O2 (I6 w.live w.rep w.act.sku).1).1) (I6 w.live w.rep w.act.sku).1).1.recs)],.i .i64 ((J9 w (w.act.qty+(O2 (I6 w.live w.rep w.act.sku).1).1) (I6 w.live w.rep w.act.sku).1).2)]) (A5.tup (ZLe.cons (A5.eq (show AV.agg [AV.sl (List.map c46 (J9 w (w.act.qty+(O2 (I6 w.live w.rep w.act.sku).1).1) (I6 w.live w.rep w.act.sku).1).1.adds),AV.sl (List.map c3 (J9 w (w.act.qty+(O2 (I6 w.live w.rep w.act.sku).1).1) (I6 w.live w.rep w.act.sku).1).1.gone.vec),AV.sl (List.map B1 (J9 w (w.act.qty+(O2 (I6 w.live w.rep w.act.sku).1).1) (I6 w.live w.rep w.act.sku).1).1.gone.cloud),AV.sl (List.map c54 (J9 w (w.act.qty+(O2 (I6 w.live w.rep w.act.sku).1).1) (I6 w.live w.rep w.act.sku).1).1.recs)]=AV.agg [AV.sl (List.map c46 (M1 w).1.adds),AV.sl (List.map c3 (M1 w).1.gone.vec),AV.sl (List.map B1 (M1 w).1.gone.cloud),AV.sl (List.map c54 (M1 w).1.recs)]from(by unfold M1;rw[if_neg (by rw[h0];decide)];rw[if_neg h3]))) (ZLe.cons (A5.eq (show AV.i .i64 (J9 w (w.act.qty+(O2 (I6 w.live w.rep w.act.sku).1).1) (I6 w.live w.rep w.act.sku).1).2=AV.i .i64 (M1 w).2 from(by unfold M1;rw[if_neg (by rw[h0];decide)];rw[if_neg h3]))) ZLe.nil)))
theorem con156(w:Wish)(hs:w.live.length*40≤140737488351232):Con Tryz.prog 156 [.agg (B10 w)] (.tup [.agg (c36 (U1 w).1),.i .i64 (U1 w).2]) :=
 by
 refine sC B3 [.cell 2 36,.tmp 3] 13 Tryz.func156 ?_
 intro e0 cx
 refine sq<|rG cx [1,2] [1,2] z0<|sn<|sq ?_
 have hl_0:=(O1 w.live)
 have hl_1:=(O1 w.live w.act.sku)
 refine rG cx [2,4] [2] (fT (Ah5 (w) (by(with_reducible assumption))) (oA 1 (.sl (List.map c46 (ofV w.live w.act.sku).1)) z0))<|sn<|sq<|rD cx [2,4,9] [2] (tL 1 c46 ((ofV w.live w.act.sku).1) (zB 2 ((↑(ofV w.live w.act.sku).1.length:Int)=0))) (fun h2=>?_) fun h2=>?_
 refine sq<|rG cx [2,3] [2] z0<|sn<|rT<|nR<|qR (.tup [.agg [.nl,.nl,.nl,.nl],.i .i64 ((11:Int))]) (A5.tup (ZLe.cons (A5.agg (ZLe.cons (A5.nl' (show List.map c46 (U1 w).1.adds=[]from(by unfold U1;rw[if_pos h2];rfl))) (ZLe.cons (A5.nl' (show List.map c3 (U1 w).1.gone.vec=[]from(by unfold U1;rw[if_pos h2];rfl))) (ZLe.cons (A5.nl' (show List.map B1 (U1 w).1.gone.cloud=[]from(by unfold U1;rw[if_pos h2];rfl))) (ZLe.cons (A5.nl' (show List.map c54 (U1 w).1.recs=[]from(by unfold U1;rw[if_pos h2];rfl))) ZLe.nil))))) (ZLe.cons (A5.eq (show AV.i .i64 11=AV.i .i64 (U1 w).2 from(by unfold U1;rw[if_pos h2]))) ZLe.nil)))
 refine sK<|sn<|sq<|rG cx [2,3] [2] (fT (Aw7 ((ofV w.live w.act.sku).1)) (oA 1 (.agg [.sl (List.map c46 { adds:=[],gone:=(C8 (ofV w.live w.act.sku).1).1,recs:=[]:Facts }.adds),.sl (List.map c3 { adds:=[],gone:=(C8 (ofV w.live w.act.sku).1).1,recs:=[]:Facts }.gone.vec),.sl (List.map B1 { adds:=[],gone:=(C8 (ofV w.live w.act.sku).1).1,recs:=[]:Facts }.gone.cloud),.sl (List.map c54 { adds:=[],gone:=(C8 (ofV w.live w.act.sku).1).1,recs:=[]:Facts }.recs)]) z0))<|sn<|rT<|qR (.tup [.agg [.sl (List.map c46 { adds:=[],gone:=(C8 (ofV w.live w.act.sku).1).1,recs:=[]:Facts }.adds),.sl (List.map c3 { adds:=[],gone:=(C8 (ofV w.live w.act.sku).1).1,recs:=[]:Facts }.gone.vec),.sl (List.map B1 { adds:=[],gone:=(C8 (ofV w.live w.act.sku).1).1,recs:=[]:Facts }.gone.cloud),.sl (List.map c54 { adds:=[],gone:=(C8 (ofV w.live w.act.sku).1).1,recs:=[]:Facts }.recs)],.i .i64 ((0:Int))]) (A5.tup (ZLe.cons (A5.eq (show AV.agg [AV.sl (List.map c46 { adds:=[],gone:=(C8 (ofV w.live w.act.sku).1).1,recs:=[]:Facts }.adds),AV.sl (List.map c3 { adds:=[],gone:=(C8 (ofV w.live w.act.sku).1).1,recs:=[]:Facts }.gone.vec),AV.sl (List.map B1 { adds:=[],gone:=(C8 (ofV w.live w.act.sku).1).1,recs:=[]:Facts }.gone.cloud),AV.sl (List.map c54 { adds:=[],gone:=(C8 (ofV w.live w.act.sku).1).1,recs:=[]:Facts }.recs)]=AV.agg [AV.sl (List.map c46 (U1 w).1.adds),AV.sl (List.map c3 (U1 w).1.gone.vec),AV.sl (List.map B1 (U1 w).1.gone.cloud),AV.sl (List.map c54 (U1 w).1.recs)]from(by unfold U1;rw[if_neg h2]))) (ZLe.cons (A5.eq (show AV.i .i64 0=AV.i .i64 (U1 w).2 from(by unfold U1;rw[if_neg h2]))) ZLe.nil)))
theorem con158(w:Wish):Con Tryz.prog 158 [.agg (B10 w)] (.tup [.agg (c36 ⟨[],(C8 w.live).1,[]⟩),.i .i64 0]) :=
 by
 refine sC B3 [.cell 2 36,.tmp 3] 7 Tryz.func158 ?_
 intro e0 cx
 refine sq<|rG cx [1,2] [1,2] z0<|sn<|sq<|rG cx [2,3] [2] (fT (Aw7 (w.live)) (oA 2 (.agg [.sl (List.map c46 { adds:=[],gone:=(C8 w.live).1,recs:=[]:Facts }.adds),.sl (List.map c3 { adds:=[],gone:=(C8 w.live).1,recs:=[]:Facts }.gone.vec),.sl (List.map B1 { adds:=[],gone:=(C8 w.live).1,recs:=[]:Facts }.gone.cloud),.sl (List.map c54 { adds:=[],gone:=(C8 w.live).1,recs:=[]:Facts }.recs)]) z0))<|sn<|rT ?_
 exact X8 (r:=.tup [.agg [.sl (List.map c46 { adds:=[],gone:=(C8 w.live).1,recs:=[]:Facts }.adds),.sl (List.map c3 { adds:=[],gone:=(C8 w.live).1,recs:=[]:Facts }.gone.vec),.sl (List.map B1 { adds:=[],gone:=(C8 w.live).1,recs:=[]:Facts }.gone.cloud),.sl (List.map c54 { adds:=[],gone:=(C8 w.live).1,recs:=[]:Facts }.recs)],.i .i64 ((0:Int))]) (obl:=[]) (by kernel_rfl) trivial (A5.tup (ZLe.cons (A5.refl _) (ZLe.cons (A5.refl _) ZLe.nil)))
theorem con157(w:Wish)(hb:szP w.act.past):Con Tryz.prog 157 [.agg (B10 w)] (.tup [.agg (c36 (H2 w.act.sku w.act.past)),.i .i64 0]) :=
 by
 refine sC B3 [.cell 2 36,.tmp 3] 11 Tryz.func157 ?_
 intro e0 cx
 refine sq<|rG cx [1,2] [1,2] z0<|sn<|sq<|rG cx [2,3] [2] (fT (B43 (w.act.sku) (w.act.past) (by(with_reducible assumption))) (oA 6 (.agg [.sl (List.map c46 (H2 w.act.sku w.act.past).adds),.sl (List.map c3 (H2 w.act.sku w.act.past).gone.vec),.sl (List.map B1 (H2 w.act.sku w.act.past).gone.cloud),.sl (List.map c54 (H2 w.act.sku w.act.past).recs)]) z0))<|sn<|rT ?_
 exact X8 (r:=.tup [.agg [.sl (List.map c46 (H2 w.act.sku w.act.past).adds),.sl (List.map c3 (H2 w.act.sku w.act.past).gone.vec),.sl (List.map B1 (H2 w.act.sku w.act.past).gone.cloud),.sl (List.map c54 (H2 w.act.sku w.act.past).recs)],.i .i64 ((0:Int))]) (obl:=[]) (by kernel_rfl) trivial (A5.tup (ZLe.cons (A5.refl _) (ZLe.cons (A5.refl _) ZLe.nil)))
theorem con159(w:Wish)(hb:szP w.act.past):Con Tryz.prog 159 [.agg (B10 w)] (.tup [.agg (c36 (H2 E3 w.act.past)),.i .i64 0]) :=
 by
 refine sC B3 [.cell 2 36,.tmp 3] 8 Tryz.func159 ?_
 intro e0 cx
 refine sq<|rG cx [1,2] [1,2] z0<|sn<|sq<|rG cx [2,3] [2] (fT (B43 ({ data:=#[]:ByteArray }) (w.act.past) (by(with_reducible assumption))) (oA 3 (.agg [.sl (List.map c46 (H2 { data:=#[]:ByteArray } w.act.past).adds),.sl (List.map c3 (H2 { data:=#[]:ByteArray } w.act.past).gone.vec),.sl (List.map B1 (H2 { data:=#[]:ByteArray } w.act.past).gone.cloud),.sl (List.map c54 (H2 { data:=#[]:ByteArray } w.act.past).recs)]) z0))<|sn<|rT<|qR (.tup [.agg [.sl (List.map c46 (H2 { data:=#[]:ByteArray } w.act.past).adds),.sl (List.map c3 (H2 { data:=#[]:ByteArray } w.act.past).gone.vec),.sl (List.map B1 (H2 { data:=#[]:ByteArray } w.act.past).gone.cloud),.sl (List.map c54 (H2 { data:=#[]:ByteArray } w.act.past).recs)],.i .i64 ((0:Int))]) (A5.tup (ZLe.cons (A5.eq (show AV.agg [AV.sl (List.map c46 (H2 { data:=#[]:ByteArray } w.act.past).adds),AV.sl (List.map c3 (H2 { data:=#[]:ByteArray } w.act.past).gone.vec),AV.sl (List.map B1 (H2 { data:=#[]:ByteArray } w.act.past).gone.cloud),AV.sl (List.map c54 (H2 { data:=#[]:ByteArray } w.act.past).recs)]=AV.agg [AV.sl (List.map c46 (H2 E3 w.act.past).adds),AV.sl (List.map c3 (H2 E3 w.act.past).gone.vec),AV.sl (List.map B1 (H2 E3 w.act.past).gone.cloud),AV.sl (List.map c54 (H2 E3 w.act.past).recs)]from ?g0)) (ZLe.cons (A5.refl _) ZLe.nil)));rotate_left
 case g0=>rfl
end Go.Proofs.YtphcaholhacnpaaGreat
namespace Go.Proofs.YtphcaholhacnpaaGreat
open Go.E
set_option maxRecDepth 100000
set_option maxHeartbeats 4000000
noncomputable def A0y(w:Wish):Facts×Int:=if w.act.kind=1 then U0 w else if w.act.kind=2 then M1 w else if w.act.kind=3 then U1 w else if w.act.kind=4 then(H2 w.act.sku w.act.past,0)else if w.act.kind=5 then(⟨[],(C8 w.live).1,[]⟩,0)else(H2 E3 w.act.past,0)
noncomputable def B4(w:Wish):Facts×Int:=if ¬ C1 w.live=0∨¬ w.seen=A6 w.seen then(default,1)else if 0 <((F0 w.live w.seen false).1.length:Int)then(default,1)else if w.rep < 0∨16≤w.rep then(default,3)else if w.lim.lines < 1∨1000 < w.lim.lines∨w.lim.count < 1∨1000000000 < w.lim.count then(default,2)else if ¬ G8 w.act=0 then(default,G8 w.act)else A0y w
theorem C2{w:Wish}(h:¬ C1 w.live=0∨¬ w.seen=A6 w.seen):B4 w=(default,1):=by unfold B4;rw[if_pos h]
theorem C3{w:Wish}(h1:¬(¬ C1 w.live=0∨¬ w.seen=A6 w.seen))(h:0 <((F0 w.live w.seen false).1.length:Int)):B4 w=(default,1):=by unfold B4;rw[if_neg h1,if_pos h]
theorem C9{w:Wish}(h1:¬(¬ C1 w.live=0∨¬ w.seen=A6 w.seen))(h2:¬ 0 <((F0 w.live w.seen false).1.length:Int))(h:w.rep < 0∨16≤w.rep):B4 w=(default,3):=by unfold B4;rw[if_neg h1,if_neg h2,if_pos h]
theorem D0{w:Wish}(h1:¬(¬ C1 w.live=0∨¬ w.seen=A6 w.seen))(h2:¬ 0 <((F0 w.live w.seen false).1.length:Int))(h3:¬(w.rep < 0∨16≤w.rep))(h:w.lim.lines < 1∨1000 < w.lim.lines∨w.lim.count < 1∨1000000000 < w.lim.count):B4 w=(default,2):=by unfold B4;rw[if_neg h1,if_neg h2,if_neg h3,if_pos h]
theorem D3{w:Wish}(h1:¬(¬ C1 w.live=0∨¬ w.seen=A6 w.seen))(h2:¬ 0 <((F0 w.live w.seen false).1.length:Int))(h3:¬(w.rep < 0∨16≤w.rep))(h4:¬(w.lim.lines < 1∨1000 < w.lim.lines∨w.lim.count < 1∨1000000000 < w.lim.count))(h:¬ G8 w.act=0):B4 w=(default,G8 w.act):=by unfold B4;rw[if_neg h1,if_neg h2,if_neg h3,if_neg h4,if_pos h]
theorem D9{w:Wish}(h1:¬(¬ C1 w.live=0∨¬ w.seen=A6 w.seen))(h2:¬ 0 <((F0 w.live w.seen false).1.length:Int))(h3:¬(w.rep < 0∨16≤w.rep))(h4:¬(w.lim.lines < 1∨1000 < w.lim.lines∨w.lim.count < 1∨1000000000 < w.lim.count))(h:¬ ¬ G8 w.act=0):B4 w=A0y w:=by unfold B4;rw[if_neg h1,if_neg h2,if_neg h3,if_neg h4,if_neg h]
theorem Aw8{s:ByteArray}{q k:Int}{p:Past}(h:¬ ¬ G8 ⟨k,s,q,p⟩=0)(hk:k=1∨k=2):1≤q∧q≤1000000:=by
 have h:=Classical.not_not.1 h
 unfold G8 at h
 simp only at h
 split at h
 ·omega
 ·split at h
  ·omega
  ·split at h
   ·omega
   ·split at h
    ·omega
    ·omega
theorem Aw9{w:Wish}(h:w.act.kind=1):A0y w=U0 w:=by unfold A0y;rw[if_pos h]
theorem Ax0{w:Wish}(h:w.act.kind=2):A0y w=M1 w:=by unfold A0y;rw[if_neg (by omega),if_pos h]
theorem Ax1{w:Wish}(h:w.act.kind=3):A0y w=U1 w:=by unfold A0y;rw[if_neg (by omega),if_neg (by omega),if_pos h]
theorem Ax2{w:Wish}(h:w.act.kind=4):A0y w=(H2 w.act.sku w.act.past,0):=by unfold A0y;rw[if_neg (by omega),if_neg (by omega),if_neg (by omega),if_pos h]
theorem B2j{w:Wish}(h:w.act.kind=5):A0y w=(⟨[],(C8 w.live).1,[]⟩,0):=by unfold A0y;rw[if_neg (by omega),if_neg (by omega),if_neg (by omega),if_neg (by omega),if_pos h]
theorem Ax3{w:Wish}(h:w.act.kind=6):A0y w=(H2 E3 w.act.past,0):=by unfold A0y;rw[if_neg (by omega),if_neg (by omega),if_neg (by omega),if_neg (by omega),if_neg (by omega)]
theorem Ax4(s:ByteArray)(q:Int)(p:Past):¬ ¬ G8 ⟨5,s,q,p⟩=0:=by
 rw[Classical.not_not]
 unfold G8
 simp
theorem B2k(live:List Entry)(seen:Past)(rep:Int)(lim:Limits)(a:Actn)(hs:live.length*40≤140737488351232)(hb:szP seen)(hp:szP a.past)(FE:¬ G8 a=0):Con Tryz.prog 15 [.sl (live.map c46),.agg (c26 seen),.i .i64 rep,.agg (c28 lim),.agg (c30 a)] (.tup [.agg (c36 (B4 ⟨live,seen,rep,lim,a⟩).1),.i .i64 (B4 ⟨live,seen,rep,lim,a⟩).2]) :=
 by
 refine lN 0 c46 (live) Tryz.func15 fun hl_0=>sC B3 [.cell 10 36,.tmp 11] 80 Tryz.func15 ?_
 intro e0 cx
 refine sq<|rG cx [0,2,6,8,9,10] [6,8,9,10] z0<|sn<|sq<|sq<|A9 (σ':=⟨[(0,.sl (List.map c46 live)),(2,.i .i64 (rep)),(6,.ptr (6) (0) (0) (0)),(8,.ptr (8) (0) (0) (0)),(9,.ptr (9) (0) (0) (0)),(10,.ptr (10) (0) (0) (0)),(22,.b (decide (¬C1 live=0∨¬seen=A6 seen)))],[(6,⟨0,26,.var [.sl (List.map c3 seen.vec),.sl (List.map B1 seen.cloud)]⟩),(8,⟨0,28,.var [.i .i64 (lim.lines),.i .i64 (lim.count)]⟩),(9,⟨0,30,.var [.i .i64 (a.kind),.s (a.sku),.i .i64 (a.qty),.sl (List.map c3 a.past.vec),.sl (List.map B1 a.past.cloud)]⟩),(10,⟨0,36,.var [.nl,.nl,.nl,.nl]⟩)]⟩) ?_ ?_
 refine A4 (¬C1 live=0) (fun hh1=>?_) (fun hh1=>?_)
 refine rG cx [0,2,6,8,9,10,22] [6,8,9,10] (fT (M7 (live)) (tT 2 (G9 hh1:AV.b (C1 live !=0)=AV.b true) (tD 7 true (¬C1 live=0∨¬seen=A6 seen) (by simp only [eq_false hh1,tsl]) (oA 1 (.i .i64 (C1 live)) z0)))) ?_
 exact⟨rfl,by kernel_rfl⟩
 refine rG cx [0,2,6,8,9,10,22] [6,8,9,10] (fT (M7 (live)) (tN 2 (C1 live) (0:Int) (tT 3 (A0 hh1) (fT (A0f (seen) (by exact hb.1)) (tQ 6 (seen=A6 seen) (tT 7 (by first | (simp only [eq_false hh1,tsl];done) | simp_all:AV.b (decide ¬seen=A6 seen)=AV.b (decide (¬C1 live=0∨¬seen=A6 seen))) (oA 1 (.i .i64 (C1 live)) (oA 5 (.b (decide (seen=A6 seen))) z0)))))))) ?_
 exact⟨rfl,by kernel_rfl⟩
 refine sn<|dC (¬C1 live=0∨¬seen=A6 seen) (fun hh2=>?_) fun hh2=>?_
 refine sq<|rG cx [10,11] [10] z0<|sn<|rT<|nR<|qR (.tup [.agg [.nl,.nl,.nl,.nl],.i .i64 ((1:Int))]) (A5.tup (ZLe.cons (A5.agg (ZLe.cons (A5.nl' (show List.map c46 (B4 { live:=live,seen:=seen,rep:=rep,lim:=lim,act:=a:Wish }).1.adds=[]from(by rw[C2 (w:=⟨live,seen,rep,lim,a⟩) hh2];rfl))) (ZLe.cons (A5.nl' (show List.map c3 (B4 { live:=live,seen:=seen,rep:=rep,lim:=lim,act:=a:Wish }).1.gone.vec=[]from(by rw[C2 (w:=⟨live,seen,rep,lim,a⟩) hh2];rfl))) (ZLe.cons (A5.nl' (show List.map B1 (B4 { live:=live,seen:=seen,rep:=rep,lim:=lim,act:=a:Wish }).1.gone.cloud=[]from(by rw[C2 (w:=⟨live,seen,rep,lim,a⟩) hh2];rfl))) (ZLe.cons (A5.nl' (show List.map c54 (B4 { live:=live,seen:=seen,rep:=rep,lim:=lim,act:=a:Wish }).1.recs=[]from(by rw[C2 (w:=⟨live,seen,rep,lim,a⟩) hh2];rfl))) ZLe.nil))))) (ZLe.cons (A5.eq (show AV.i .i64 1=AV.i .i64 (B4 { live:=live,seen:=seen,rep:=rep,lim:=lim,act:=a:Wish }).2 from(by rw[C2 (w:=⟨live,seen,rep,lim,a⟩) hh2]))) ZLe.nil)))
 refine sK<|sn<|sq<|sq<|rG cx [0,2,6,8,9,10,12] [6,8,9,10] (fT (Ab6 (live) (seen) (by exact hb.1)) (oA 2 (.tup [.sl (List.map c46 (F0 live seen false).1),.i .i64 ((F0 live seen false).2)]) z0)) ?_
 refine sn<|rD cx [0,2,6,8,9,10,32] [6,8,9,10] (tL 1 c46 ((F0 live seen false).1) (zB 2 ((0:Int) <(↑(F0 live seen false).1.length:Int)))) (fun hh3=>?_) fun hh3=>?_
 refine sq<|rG cx [10,11] [10] z0<|sn<|rT<|nR<|qR (.tup [.agg [.nl,.nl,.nl,.nl],.i .i64 ((1:Int))]) (A5.tup (ZLe.cons (A5.agg (ZLe.cons (A5.nl' (show List.map c46 (B4 { live:=live,seen:=seen,rep:=rep,lim:=lim,act:=a:Wish }).1.adds=[]from(by rw[C3 (w:=⟨live,seen,rep,lim,a⟩) hh2 hh3];rfl))) (ZLe.cons (A5.nl' (show List.map c3 (B4 { live:=live,seen:=seen,rep:=rep,lim:=lim,act:=a:Wish }).1.gone.vec=[]from(by rw[C3 (w:=⟨live,seen,rep,lim,a⟩) hh2 hh3];rfl))) (ZLe.cons (A5.nl' (show List.map B1 (B4 { live:=live,seen:=seen,rep:=rep,lim:=lim,act:=a:Wish }).1.gone.cloud=[]from(by rw[C3 (w:=⟨live,seen,rep,lim,a⟩) hh2 hh3];rfl))) (ZLe.cons (A5.nl' (show List.map c54 (B4 { live:=live,seen:=seen,rep:=rep,lim:=lim,act:=a:Wish }).1.recs=[]from(by rw[C3 (w:=⟨live,seen,rep,lim,a⟩) hh2 hh3];rfl))) ZLe.nil))))) (ZLe.cons (A5.eq (show AV.i .i64 1=AV.i .i64 (B4 { live:=live,seen:=seen,rep:=rep,lim:=lim,act:=a:Wish }).2 from(by rw[C3 (w:=⟨live,seen,rep,lim,a⟩) hh2 hh3]))) ZLe.nil)))
 refine sK<|sn<|sq<|sq<|A9 (σ':=⟨[(0,.sl (List.map c46 live)),(2,.i .i64 (rep)),(6,.ptr (6) (0) (0) (0)),(8,.ptr (8) (0) (0) (0)),(9,.ptr (9) (0) (0) (0)),(10,.ptr (10) (0) (0) (0)),(39,.b (decide (rep <(0:Int)∨16≤rep)))],[(6,⟨0,26,.var [.sl (List.map c3 seen.vec),.sl (List.map B1 seen.cloud)]⟩),(8,⟨0,28,.var [.i .i64 (lim.lines),.i .i64 (lim.count)]⟩),(9,⟨0,30,.var [.i .i64 (a.kind),.s (a.sku),.i .i64 (a.qty),.sl (List.map c3 a.past.vec),.sl (List.map B1 a.past.cloud)]⟩),(10,⟨0,36,.var [.nl,.nl,.nl,.nl]⟩)]⟩) ?_ ?_
 refine A4 (rep <(0:Int)) (fun h_5=>?_) (fun h_5=>?_)
 refine rG cx [0,2,6,8,9,10,39] [6,8,9,10] (tT 1 (A3 h_5) (tD 5 true (rep <(0:Int)∨16≤rep) (by simp only [eq_true h_5,tsl]) z0)) ?_
 exact⟨rfl,by kernel_rfl⟩
 refine rG cx [0,2,6,8,9,10,39] [6,8,9,10] (tT 1 (A0 h_5) (tB 4 (16≤rep) (tD 5 (decide (16≤rep)) (rep <(0:Int)∨16≤rep) (by simp only [eq_false h_5,tsl]) z0))) ?_
 exact⟨rfl,by kernel_rfl⟩
 refine sn<|dC (rep <(0:Int)∨16≤rep) (fun h6=>?_) fun h6=>?_
 refine sq<|rG cx [10,11] [10] z0<|sn<|rT<|nR<|qR (.tup [.agg [.nl,.nl,.nl,.nl],.i .i64 ((3:Int))]) (A5.tup (ZLe.cons (A5.agg (ZLe.cons (A5.nl' (show List.map c46 (B4 { live:=live,seen:=seen,rep:=rep,lim:=lim,act:=a:Wish }).1.adds=[]from(by rw[C9 (w:=⟨live,seen,rep,lim,a⟩) hh2 hh3 h6];rfl))) (ZLe.cons (A5.nl' (show List.map c3 (B4 { live:=live,seen:=seen,rep:=rep,lim:=lim,act:=a:Wish }).1.gone.vec=[]from(by rw[C9 (w:=⟨live,seen,rep,lim,a⟩) hh2 hh3 h6];rfl))) (ZLe.cons (A5.nl' (show List.map B1 (B4 { live:=live,seen:=seen,rep:=rep,lim:=lim,act:=a:Wish }).1.gone.cloud=[]from(by rw[C9 (w:=⟨live,seen,rep,lim,a⟩) hh2 hh3 h6];rfl))) (ZLe.cons (A5.nl' (show List.map c54 (B4 { live:=live,seen:=seen,rep:=rep,lim:=lim,act:=a:Wish }).1.recs=[]from(by rw[C9 (w:=⟨live,seen,rep,lim,a⟩) hh2 hh3 h6];rfl))) ZLe.nil))))) (ZLe.cons (A5.eq (show AV.i .i64 3=AV.i .i64 (B4 { live:=live,seen:=seen,rep:=rep,lim:=lim,act:=a:Wish }).2 from(by rw[C9 (w:=⟨live,seen,rep,lim,a⟩) hh2 hh3 h6]))) ZLe.nil)))
 refine sK<|sn<|sq<|sq<|A9 (σ':=⟨[(0,.sl (List.map c46 live)),(2,.i .i64 (rep)),(6,.ptr (6) (0) (0) (0)),(8,.ptr (8) (0) (0) (0)),(9,.ptr (9) (0) (0) (0)),(10,.ptr (10) (0) (0) (0)),(58,.b (decide (lim.lines <(1:Int)∨(1000:Int) < lim.lines∨lim.count <(1:Int)∨(1000000000:Int) < lim.count)))],[(6,⟨0,26,.var [.sl (List.map c3 seen.vec),.sl (List.map B1 seen.cloud)]⟩),(8,⟨0,28,.var [.i .i64 (lim.lines),.i .i64 (lim.count)]⟩),(9,⟨0,30,.var [.i .i64 (a.kind),.s (a.sku),.i .i64 (a.qty),.sl (List.map c3 a.past.vec),.sl (List.map B1 a.past.cloud)]⟩),(10,⟨0,36,.var [.nl,.nl,.nl,.nl]⟩)]⟩) ?_ ?_
 refine A4 (lim.lines <(1:Int)) (fun h_8=>?_) (fun h_8=>?_)
 refine rG cx [0,2,6,8,9,10,58] [6,8,9,10] (tT 2 (A3 h_8) (tD 17 true (lim.lines <(1:Int)∨(1000:Int) < lim.lines∨lim.count <(1:Int)∨(1000000000:Int) < lim.count) (by simp only [eq_true h_8,tsl]) z0)) ?_
 exact⟨rfl,by kernel_rfl⟩
 refine A4 ((1000:Int) < lim.lines) (fun h_9=>?_) (fun h_9=>?_)
 refine rG cx [0,2,6,8,9,10,58] [6,8,9,10] (tT 2 (A0 h_8) (tT 6 (A3 h_9) (tD 17 true (lim.lines <(1:Int)∨(1000:Int) < lim.lines∨lim.count <(1:Int)∨(1000000000:Int) < lim.count) (by simp only [eq_false h_8,eq_true h_9,tsl]) z0))) ?_
 exact⟨rfl,by kernel_rfl⟩
 refine A4 (lim.count <(1:Int)) (fun h_10=>?_) (fun h_10=>?_)
 refine rG cx [0,2,6,8,9,10,58] [6,8,9,10] (tT 2 (A0 h_8) (tT 6 (A0 h_9) (tT 11 (A3 h_10) (tD 17 true (lim.lines <(1:Int)∨(1000:Int) < lim.lines∨lim.count <(1:Int)∨(1000000000:Int) < lim.count) (by simp only [eq_false h_8,eq_false h_9,eq_true h_10,tsl]) z0)))) ?_
 exact⟨rfl,by kernel_rfl⟩
 refine rG cx [0,2,6,8,9,10,58] [6,8,9,10] (tT 2 (A0 h_8) (tT 6 (A0 h_9) (tT 11 (A0 h_10) (tB 16 ((1000000000:Int) < lim.count) (tD 17 (decide ((1000000000:Int) < lim.count)) (lim.lines <(1:Int)∨(1000:Int) < lim.lines∨lim.count <(1:Int)∨(1000000000:Int) < lim.count) (by simp only [eq_false h_8,eq_false h_9,eq_false h_10,tsl]) z0))))) ?_
 exact⟨rfl,by kernel_rfl⟩
 refine sn<|dC (lim.lines <(1:Int)∨(1000:Int) < lim.lines∨lim.count <(1:Int)∨(1000000000:Int) < lim.count) (fun h11=>?_) fun h11=>?_
 refine sq<|rG cx [10,11] [10] z0<|sn<|rT<|nR<|qR (.tup [.agg [.nl,.nl,.nl,.nl],.i .i64 ((2:Int))]) (A5.tup (ZLe.cons (A5.agg (ZLe.cons (A5.nl' (show List.map c46 (B4 { live:=live,seen:=seen,rep:=rep,lim:=lim,act:=a:Wish }).1.adds=[]from(by rw[D0 (w:=⟨live,seen,rep,lim,a⟩) hh2 hh3 h6 h11];rfl))) (ZLe.cons (A5.nl' (show List.map c3 (B4 { live:=live,seen:=seen,rep:=rep,lim:=lim,act:=a:Wish }).1.gone.vec=[]from(by rw[D0 (w:=⟨live,seen,rep,lim,a⟩) hh2 hh3 h6 h11];rfl))) (ZLe.cons (A5.nl' (show List.map B1 (B4 { live:=live,seen:=seen,rep:=rep,lim:=lim,act:=a:Wish }).1.gone.cloud=[]from(by rw[D0 (w:=⟨live,seen,rep,lim,a⟩) hh2 hh3 h6 h11];rfl))) (ZLe.cons (A5.nl' (show List.map c54 (B4 { live:=live,seen:=seen,rep:=rep,lim:=lim,act:=a:Wish }).1.recs=[]from(by rw[D0 (w:=⟨live,seen,rep,lim,a⟩) hh2 hh3 h6 h11];rfl))) ZLe.nil))))) (ZLe.cons (A5.eq (show AV.i .i64 2=AV.i .i64 (B4 { live:=live,seen:=seen,rep:=rep,lim:=lim,act:=a:Wish }).2 from(by rw[D0 (w:=⟨live,seen,rep,lim,a⟩) hh2 hh3 h6 h11]))) ZLe.nil)))
 refine sK<|sn<|sq<|sq<|rG cx [0,2,6,8,9,10,14] [6,8,9,10] (fT (Aa7 (a) (by(with_reducible assumption))) (oA 1 (.i .i64 (G8 a)) z0))<|sn<|sq<|rG cx [0,2,6,8,9,10,14,63] [6,8,9,10] (tT 1 (G9 FE:AV.b (G8 a !=0)=AV.b true) z0)<|sn<|A17 (by kernel_rfl) (by kernel_rfl)<|sq<|rG cx [10,11] [10] z0<|sn<|rT<|nR<|qR (.tup [.agg [.nl,.nl,.nl,.nl],.i .i64 (G8 a)]) (A5.tup (ZLe.cons (A5.agg (ZLe.cons (A5.nl' (show List.map c46 (B4 { live:=live,seen:=seen,rep:=rep,lim:=lim,act:=a:Wish }).1.adds=[]from(by rw[D3 (w:=⟨live,seen,rep,lim,a⟩) hh2 hh3 h6 h11 FE];rfl))) (ZLe.cons (A5.nl' (show List.map c3 (B4 { live:=live,seen:=seen,rep:=rep,lim:=lim,act:=a:Wish }).1.gone.vec=[]from(by rw[D3 (w:=⟨live,seen,rep,lim,a⟩) hh2 hh3 h6 h11 FE];rfl))) (ZLe.cons (A5.nl' (show List.map B1 (B4 { live:=live,seen:=seen,rep:=rep,lim:=lim,act:=a:Wish }).1.gone.cloud=[]from(by rw[D3 (w:=⟨live,seen,rep,lim,a⟩) hh2 hh3 h6 h11 FE];rfl))) (ZLe.cons (A5.nl' (show List.map c54 (B4 { live:=live,seen:=seen,rep:=rep,lim:=lim,act:=a:Wish }).1.recs=[]from(by rw[D3 (w:=⟨live,seen,rep,lim,a⟩) hh2 hh3 h6 h11 FE];rfl))) ZLe.nil))))) (ZLe.cons (A5.eq (show AV.i .i64 (G8 a)=AV.i .i64 (B4 { live:=live,seen:=seen,rep:=rep,lim:=lim,act:=a:Wish }).2 from(by rw[D3 (w:=⟨live,seen,rep,lim,a⟩) hh2 hh3 h6 h11 FE]))) ZLe.nil)))
theorem B2l(live:List Entry)(seen:Past)(rep:Int)(lim:Limits)(s:ByteArray)(q:Int)(p:Past)(hs:live.length*40≤140737488351232)(hb:szP seen)(hp:szP p):Con Tryz.prog 15 [.sl (live.map c46),.agg (c26 seen),.i .i64 rep,.agg (c28 lim),.agg (c30 ⟨1,s,q,p⟩)] (.tup [.agg (c36 (B4 ⟨live,seen,rep,lim,⟨1,s,q,p⟩⟩).1),.i .i64 (B4 ⟨live,seen,rep,lim,⟨1,s,q,p⟩⟩).2]) :=
 by
 refine lN 0 c46 (live) Tryz.func15 fun hl_0=>sC B3 [.cell 10 36,.tmp 11] 80 Tryz.func15 ?_
 intro e0 cx
 refine sq<|rG cx [0,2,6,8,9,10] [6,8,9,10] z0<|sn<|sq<|sq<|A9 (σ':=⟨[(0,.sl (List.map c46 live)),(2,.i .i64 (rep)),(6,.ptr (6) (0) (0) (0)),(8,.ptr (8) (0) (0) (0)),(9,.ptr (9) (0) (0) (0)),(10,.ptr (10) (0) (0) (0)),(22,.b (decide (¬C1 live=0∨¬seen=A6 seen)))],[(6,⟨0,26,.var [.sl (List.map c3 seen.vec),.sl (List.map B1 seen.cloud)]⟩),(8,⟨0,28,.var [.i .i64 (lim.lines),.i .i64 (lim.count)]⟩),(9,⟨0,30,.var [.i .i64 ((1:Int)),.s ({ kind:=(1:Int),sku:=s,qty:=q,past:=p:Actn }.sku),.i .i64 ({ kind:=(1:Int),sku:=s,qty:=q,past:=p:Actn }.qty),.sl (List.map c3 { kind:=(1:Int),sku:=s,qty:=q,past:=p:Actn }.past.vec),.sl (List.map B1 { kind:=(1:Int),sku:=s,qty:=q,past:=p:Actn }.past.cloud)]⟩),(10,⟨0,36,.var [.nl,.nl,.nl,.nl]⟩)]⟩) ?_ ?_
 refine A4 (¬C1 live=0) (fun hh1=>?_) (fun hh1=>?_)
 refine rG cx [0,2,6,8,9,10,22] [6,8,9,10] (fT (M7 (live)) (tT 2 (G9 hh1:AV.b (C1 live !=0)=AV.b true) (tD 7 true (¬C1 live=0∨¬seen=A6 seen) (by simp only [eq_false hh1,tsl]) (oA 1 (.i .i64 (C1 live)) z0)))) ?_
 exact⟨rfl,by kernel_rfl⟩
 refine rG cx [0,2,6,8,9,10,22] [6,8,9,10] (fT (M7 (live)) (tN 2 (C1 live) (0:Int) (tT 3 (A0 hh1) (fT (A0f (seen) (by exact hb.1)) (tQ 6 (seen=A6 seen) (tT 7 (by first | (simp only [eq_false hh1,tsl];done) | simp_all:AV.b (decide ¬seen=A6 seen)=AV.b (decide (¬C1 live=0∨¬seen=A6 seen))) (oA 1 (.i .i64 (C1 live)) (oA 5 (.b (decide (seen=A6 seen))) z0)))))))) ?_
 exact⟨rfl,by kernel_rfl⟩
 refine sn<|dC (¬C1 live=0∨¬seen=A6 seen) (fun hh2=>?_) fun hh2=>?_
 refine sq<|rG cx [10,11] [10] z0<|sn<|rT<|nR<|qR (.tup [.agg [.nl,.nl,.nl,.nl],.i .i64 ((1:Int))]) (A5.tup (ZLe.cons (A5.agg (ZLe.cons (A5.nl' (show List.map c46 (B4 { live:=live,seen:=seen,rep:=rep,lim:=lim,act:={ kind:=(1:Int),sku:=s,qty:=q,past:=p:Actn }:Wish }).1.adds=[]from(by rw[C2 (w:=⟨live,seen,rep,lim,⟨1,s,q,p⟩⟩) hh2];rfl))) (ZLe.cons (A5.nl' (show List.map c3 (B4 { live:=live,seen:=seen,rep:=rep,lim:=lim,act:={ kind:=(1:Int),sku:=s,qty:=q,past:=p:Actn }:Wish }).1.gone.vec=[]from(by rw[C2 (w:=⟨live,seen,rep,lim,⟨1,s,q,p⟩⟩) hh2];rfl))) (ZLe.cons (A5.nl' (show List.map B1 (B4 { live:=live,seen:=seen,rep:=rep,lim:=lim,act:={ kind:=(1:Int),sku:=s,qty:=q,past:=p:Actn }:Wish }).1.gone.cloud=[]from(by rw[C2 (w:=⟨live,seen,rep,lim,⟨1,s,q,p⟩⟩) hh2];rfl))) (ZLe.cons (A5.nl' (show List.map c54 (B4 { live:=live,seen:=seen,rep:=rep,lim:=lim,act:={ kind:=(1:Int),sku:=s,qty:=q,past:=p:Actn }:Wish }).1.recs=[]from(by rw[C2 (w:=⟨live,seen,rep,lim,⟨1,s,q,p⟩⟩) hh2];rfl))) ZLe.nil))))) (ZLe.cons (A5.eq (show AV.i .i64 1=AV.i .i64 (B4 { live:=live,seen:=seen,rep:=rep,lim:=lim,act:={ kind:=(1:Int),sku:=s,qty:=q,past:=p:Actn }:Wish }).2 from(by rw[C2 (w:=⟨live,seen,rep,lim,⟨1,s,q,p⟩⟩) hh2]))) ZLe.nil)))
 refine sK<|sn<|sq<|sq<|rG cx [0,2,6,8,9,10,12] [6,8,9,10] (fT (Ab6 (live) (seen) (by exact hb.1)) (oA 2 (.tup [.sl (List.map c46 (F0 live seen false).1),.i .i64 ((F0 live seen false).2)]) z0)) ?_
 refine sn<|rD cx [0,2,6,8,9,10,32] [6,8,9,10] (tL 1 c46 ((F0 live seen false).1) (zB 2 ((0:Int) <(↑(F0 live seen false).1.length:Int)))) (fun hh3=>?_) fun hh3=>?_
 refine sq<|rG cx [10,11] [10] z0<|sn<|rT<|nR<|qR (.tup [.agg [.nl,.nl,.nl,.nl],.i .i64 ((1:Int))]) (A5.tup (ZLe.cons (A5.agg (ZLe.cons (A5.nl' (show List.map c46 (B4 { live:=live,seen:=seen,rep:=rep,lim:=lim,act:={ kind:=(1:Int),sku:=s,qty:=q,past:=p:Actn }:Wish }).1.adds=[]from(by rw[C3 (w:=⟨live,seen,rep,lim,⟨1,s,q,p⟩⟩) hh2 hh3];rfl))) (ZLe.cons (A5.nl' (show List.map c3 (B4 { live:=live,seen:=seen,rep:=rep,lim:=lim,act:={ kind:=(1:Int),sku:=s,qty:=q,past:=p:Actn }:Wish }).1.gone.vec=[]from(by rw[C3 (w:=⟨live,seen,rep,lim,⟨1,s,q,p⟩⟩) hh2 hh3];rfl))) (ZLe.cons (A5.nl' (show List.map B1 (B4 { live:=live,seen:=seen,rep:=rep,lim:=lim,act:={ kind:=(1:Int),sku:=s,qty:=q,past:=p:Actn }:Wish }).1.gone.cloud=[]from(by rw[C3 (w:=⟨live,seen,rep,lim,⟨1,s,q,p⟩⟩) hh2 hh3];rfl))) (ZLe.cons (A5.nl' (show List.map c54 (B4 { live:=live,seen:=seen,rep:=rep,lim:=lim,act:={ kind:=(1:Int),sku:=s,qty:=q,past:=p:Actn }:Wish }).1.recs=[]from(by rw[C3 (w:=⟨live,seen,rep,lim,⟨1,s,q,p⟩⟩) hh2 hh3];rfl))) ZLe.nil))))) (ZLe.cons (A5.eq (show AV.i .i64 1=AV.i .i64 (B4 { live:=live,seen:=seen,rep:=rep,lim:=lim,act:={ kind:=(1:Int),sku:=s,qty:=q,past:=p:Actn }:Wish }).2 from(by rw[C3 (w:=⟨live,seen,rep,lim,⟨1,s,q,p⟩⟩) hh2 hh3]))) ZLe.nil)))
 refine sK<|sn<|sq<|sq<|A9 (σ':=⟨[(0,.sl (List.map c46 live)),(2,.i .i64 (rep)),(6,.ptr (6) (0) (0) (0)),(8,.ptr (8) (0) (0) (0)),(9,.ptr (9) (0) (0) (0)),(10,.ptr (10) (0) (0) (0)),(39,.b (decide (rep <(0:Int)∨16≤rep)))],[(6,⟨0,26,.var [.sl (List.map c3 seen.vec),.sl (List.map B1 seen.cloud)]⟩),(8,⟨0,28,.var [.i .i64 (lim.lines),.i .i64 (lim.count)]⟩),(9,⟨0,30,.var [.i .i64 ((1:Int)),.s ({ kind:=(1:Int),sku:=s,qty:=q,past:=p:Actn }.sku),.i .i64 ({ kind:=(1:Int),sku:=s,qty:=q,past:=p:Actn }.qty),.sl (List.map c3 { kind:=(1:Int),sku:=s,qty:=q,past:=p:Actn }.past.vec),.sl (List.map B1 { kind:=(1:Int),sku:=s,qty:=q,past:=p:Actn }.past.cloud)]⟩),(10,⟨0,36,.var [.nl,.nl,.nl,.nl]⟩)]⟩) ?_ ?_
 refine A4 (rep <(0:Int)) (fun h_5=>?_) (fun h_5=>?_)
 refine rG cx [0,2,6,8,9,10,39] [6,8,9,10] (tT 1 (A3 h_5) (tD 5 true (rep <(0:Int)∨16≤rep) (by simp only [eq_true h_5,tsl]) z0)) ?_
 exact⟨rfl,by kernel_rfl⟩
 refine rG cx [0,2,6,8,9,10,39] [6,8,9,10] (tT 1 (A0 h_5) (tB 4 (16≤rep) (tD 5 (decide (16≤rep)) (rep <(0:Int)∨16≤rep) (by simp only [eq_false h_5,tsl]) z0))) ?_
 exact⟨rfl,by kernel_rfl⟩
 refine sn<|dC (rep <(0:Int)∨16≤rep) (fun h6=>?_) fun h6=>?_
 refine sq<|rG cx [10,11] [10] z0<|sn<|rT<|nR<|qR (.tup [.agg [.nl,.nl,.nl,.nl],.i .i64 ((3:Int))]) (A5.tup (ZLe.cons (A5.agg (ZLe.cons (A5.nl' (show List.map c46 (B4 { live:=live,seen:=seen,rep:=rep,lim:=lim,act:={ kind:=(1:Int),sku:=s,qty:=q,past:=p:Actn }:Wish }).1.adds=[]from(by rw[C9 (w:=⟨live,seen,rep,lim,⟨1,s,q,p⟩⟩) hh2 hh3 h6];rfl))) (ZLe.cons (A5.nl' (show List.map c3 (B4 { live:=live,seen:=seen,rep:=rep,lim:=lim,act:={ kind:=(1:Int),sku:=s,qty:=q,past:=p:Actn }:Wish }).1.gone.vec=[]from(by rw[C9 (w:=⟨live,seen,rep,lim,⟨1,s,q,p⟩⟩) hh2 hh3 h6];rfl))) (ZLe.cons (A5.nl' (show List.map B1 (B4 { live:=live,seen:=seen,rep:=rep,lim:=lim,act:={ kind:=(1:Int),sku:=s,qty:=q,past:=p:Actn }:Wish }).1.gone.cloud=[]from(by rw[C9 (w:=⟨live,seen,rep,lim,⟨1,s,q,p⟩⟩) hh2 hh3 h6];rfl))) (ZLe.cons (A5.nl' (show List.map c54 (B4 { live:=live,seen:=seen,rep:=rep,lim:=lim,act:={ kind:=(1:Int),sku:=s,qty:=q,past:=p:Actn }:Wish }).1.recs=[]from(by rw[C9 (w:=⟨live,seen,rep,lim,⟨1,s,q,p⟩⟩) hh2 hh3 h6];rfl))) ZLe.nil))))) (ZLe.cons (A5.eq (show AV.i .i64 3=AV.i .i64 (B4 { live:=live,seen:=seen,rep:=rep,lim:=lim,act:={ kind:=(1:Int),sku:=s,qty:=q,past:=p:Actn }:Wish }).2 from(by rw[C9 (w:=⟨live,seen,rep,lim,⟨1,s,q,p⟩⟩) hh2 hh3 h6]))) ZLe.nil)))
 refine sK<|sn<|sq<|sq<|A9 (σ':=⟨[(0,.sl (List.map c46 live)),(2,.i .i64 (rep)),(6,.ptr (6) (0) (0) (0)),(8,.ptr (8) (0) (0) (0)),(9,.ptr (9) (0) (0) (0)),(10,.ptr (10) (0) (0) (0)),(58,.b (decide (lim.lines <(1:Int)∨(1000:Int) < lim.lines∨lim.count <(1:Int)∨(1000000000:Int) < lim.count)))],[(6,⟨0,26,.var [.sl (List.map c3 seen.vec),.sl (List.map B1 seen.cloud)]⟩),(8,⟨0,28,.var [.i .i64 (lim.lines),.i .i64 (lim.count)]⟩),(9,⟨0,30,.var [.i .i64 ((1:Int)),.s ({ kind:=(1:Int),sku:=s,qty:=q,past:=p:Actn }.sku),.i .i64 ({ kind:=(1:Int),sku:=s,qty:=q,past:=p:Actn }.qty),.sl (List.map c3 { kind:=(1:Int),sku:=s,qty:=q,past:=p:Actn }.past.vec),.sl (List.map B1 { kind:=(1:Int),sku:=s,qty:=q,past:=p:Actn }.past.cloud)]⟩),(10,⟨0,36,.var [.nl,.nl,.nl,.nl]⟩)]⟩) ?_ ?_
 refine A4 (lim.lines <(1:Int)) (fun h_8=>?_) (fun h_8=>?_)
 refine rG cx [0,2,6,8,9,10,58] [6,8,9,10] (tT 2 (A3 h_8) (tD 17 true (lim.lines <(1:Int)∨(1000:Int) < lim.lines∨lim.count <(1:Int)∨(1000000000:Int) < lim.count) (by simp only [eq_true h_8,tsl]) z0)) ?_
 exact⟨rfl,by kernel_rfl⟩
 refine A4 ((1000:Int) < lim.lines) (fun h_9=>?_) (fun h_9=>?_)
 refine rG cx [0,2,6,8,9,10,58] [6,8,9,10] (tT 2 (A0 h_8) (tT 6 (A3 h_9) (tD 17 true (lim.lines <(1:Int)∨(1000:Int) < lim.lines∨lim.count <(1:Int)∨(1000000000:Int) < lim.count) (by simp only [eq_false h_8,eq_true h_9,tsl]) z0))) ?_
 exact⟨rfl,by kernel_rfl⟩
 refine A4 (lim.count <(1:Int)) (fun h_10=>?_) (fun h_10=>?_)
 refine rG cx [0,2,6,8,9,10,58] [6,8,9,10] (tT 2 (A0 h_8) (tT 6 (A0 h_9) (tT 11 (A3 h_10) (tD 17 true (lim.lines <(1:Int)∨(1000:Int) < lim.lines∨lim.count <(1:Int)∨(1000000000:Int) < lim.count) (by simp only [eq_false h_8,eq_false h_9,eq_true h_10,tsl]) z0)))) ?_
 exact⟨rfl,by kernel_rfl⟩
 refine rG cx [0,2,6,8,9,10,58] [6,8,9,10] (tT 2 (A0 h_8) (tT 6 (A0 h_9) (tT 11 (A0 h_10) (tB 16 ((1000000000:Int) < lim.count) (tD 17 (decide ((1000000000:Int) < lim.count)) (lim.lines <(1:Int)∨(1000:Int) < lim.lines∨lim.count <(1:Int)∨(1000000000:Int) < lim.count) (by simp only [eq_false h_8,eq_false h_9,eq_false h_10,tsl]) z0))))) ?_
 exact⟨rfl,by kernel_rfl⟩
 refine sn<|dC (lim.lines <(1:Int)∨(1000:Int) < lim.lines∨lim.count <(1:Int)∨(1000000000:Int) < lim.count) (fun h11=>?_) fun h11=>?_
 refine sq<|rG cx [10,11] [10] z0<|sn<|rT<|nR<|qR (.tup [.agg [.nl,.nl,.nl,.nl],.i .i64 ((2:Int))]) (A5.tup (ZLe.cons (A5.agg (ZLe.cons (A5.nl' (show List.map c46 (B4 { live:=live,seen:=seen,rep:=rep,lim:=lim,act:={ kind:=(1:Int),sku:=s,qty:=q,past:=p:Actn }:Wish }).1.adds=[]from(by rw[D0 (w:=⟨live,seen,rep,lim,⟨1,s,q,p⟩⟩) hh2 hh3 h6 h11];rfl))) (ZLe.cons (A5.nl' (show List.map c3 (B4 { live:=live,seen:=seen,rep:=rep,lim:=lim,act:={ kind:=(1:Int),sku:=s,qty:=q,past:=p:Actn }:Wish }).1.gone.vec=[]from(by rw[D0 (w:=⟨live,seen,rep,lim,⟨1,s,q,p⟩⟩) hh2 hh3 h6 h11];rfl))) (ZLe.cons (A5.nl' (show List.map B1 (B4 { live:=live,seen:=seen,rep:=rep,lim:=lim,act:={ kind:=(1:Int),sku:=s,qty:=q,past:=p:Actn }:Wish }).1.gone.cloud=[]from(by rw[D0 (w:=⟨live,seen,rep,lim,⟨1,s,q,p⟩⟩) hh2 hh3 h6 h11];rfl))) (ZLe.cons (A5.nl' (show List.map c54 (B4 { live:=live,seen:=seen,rep:=rep,lim:=lim,act:={ kind:=(1:Int),sku:=s,qty:=q,past:=p:Actn }:Wish }).1.recs=[]from(by rw[D0 (w:=⟨live,seen,rep,lim,⟨1,s,q,p⟩⟩) hh2 hh3 h6 h11];rfl))) ZLe.nil))))) (ZLe.cons (A5.eq (show AV.i .i64 2=AV.i .i64 (B4 { live:=live,seen:=seen,rep:=rep,lim:=lim,act:={ kind:=(1:Int),sku:=s,qty:=q,past:=p:Actn }:Wish }).2 from(by rw[D0 (w:=⟨live,seen,rep,lim,⟨1,s,q,p⟩⟩) hh2 hh3 h6 h11]))) ZLe.nil)))
 refine sK<|sn<|sq<|sq<|rG cx [0,2,6,8,9,10,14] [6,8,9,10] (fT (Aa7 ({ kind:=(1:Int),sku:={ kind:=(1:Int),sku:=s,qty:=q,past:=p:Actn }.sku,qty:={ kind:=(1:Int),sku:=s,qty:=q,past:=p:Actn }.qty,past:={ kind:=(1:Int),sku:=s,qty:=q,past:=p:Actn }.past:Actn }) (by(with_reducible assumption))) (oA 1 (.i .i64 (G8 { kind:=(1:Int),sku:={ kind:=(1:Int),sku:=s,qty:=q,past:=p:Actn }.sku,qty:={ kind:=(1:Int),sku:=s,qty:=q,past:=p:Actn }.qty,past:={ kind:=(1:Int),sku:=s,qty:=q,past:=p:Actn }.past:Actn })) z0))<|sn<|sq<|rG cx [0,2,6,8,9,10,14,63] [6,8,9,10] (tN 1 (G8 { kind:=(1:Int),sku:={ kind:=(1:Int),sku:=s,qty:=q,past:=p:Actn }.sku,qty:={ kind:=(1:Int),sku:=s,qty:=q,past:=p:Actn }.qty,past:={ kind:=(1:Int),sku:=s,qty:=q,past:=p:Actn }.past:Actn }) (0:Int) z0)<|sn<|dC (¬G8 { kind:=(1:Int),sku:={ kind:=(1:Int),sku:=s,qty:=q,past:=p:Actn }.sku,qty:={ kind:=(1:Int),sku:=s,qty:=q,past:=p:Actn }.qty,past:={ kind:=(1:Int),sku:=s,qty:=q,past:=p:Actn }.past:Actn }=(0:Int)) (fun h12=>?_) fun h12=>?_
 refine sq<|rG cx [10,11] [10] z0<|sn<|rT<|nR<|qR (.tup [.agg [.nl,.nl,.nl,.nl],.i .i64 (G8 { kind:=(1:Int),sku:={ kind:=(1:Int),sku:=s,qty:=q,past:=p:Actn }.sku,qty:={ kind:=(1:Int),sku:=s,qty:=q,past:=p:Actn }.qty,past:={ kind:=(1:Int),sku:=s,qty:=q,past:=p:Actn }.past:Actn })]) (A5.tup (ZLe.cons (A5.agg (ZLe.cons (A5.nl' (show List.map c46 (B4 { live:=live,seen:=seen,rep:=rep,lim:=lim,act:={ kind:=(1:Int),sku:=s,qty:=q,past:=p:Actn }:Wish }).1.adds=[]from(by rw[D3 (w:=⟨live,seen,rep,lim,⟨1,s,q,p⟩⟩) hh2 hh3 h6 h11 h12];rfl))) (ZLe.cons (A5.nl' (show List.map c3 (B4 { live:=live,seen:=seen,rep:=rep,lim:=lim,act:={ kind:=(1:Int),sku:=s,qty:=q,past:=p:Actn }:Wish }).1.gone.vec=[]from(by rw[D3 (w:=⟨live,seen,rep,lim,⟨1,s,q,p⟩⟩) hh2 hh3 h6 h11 h12];rfl))) (ZLe.cons (A5.nl' (show List.map B1 (B4 { live:=live,seen:=seen,rep:=rep,lim:=lim,act:={ kind:=(1:Int),sku:=s,qty:=q,past:=p:Actn }:Wish }).1.gone.cloud=[]from(by rw[D3 (w:=⟨live,seen,rep,lim,⟨1,s,q,p⟩⟩) hh2 hh3 h6 h11 h12];rfl))) (ZLe.cons (A5.nl' (show List.map c54 (B4 { live:=live,seen:=seen,rep:=rep,lim:=lim,act:={ kind:=(1:Int),sku:=s,qty:=q,past:=p:Actn }:Wish }).1.recs=[]from(by rw[D3 (w:=⟨live,seen,rep,lim,⟨1,s,q,p⟩⟩) hh2 hh3 h6 h11 h12];rfl))) ZLe.nil))))) (ZLe.cons (A5.eq (show AV.i .i64 (G8 { kind:=(1:Int),sku:={ kind:=(1:Int),sku:=s,qty:=q,past:=p:Actn }.sku,qty:={ kind:=(1:Int),sku:=s,qty:=q,past:=p:Actn }.qty,past:={ kind:=(1:Int),sku:=s,qty:=q,past:=p:Actn }.past:Actn })=AV.i .i64 (B4 { live:=live,seen:=seen,rep:=rep,lim:=lim,act:={ kind:=(1:Int),sku:=s,qty:=q,past:=p:Actn }:Wish }).2 from(by rw[D3 (w:=⟨live,seen,rep,lim,⟨1,s,q,p⟩⟩) hh2 hh3 h6 h11 h12]))) ZLe.nil)))
 refine sK<|sn<|sq<|rA cx [10,11] [10] (fT (A1w ) (fO ((0:Int)≤(1:Int)) (fR (some [AV.fn (Fn.func (154:FuncId)) [] []]) (fR 1 (fT (con154 ({ live:=live,seen:=seen,rep:=rep,lim:=lim,act:={ kind:=(1:Int),sku:={ kind:=(1:Int),sku:=s,qty:=q,past:=p:Actn }.sku,qty:={ kind:=(1:Int),sku:=s,qty:=q,past:=p:Actn }.qty,past:={ kind:=(1:Int),sku:=s,qty:=q,past:=p:Actn }.past:Actn }:Wish }) (by(with_reducible assumption)) (by(with_reducible assumption))) (oA 0 (A95 (A1w )) (oR 3 [.fn (Fn.func (154:FuncId)) [] []] (oA 11 (.tup [.agg [.sl (List.map c46 (U0 { live:=live,seen:=seen,rep:=rep,lim:=lim,act:={ kind:=(1:Int),sku:={ kind:=(1:Int),sku:=s,qty:=q,past:=p:Actn }.sku,qty:={ kind:=(1:Int),sku:=s,qty:=q,past:=p:Actn }.qty,past:={ kind:=(1:Int),sku:=s,qty:=q,past:=p:Actn }.past:Actn }:Wish }).1.adds),.sl (List.map c3 (U0 { live:=live,seen:=seen,rep:=rep,lim:=lim,act:={ kind:=(1:Int),sku:={ kind:=(1:Int),sku:=s,qty:=q,past:=p:Actn }.sku,qty:={ kind:=(1:Int),sku:=s,qty:=q,past:=p:Actn }.qty,past:={ kind:=(1:Int),sku:=s,qty:=q,past:=p:Actn }.past:Actn }:Wish }).1.gone.vec),.sl (List.map B1 (U0 { live:=live,seen:=seen,rep:=rep,lim:=lim,act:={ kind:=(1:Int),sku:={ kind:=(1:Int),sku:=s,qty:=q,past:=p:Actn }.sku,qty:={ kind:=(1:Int),sku:=s,qty:=q,past:=p:Actn }.qty,past:={ kind:=(1:Int),sku:=s,qty:=q,past:=p:Actn }.past:Actn }:Wish }).1.gone.cloud),.sl (List.map c54 (U0 { live:=live,seen:=seen,rep:=rep,lim:=lim,act:={ kind:=(1:Int),sku:={ kind:=(1:Int),sku:=s,qty:=q,past:=p:Actn }.sku,qty:={ kind:=(1:Int),sku:=s,qty:=q,past:=p:Actn }.qty,past:={ kind:=(1:Int),sku:=s,qty:=q,past:=p:Actn }.past:Actn }:Wish }).1.recs)],.i .i64 ((U0 { live:=live,seen:=seen,rep:=rep,lim:=lim,act:={ kind:=(1:Int),sku:={ kind:=(1:Int),sku:=s,qty:=q,past:=p:Actn }.sku,qty:={ kind:=(1:Int),sku:=s,qty:=q,past:=p:Actn }.qty,past:={ kind:=(1:Int),sku:=s,qty:=q,past:=p:Actn }.past:Actn }:Wish }).2)]) z0))))))))<|sn<|rT<|qR (.tup [.agg [.sl (List.map c46 (U0 { live:=live,seen:=seen,rep:=rep,lim:=lim,act:={ kind:=(1:Int),sku:={ kind:=(1:Int),sku:=s,qty:=q,past:=p:Actn }.sku,qty:={ kind:=(1:Int),sku:=s,qty:=q,past:=p:Actn }.qty,past:={ kind:=(1:Int),sku:=s,qty:=q,past:=p:Actn }.past:Actn }:Wish }).1.adds),.sl (List.map c3 (U0 { live:=live,seen:=seen,rep:=rep,lim:=lim,act:={ kind:=(1:Int),sku:={ kind:=(1:Int),sku:=s,qty:=q,past:=p:Actn }.sku,qty:={ kind:=(1:Int),sku:=s,qty:=q,past:=p:Actn }.qty,past:={ kind:=(1:Int),sku:=s,qty:=q,past:=p:Actn }.past:Actn }:Wish }).1.gone.vec),.sl (List.map B1 (U0 { live:=live,seen:=seen,rep:=rep,lim:=lim,act:={ kind:=(1:Int),sku:={ kind:=(1:Int),sku:=s,qty:=q,past:=p:Actn }.sku,qty:={ kind:=(1:Int),sku:=s,qty:=q,past:=p:Actn }.qty,past:={ kind:=(1:Int),sku:=s,qty:=q,past:=p:Actn }.past:Actn }:Wish }).1.gone.cloud),.sl (List.map c54 (U0 { live:=live,seen:=seen,rep:=rep,lim:=lim,act:={ kind:=(1:Int),sku:={ kind:=(1:Int),sku:=s,qty:=q,past:=p:Actn }.sku,qty:={ kind:=(1:Int),sku:=s,qty:=q,past:=p:Actn }.qty,past:={ kind:=(1:Int),sku:=s,qty:=q,past:=p:Actn }.past:Actn }:Wish }).1.recs)],.i .i64 ((U0 { live:=live,seen:=seen,rep:=rep,lim:=lim,act:={ kind:=(1:Int),sku:={ kind:=(1:Int),sku:=s,qty:=q,past:=p:Actn }.sku,qty:={ kind:=(1:Int),sku:=s,qty:=q,past:=p:Actn }.qty,past:={ kind:=(1:Int),sku:=s,qty:=q,past:=p:Actn }.past:Actn }:Wish }).2)]) (A5.tup (ZLe.cons (A5.eq (show AV.agg [AV.sl (List.map c46 (U0 { live:=live,seen:=seen,rep:=rep,lim:=lim,act:={ kind:=(1:Int),sku:={ kind:=(1:Int),sku:=s,qty:=q,past:=p:Actn }.sku,qty:={ kind:=(1:Int),sku:=s,qty:=q,past:=p:Actn }.qty,past:={ kind:=(1:Int),sku:=s,qty:=q,past:=p:Actn }.past:Actn }:Wish }).1.adds),AV.sl (List.map c3 (U0 { live:=live,seen:=seen,rep:=rep,lim:=lim,act:={ kind:=(1:Int),sku:={ kind:=(1:Int),sku:=s,qty:=q,past:=p:Actn }.sku,qty:={ kind:=(1:Int),sku:=s,qty:=q,past:=p:Actn }.qty,past:={ kind:=(1:Int),sku:=s,qty:=q,past:=p:Actn }.past:Actn }:Wish }).1.gone.vec),AV.sl (List.map B1 (U0 { live:=live,seen:=seen,rep:=rep,lim:=lim,act:={ kind:=(1:Int),sku:={ kind:=(1:Int),sku:=s,qty:=q,past:=p:Actn }.sku,qty:={ kind:=(1:Int),sku:=s,qty:=q,past:=p:Actn }.qty,past:={ kind:=(1:Int),sku:=s,qty:=q,past:=p:Actn }.past:Actn }:Wish }).1.gone.cloud),AV.sl (List.map c54 (U0 { live:=live,seen:=seen,rep:=rep,lim:=lim,act:={ kind:=(1:Int),sku:={ kind:=(1:Int),sku:=s,qty:=q,past:=p:Actn }.sku,qty:={ kind:=(1:Int),sku:=s,qty:=q,past:=p:Actn }.qty,past:={ kind:=(1:Int),sku:=s,qty:=q,past:=p:Actn }.past:Actn }:Wish }).1.recs)]=AV.agg [AV.sl (List.map c46 (B4 { live:=live,seen:=seen,rep:=rep,lim:=lim,act:={ kind:=(1:Int),sku:=s,qty:=q,past:=p:Actn }:Wish }).1.adds),AV.sl (List.map c3 (B4 { live:=live,seen:=seen,rep:=rep,lim:=lim,act:={ kind:=(1:Int),sku:=s,qty:=q,past:=p:Actn }:Wish }).1.gone.vec),AV.sl (List.map B1 (B4 { live:=live,seen:=seen,rep:=rep,lim:=lim,act:={ kind:=(1:Int),sku:=s,qty:=q,past:=p:Actn }:Wish }).1.gone.cloud),AV.sl (List.map c54 (B4 { live:=live,seen:=seen,rep:=rep,lim:=lim,act:={ kind:=(1:Int),sku:=s,qty:=q,past:=p:Actn }:Wish }).1.recs)]from(by rw[D9 (w:=⟨live,seen,rep,lim,⟨1,s,q,p⟩⟩) hh2 hh3 h6 h11 h12,Aw9 (w:=⟨live,seen,rep,lim,⟨1,s,q,p⟩⟩) rfl]))) (ZLe.cons (A5.eq (show AV.i .i64 (U0 { live:=live,seen:=seen,rep:=rep,lim:=lim,act:={ kind:=(1:Int),sku:={ kind:=(1:Int),sku:=s,qty:=q,past:=p:Actn }.sku,qty:={ kind:=(1:Int),sku:=s,qty:=q,past:=p:Actn }.qty,past:={ kind:=(1:Int),sku:=s,qty:=q,past:=p:Actn }.past:Actn }:Wish }).2=AV.i .i64 (B4 { live:=live,seen:=seen,rep:=rep,lim:=lim,act:={ kind:=(1:Int),sku:=s,qty:=q,past:=p:Actn }:Wish }).2 from(by rw[D9 (w:=⟨live,seen,rep,lim,⟨1,s,q,p⟩⟩) hh2 hh3 h6 h11 h12,Aw9 (w:=⟨live,seen,rep,lim,⟨1,s,q,p⟩⟩) rfl]))) ZLe.nil)))
theorem B2m(live:List Entry)(seen:Past)(rep:Int)(lim:Limits)(s:ByteArray)(q:Int)(p:Past)(hs:live.length*40≤140737488351232)(hb:szP seen)(hp:szP p):Con Tryz.prog 15 [.sl (live.map c46),.agg (c26 seen),.i .i64 rep,.agg (c28 lim),.agg (c30 ⟨2,s,q,p⟩)] (.tup [.agg (c36 (B4 ⟨live,seen,rep,lim,⟨2,s,q,p⟩⟩).1),.i .i64 (B4 ⟨live,seen,rep,lim,⟨2,s,q,p⟩⟩).2]) :=
 by
 refine lN 0 c46 (live) Tryz.func15 fun hl_0=>sC B3 [.cell 10 36,.tmp 11] 80 Tryz.func15 ?_
 intro e0 cx
 refine sq<|rG cx [0,2,6,8,9,10] [6,8,9,10] z0<|sn<|sq<|sq<|A9 (σ':=⟨[(0,.sl (List.map c46 live)),(2,.i .i64 (rep)),(6,.ptr (6) (0) (0) (0)),(8,.ptr (8) (0) (0) (0)),(9,.ptr (9) (0) (0) (0)),(10,.ptr (10) (0) (0) (0)),(22,.b (decide (¬C1 live=0∨¬seen=A6 seen)))],[(6,⟨0,26,.var [.sl (List.map c3 seen.vec),.sl (List.map B1 seen.cloud)]⟩),(8,⟨0,28,.var [.i .i64 (lim.lines),.i .i64 (lim.count)]⟩),(9,⟨0,30,.var [.i .i64 ((2:Int)),.s ({ kind:=(2:Int),sku:=s,qty:=q,past:=p:Actn }.sku),.i .i64 ({ kind:=(2:Int),sku:=s,qty:=q,past:=p:Actn }.qty),.sl (List.map c3 { kind:=(2:Int),sku:=s,qty:=q,past:=p:Actn }.past.vec),.sl (List.map B1 { kind:=(2:Int),sku:=s,qty:=q,past:=p:Actn }.past.cloud)]⟩),(10,⟨0,36,.var [.nl,.nl,.nl,.nl]⟩)]⟩) ?_ ?_
 refine A4 (¬C1 live=0) (fun hh1=>?_) (fun hh1=>?_)
 refine rG cx [0,2,6,8,9,10,22] [6,8,9,10] (fT (M7 (live)) (tT 2 (G9 hh1:AV.b (C1 live !=0)=AV.b true) (tD 7 true (¬C1 live=0∨¬seen=A6 seen) (by simp only [eq_false hh1,tsl]) (oA 1 (.i .i64 (C1 live)) z0)))) ?_
 exact⟨rfl,by kernel_rfl⟩
 refine rG cx [0,2,6,8,9,10,22] [6,8,9,10] (fT (M7 (live)) (tN 2 (C1 live) (0:Int) (tT 3 (A0 hh1) (fT (A0f (seen) (by exact hb.1)) (tQ 6 (seen=A6 seen) (tT 7 (by first | (simp only [eq_false hh1,tsl];done) | simp_all:AV.b (decide ¬seen=A6 seen)=AV.b (decide (¬C1 live=0∨¬seen=A6 seen))) (oA 1 (.i .i64 (C1 live)) (oA 5 (.b (decide (seen=A6 seen))) z0)))))))) ?_
 exact⟨rfl,by kernel_rfl⟩
 refine sn<|dC (¬C1 live=0∨¬seen=A6 seen) (fun hh2=>?_) fun hh2=>?_
 refine sq<|rG cx [10,11] [10] z0<|sn<|rT<|nR<|qR (.tup [.agg [.nl,.nl,.nl,.nl],.i .i64 ((1:Int))]) (A5.tup (ZLe.cons (A5.agg (ZLe.cons (A5.nl' (show List.map c46 (B4 { live:=live,seen:=seen,rep:=rep,lim:=lim,act:={ kind:=(2:Int),sku:=s,qty:=q,past:=p:Actn }:Wish }).1.adds=[]from(by rw[C2 (w:=⟨live,seen,rep,lim,⟨2,s,q,p⟩⟩) hh2];rfl))) (ZLe.cons (A5.nl' (show List.map c3 (B4 { live:=live,seen:=seen,rep:=rep,lim:=lim,act:={ kind:=(2:Int),sku:=s,qty:=q,past:=p:Actn }:Wish }).1.gone.vec=[]from(by rw[C2 (w:=⟨live,seen,rep,lim,⟨2,s,q,p⟩⟩) hh2];rfl))) (ZLe.cons (A5.nl' (show List.map B1 (B4 { live:=live,seen:=seen,rep:=rep,lim:=lim,act:={ kind:=(2:Int),sku:=s,qty:=q,past:=p:Actn }:Wish }).1.gone.cloud=[]from(by rw[C2 (w:=⟨live,seen,rep,lim,⟨2,s,q,p⟩⟩) hh2];rfl))) (ZLe.cons (A5.nl' (show List.map c54 (B4 { live:=live,seen:=seen,rep:=rep,lim:=lim,act:={ kind:=(2:Int),sku:=s,qty:=q,past:=p:Actn }:Wish }).1.recs=[]from(by rw[C2 (w:=⟨live,seen,rep,lim,⟨2,s,q,p⟩⟩) hh2];rfl))) ZLe.nil))))) (ZLe.cons (A5.eq (show AV.i .i64 1=AV.i .i64 (B4 { live:=live,seen:=seen,rep:=rep,lim:=lim,act:={ kind:=(2:Int),sku:=s,qty:=q,past:=p:Actn }:Wish }).2 from(by rw[C2 (w:=⟨live,seen,rep,lim,⟨2,s,q,p⟩⟩) hh2]))) ZLe.nil)))
 refine sK<|sn<|sq<|sq<|rG cx [0,2,6,8,9,10,12] [6,8,9,10] (fT (Ab6 (live) (seen) (by exact hb.1)) (oA 2 (.tup [.sl (List.map c46 (F0 live seen false).1),.i .i64 ((F0 live seen false).2)]) z0)) ?_
 refine sn<|rD cx [0,2,6,8,9,10,32] [6,8,9,10] (tL 1 c46 ((F0 live seen false).1) (zB 2 ((0:Int) <(↑(F0 live seen false).1.length:Int)))) (fun hh3=>?_) fun hh3=>?_
 refine sq<|rG cx [10,11] [10] z0<|sn<|rT<|nR<|qR (.tup [.agg [.nl,.nl,.nl,.nl],.i .i64 ((1:Int))]) (A5.tup (ZLe.cons (A5.agg (ZLe.cons (A5.nl' (show List.map c46 (B4 { live:=live,seen:=seen,rep:=rep,lim:=lim,act:={ kind:=(2:Int),sku:=s,qty:=q,past:=p:Actn }:Wish }).1.adds=[]from(by rw[C3 (w:=⟨live,seen,rep,lim,⟨2,s,q,p⟩⟩) hh2 hh3];rfl))) (ZLe.cons (A5.nl' (show List.map c3 (B4 { live:=live,seen:=seen,rep:=rep,lim:=lim,act:={ kind:=(2:Int),sku:=s,qty:=q,past:=p:Actn }:Wish }).1.gone.vec=[]from(by rw[C3 (w:=⟨live,seen,rep,lim,⟨2,s,q,p⟩⟩) hh2 hh3];rfl))) (ZLe.cons (A5.nl' (show List.map B1 (B4 { live:=live,seen:=seen,rep:=rep,lim:=lim,act:={ kind:=(2:Int),sku:=s,qty:=q,past:=p:Actn }:Wish }).1.gone.cloud=[]from(by rw[C3 (w:=⟨live,seen,rep,lim,⟨2,s,q,p⟩⟩) hh2 hh3];rfl))) (ZLe.cons (A5.nl' (show List.map c54 (B4 { live:=live,seen:=seen,rep:=rep,lim:=lim,act:={ kind:=(2:Int),sku:=s,qty:=q,past:=p:Actn }:Wish }).1.recs=[]from(by rw[C3 (w:=⟨live,seen,rep,lim,⟨2,s,q,p⟩⟩) hh2 hh3];rfl))) ZLe.nil))))) (ZLe.cons (A5.eq (show AV.i .i64 1=AV.i .i64 (B4 { live:=live,seen:=seen,rep:=rep,lim:=lim,act:={ kind:=(2:Int),sku:=s,qty:=q,past:=p:Actn }:Wish }).2 from(by rw[C3 (w:=⟨live,seen,rep,lim,⟨2,s,q,p⟩⟩) hh2 hh3]))) ZLe.nil)))
 refine sK<|sn<|sq<|sq<|A9 (σ':=⟨[(0,.sl (List.map c46 live)),(2,.i .i64 (rep)),(6,.ptr (6) (0) (0) (0)),(8,.ptr (8) (0) (0) (0)),(9,.ptr (9) (0) (0) (0)),(10,.ptr (10) (0) (0) (0)),(39,.b (decide (rep <(0:Int)∨16≤rep)))],[(6,⟨0,26,.var [.sl (List.map c3 seen.vec),.sl (List.map B1 seen.cloud)]⟩),(8,⟨0,28,.var [.i .i64 (lim.lines),.i .i64 (lim.count)]⟩),(9,⟨0,30,.var [.i .i64 ((2:Int)),.s ({ kind:=(2:Int),sku:=s,qty:=q,past:=p:Actn }.sku),.i .i64 ({ kind:=(2:Int),sku:=s,qty:=q,past:=p:Actn }.qty),.sl (List.map c3 { kind:=(2:Int),sku:=s,qty:=q,past:=p:Actn }.past.vec),.sl (List.map B1 { kind:=(2:Int),sku:=s,qty:=q,past:=p:Actn }.past.cloud)]⟩),(10,⟨0,36,.var [.nl,.nl,.nl,.nl]⟩)]⟩) ?_ ?_
 refine A4 (rep <(0:Int)) (fun h_5=>?_) (fun h_5=>?_)
 refine rG cx [0,2,6,8,9,10,39] [6,8,9,10] (tT 1 (A3 h_5) (tD 5 true (rep <(0:Int)∨16≤rep) (by simp only [eq_true h_5,tsl]) z0)) ?_
 exact⟨rfl,by kernel_rfl⟩
 refine rG cx [0,2,6,8,9,10,39] [6,8,9,10] (tT 1 (A0 h_5) (tB 4 (16≤rep) (tD 5 (decide (16≤rep)) (rep <(0:Int)∨16≤rep) (by simp only [eq_false h_5,tsl]) z0))) ?_
 exact⟨rfl,by kernel_rfl⟩
 refine sn<|dC (rep <(0:Int)∨16≤rep) (fun h6=>?_) fun h6=>?_
 refine sq<|rG cx [10,11] [10] z0<|sn<|rT<|nR<|qR (.tup [.agg [.nl,.nl,.nl,.nl],.i .i64 ((3:Int))]) (A5.tup (ZLe.cons (A5.agg (ZLe.cons (A5.nl' (show List.map c46 (B4 { live:=live,seen:=seen,rep:=rep,lim:=lim,act:={ kind:=(2:Int),sku:=s,qty:=q,past:=p:Actn }:Wish }).1.adds=[]from(by rw[C9 (w:=⟨live,seen,rep,lim,⟨2,s,q,p⟩⟩) hh2 hh3 h6];rfl))) (ZLe.cons (A5.nl' (show List.map c3 (B4 { live:=live,seen:=seen,rep:=rep,lim:=lim,act:={ kind:=(2:Int),sku:=s,qty:=q,past:=p:Actn }:Wish }).1.gone.vec=[]from(by rw[C9 (w:=⟨live,seen,rep,lim,⟨2,s,q,p⟩⟩) hh2 hh3 h6];rfl))) (ZLe.cons (A5.nl' (show List.map B1 (B4 { live:=live,seen:=seen,rep:=rep,lim:=lim,act:={ kind:=(2:Int),sku:=s,qty:=q,past:=p:Actn }:Wish }).1.gone.cloud=[]from(by rw[C9 (w:=⟨live,seen,rep,lim,⟨2,s,q,p⟩⟩) hh2 hh3 h6];rfl))) (ZLe.cons (A5.nl' (show List.map c54 (B4 { live:=live,seen:=seen,rep:=rep,lim:=lim,act:={ kind:=(2:Int),sku:=s,qty:=q,past:=p:Actn }:Wish }).1.recs=[]from(by rw[C9 (w:=⟨live,seen,rep,lim,⟨2,s,q,p⟩⟩) hh2 hh3 h6];rfl))) ZLe.nil))))) (ZLe.cons (A5.eq (show AV.i .i64 3=AV.i .i64 (B4 { live:=live,seen:=seen,rep:=rep,lim:=lim,act:={ kind:=(2:Int),sku:=s,qty:=q,past:=p:Actn }:Wish }).2 from(by rw[C9 (w:=⟨live,seen,rep,lim,⟨2,s,q,p⟩⟩) hh2 hh3 h6]))) ZLe.nil)))
 refine sK<|sn<|sq<|sq<|A9 (σ':=⟨[(0,.sl (List.map c46 live)),(2,.i .i64 (rep)),(6,.ptr (6) (0) (0) (0)),(8,.ptr (8) (0) (0) (0)),(9,.ptr (9) (0) (0) (0)),(10,.ptr (10) (0) (0) (0)),(58,.b (decide (lim.lines <(1:Int)∨(1000:Int) < lim.lines∨lim.count <(1:Int)∨(1000000000:Int) < lim.count)))],[(6,⟨0,26,.var [.sl (List.map c3 seen.vec),.sl (List.map B1 seen.cloud)]⟩),(8,⟨0,28,.var [.i .i64 (lim.lines),.i .i64 (lim.count)]⟩),(9,⟨0,30,.var [.i .i64 ((2:Int)),.s ({ kind:=(2:Int),sku:=s,qty:=q,past:=p:Actn }.sku),.i .i64 ({ kind:=(2:Int),sku:=s,qty:=q,past:=p:Actn }.qty),.sl (List.map c3 { kind:=(2:Int),sku:=s,qty:=q,past:=p:Actn }.past.vec),.sl (List.map B1 { kind:=(2:Int),sku:=s,qty:=q,past:=p:Actn }.past.cloud)]⟩),(10,⟨0,36,.var [.nl,.nl,.nl,.nl]⟩)]⟩) ?_ ?_
 refine A4 (lim.lines <(1:Int)) (fun h_8=>?_) (fun h_8=>?_)
 refine rG cx [0,2,6,8,9,10,58] [6,8,9,10] (tT 2 (A3 h_8) (tD 17 true (lim.lines <(1:Int)∨(1000:Int) < lim.lines∨lim.count <(1:Int)∨(1000000000:Int) < lim.count) (by simp only [eq_true h_8,tsl]) z0)) ?_
 exact⟨rfl,by kernel_rfl⟩
 refine A4 ((1000:Int) < lim.lines) (fun h_9=>?_) (fun h_9=>?_)
 refine rG cx [0,2,6,8,9,10,58] [6,8,9,10] (tT 2 (A0 h_8) (tT 6 (A3 h_9) (tD 17 true (lim.lines <(1:Int)∨(1000:Int) < lim.lines∨lim.count <(1:Int)∨(1000000000:Int) < lim.count) (by simp only [eq_false h_8,eq_true h_9,tsl]) z0))) ?_
 exact⟨rfl,by kernel_rfl⟩
 refine A4 (lim.count <(1:Int)) (fun h_10=>?_) (fun h_10=>?_)
 refine rG cx [0,2,6,8,9,10,58] [6,8,9,10] (tT 2 (A0 h_8) (tT 6 (A0 h_9) (tT 11 (A3 h_10) (tD 17 true (lim.lines <(1:Int)∨(1000:Int) < lim.lines∨lim.count <(1:Int)∨(1000000000:Int) < lim.count) (by simp only [eq_false h_8,eq_false h_9,eq_true h_10,tsl]) z0)))) ?_
 exact⟨rfl,by kernel_rfl⟩
 refine rG cx [0,2,6,8,9,10,58] [6,8,9,10] (tT 2 (A0 h_8) (tT 6 (A0 h_9) (tT 11 (A0 h_10) (tB 16 ((1000000000:Int) < lim.count) (tD 17 (decide ((1000000000:Int) < lim.count)) (lim.lines <(1:Int)∨(1000:Int) < lim.lines∨lim.count <(1:Int)∨(1000000000:Int) < lim.count) (by simp only [eq_false h_8,eq_false h_9,eq_false h_10,tsl]) z0))))) ?_
 exact⟨rfl,by kernel_rfl⟩
 refine sn<|dC (lim.lines <(1:Int)∨(1000:Int) < lim.lines∨lim.count <(1:Int)∨(1000000000:Int) < lim.count) (fun h11=>?_) fun h11=>?_
 refine sq<|rG cx [10,11] [10] z0<|sn<|rT<|nR<|qR (.tup [.agg [.nl,.nl,.nl,.nl],.i .i64 ((2:Int))]) (A5.tup (ZLe.cons (A5.agg (ZLe.cons (A5.nl' (show List.map c46 (B4 { live:=live,seen:=seen,rep:=rep,lim:=lim,act:={ kind:=(2:Int),sku:=s,qty:=q,past:=p:Actn }:Wish }).1.adds=[]from(by rw[D0 (w:=⟨live,seen,rep,lim,⟨2,s,q,p⟩⟩) hh2 hh3 h6 h11];rfl))) (ZLe.cons (A5.nl' (show List.map c3 (B4 { live:=live,seen:=seen,rep:=rep,lim:=lim,act:={ kind:=(2:Int),sku:=s,qty:=q,past:=p:Actn }:Wish }).1.gone.vec=[]from(by rw[D0 (w:=⟨live,seen,rep,lim,⟨2,s,q,p⟩⟩) hh2 hh3 h6 h11];rfl))) (ZLe.cons (A5.nl' (show List.map B1 (B4 { live:=live,seen:=seen,rep:=rep,lim:=lim,act:={ kind:=(2:Int),sku:=s,qty:=q,past:=p:Actn }:Wish }).1.gone.cloud=[]from(by rw[D0 (w:=⟨live,seen,rep,lim,⟨2,s,q,p⟩⟩) hh2 hh3 h6 h11];rfl))) (ZLe.cons (A5.nl' (show List.map c54 (B4 { live:=live,seen:=seen,rep:=rep,lim:=lim,act:={ kind:=(2:Int),sku:=s,qty:=q,past:=p:Actn }:Wish }).1.recs=[]from(by rw[D0 (w:=⟨live,seen,rep,lim,⟨2,s,q,p⟩⟩) hh2 hh3 h6 h11];rfl))) ZLe.nil))))) (ZLe.cons (A5.eq (show AV.i .i64 2=AV.i .i64 (B4 { live:=live,seen:=seen,rep:=rep,lim:=lim,act:={ kind:=(2:Int),sku:=s,qty:=q,past:=p:Actn }:Wish }).2 from(by rw[D0 (w:=⟨live,seen,rep,lim,⟨2,s,q,p⟩⟩) hh2 hh3 h6 h11]))) ZLe.nil)))
 refine sK<|sn<|sq<|sq<|rG cx [0,2,6,8,9,10,14] [6,8,9,10] (fT (Aa7 ({ kind:=(2:Int),sku:={ kind:=(2:Int),sku:=s,qty:=q,past:=p:Actn }.sku,qty:={ kind:=(2:Int),sku:=s,qty:=q,past:=p:Actn }.qty,past:={ kind:=(2:Int),sku:=s,qty:=q,past:=p:Actn }.past:Actn }) (by(with_reducible assumption))) (oA 1 (.i .i64 (G8 { kind:=(2:Int),sku:={ kind:=(2:Int),sku:=s,qty:=q,past:=p:Actn }.sku,qty:={ kind:=(2:Int),sku:=s,qty:=q,past:=p:Actn }.qty,past:={ kind:=(2:Int),sku:=s,qty:=q,past:=p:Actn }.past:Actn })) z0))<|sn<|sq<|rG cx [0,2,6,8,9,10,14,63] [6,8,9,10] (tN 1 (G8 { kind:=(2:Int),sku:={ kind:=(2:Int),sku:=s,qty:=q,past:=p:Actn }.sku,qty:={ kind:=(2:Int),sku:=s,qty:=q,past:=p:Actn }.qty,past:={ kind:=(2:Int),sku:=s,qty:=q,past:=p:Actn }.past:Actn }) (0:Int) z0)<|sn<|dC (¬G8 { kind:=(2:Int),sku:={ kind:=(2:Int),sku:=s,qty:=q,past:=p:Actn }.sku,qty:={ kind:=(2:Int),sku:=s,qty:=q,past:=p:Actn }.qty,past:={ kind:=(2:Int),sku:=s,qty:=q,past:=p:Actn }.past:Actn }=(0:Int)) (fun h12=>?_) fun h12=>?_
 refine sq<|rG cx [10,11] [10] z0<|sn<|rT<|nR<|qR (.tup [.agg [.nl,.nl,.nl,.nl],.i .i64 (G8 { kind:=(2:Int),sku:={ kind:=(2:Int),sku:=s,qty:=q,past:=p:Actn }.sku,qty:={ kind:=(2:Int),sku:=s,qty:=q,past:=p:Actn }.qty,past:={ kind:=(2:Int),sku:=s,qty:=q,past:=p:Actn }.past:Actn })]) (A5.tup (ZLe.cons (A5.agg (ZLe.cons (A5.nl' (show List.map c46 (B4 { live:=live,seen:=seen,rep:=rep,lim:=lim,act:={ kind:=(2:Int),sku:=s,qty:=q,past:=p:Actn }:Wish }).1.adds=[]from(by rw[D3 (w:=⟨live,seen,rep,lim,⟨2,s,q,p⟩⟩) hh2 hh3 h6 h11 h12];rfl))) (ZLe.cons (A5.nl' (show List.map c3 (B4 { live:=live,seen:=seen,rep:=rep,lim:=lim,act:={ kind:=(2:Int),sku:=s,qty:=q,past:=p:Actn }:Wish }).1.gone.vec=[]from(by rw[D3 (w:=⟨live,seen,rep,lim,⟨2,s,q,p⟩⟩) hh2 hh3 h6 h11 h12];rfl))) (ZLe.cons (A5.nl' (show List.map B1 (B4 { live:=live,seen:=seen,rep:=rep,lim:=lim,act:={ kind:=(2:Int),sku:=s,qty:=q,past:=p:Actn }:Wish }).1.gone.cloud=[]from(by rw[D3 (w:=⟨live,seen,rep,lim,⟨2,s,q,p⟩⟩) hh2 hh3 h6 h11 h12];rfl))) (ZLe.cons (A5.nl' (show List.map c54 (B4 { live:=live,seen:=seen,rep:=rep,lim:=lim,act:={ kind:=(2:Int),sku:=s,qty:=q,past:=p:Actn }:Wish }).1.recs=[]from(by rw[D3 (w:=⟨live,seen,rep,lim,⟨2,s,q,p⟩⟩) hh2 hh3 h6 h11 h12];rfl))) ZLe.nil))))) (ZLe.cons (A5.eq (show AV.i .i64 (G8 { kind:=(2:Int),sku:={ kind:=(2:Int),sku:=s,qty:=q,past:=p:Actn }.sku,qty:={ kind:=(2:Int),sku:=s,qty:=q,past:=p:Actn }.qty,past:={ kind:=(2:Int),sku:=s,qty:=q,past:=p:Actn }.past:Actn })=AV.i .i64 (B4 { live:=live,seen:=seen,rep:=rep,lim:=lim,act:={ kind:=(2:Int),sku:=s,qty:=q,past:=p:Actn }:Wish }).2 from(by rw[D3 (w:=⟨live,seen,rep,lim,⟨2,s,q,p⟩⟩) hh2 hh3 h6 h11 h12]))) ZLe.nil)))
 refine sK<|sn<|sq<|rA cx [10,11] [10] (fT (A1w ) (fO ((0:Int)≤(2:Int)) (fR (some [AV.fn (Fn.func (155:FuncId)) [] []]) (fR 1 (fT (con155 ({ live:=live,seen:=seen,rep:=rep,lim:=lim,act:={ kind:=(2:Int),sku:={ kind:=(2:Int),sku:=s,qty:=q,past:=p:Actn }.sku,qty:={ kind:=(2:Int),sku:=s,qty:=q,past:=p:Actn }.qty,past:={ kind:=(2:Int),sku:=s,qty:=q,past:=p:Actn }.past:Actn }:Wish }) (by(with_reducible assumption)) (by(with_reducible assumption)) (by exact Aw8 h12 (.inr rfl))) (oA 0 (A95 (A1w )) (oR 3 [.fn (Fn.func (155:FuncId)) [] []] (oA 11 (.tup [.agg [.sl (List.map c46 (M1 { live:=live,seen:=seen,rep:=rep,lim:=lim,act:={ kind:=(2:Int),sku:={ kind:=(2:Int),sku:=s,qty:=q,past:=p:Actn }.sku,qty:={ kind:=(2:Int),sku:=s,qty:=q,past:=p:Actn }.qty,past:={ kind:=(2:Int),sku:=s,qty:=q,past:=p:Actn }.past:Actn }:Wish }).1.adds),.sl (List.map c3 (M1 { live:=live,seen:=seen,rep:=rep,lim:=lim,act:={ kind:=(2:Int),sku:={ kind:=(2:Int),sku:=s,qty:=q,past:=p:Actn }.sku,qty:={ kind:=(2:Int),sku:=s,qty:=q,past:=p:Actn }.qty,past:={ kind:=(2:Int),sku:=s,qty:=q,past:=p:Actn }.past:Actn }:Wish }).1.gone.vec),.sl (List.map B1 (M1 { live:=live,seen:=seen,rep:=rep,lim:=lim,act:={ kind:=(2:Int),sku:={ kind:=(2:Int),sku:=s,qty:=q,past:=p:Actn }.sku,qty:={ kind:=(2:Int),sku:=s,qty:=q,past:=p:Actn }.qty,past:={ kind:=(2:Int),sku:=s,qty:=q,past:=p:Actn }.past:Actn }:Wish }).1.gone.cloud),.sl (List.map c54 (M1 { live:=live,seen:=seen,rep:=rep,lim:=lim,act:={ kind:=(2:Int),sku:={ kind:=(2:Int),sku:=s,qty:=q,past:=p:Actn }.sku,qty:={ kind:=(2:Int),sku:=s,qty:=q,past:=p:Actn }.qty,past:={ kind:=(2:Int),sku:=s,qty:=q,past:=p:Actn }.past:Actn }:Wish }).1.recs)],.i .i64 ((M1 { live:=live,seen:=seen,rep:=rep,lim:=lim,act:={ kind:=(2:Int),sku:={ kind:=(2:Int),sku:=s,qty:=q,past:=p:Actn }.sku,qty:={ kind:=(2:Int),sku:=s,qty:=q,past:=p:Actn }.qty,past:={ kind:=(2:Int),sku:=s,qty:=q,past:=p:Actn }.past:Actn }:Wish }).2)]) z0)))))))) ?_
 refine sn<|rT<|qR (.tup [.agg [.sl (List.map c46 (M1 { live:=live,seen:=seen,rep:=rep,lim:=lim,act:={ kind:=(2:Int),sku:={ kind:=(2:Int),sku:=s,qty:=q,past:=p:Actn }.sku,qty:={ kind:=(2:Int),sku:=s,qty:=q,past:=p:Actn }.qty,past:={ kind:=(2:Int),sku:=s,qty:=q,past:=p:Actn }.past:Actn }:Wish }).1.adds),.sl (List.map c3 (M1 { live:=live,seen:=seen,rep:=rep,lim:=lim,act:={ kind:=(2:Int),sku:={ kind:=(2:Int),sku:=s,qty:=q,past:=p:Actn }.sku,qty:={ kind:=(2:Int),sku:=s,qty:=q,past:=p:Actn }.qty,past:={ kind:=(2:Int),sku:=s,qty:=q,past:=p:Actn }.past:Actn }:Wish }).1.gone.vec),.sl (List.map B1 (M1 { live:=live,seen:=seen,rep:=rep,lim:=lim,act:={ kind:=(2:Int),sku:={ kind:=(2:Int),sku:=s,qty:=q,past:=p:Actn }.sku,qty:={ kind:=(2:Int),sku:=s,qty:=q,past:=p:Actn }.qty,past:={ kind:=(2:Int),sku:=s,qty:=q,past:=p:Actn }.past:Actn }:Wish }).1.gone.cloud),.sl (List.map c54 (M1 { live:=live,seen:=seen,rep:=rep,lim:=lim,act:={ kind:=(2:Int),sku:={ kind:=(2:Int),sku:=s,qty:=q,past:=p:Actn }.sku,qty:={ kind:=(2:Int),sku:=s,qty:=q,past:=p:Actn }.qty,past:={ kind:=(2:Int),sku:=s,qty:=q,past:=p:Actn }.past:Actn }:Wish }).1.recs)],.i .i64 ((M1 { live:=live,seen:=seen,rep:=rep,lim:=lim,act:={ kind:=(2:Int),sku:={ kind:=(2:Int),sku:=s,qty:=q,past:=p:Actn }.sku,qty:={ kind:=(2:Int),sku:=s,qty:=q,past:=p:Actn }.qty,past:={ kind:=(2:Int),sku:=s,qty:=q,past:=p:Actn }.past:Actn }:Wish }).2)]) (A5.tup (ZLe.cons (A5.eq (show AV.agg [AV.sl (List.map c46 (M1 { live:=live,seen:=seen,rep:=rep,lim:=lim,act:={ kind:=(2:Int),sku:={ kind:=(2:Int),sku:=s,qty:=q,past:=p:Actn }.sku,qty:={ kind:=(2:Int),sku:=s,qty:=q,past:=p:Actn }.qty,past:={ kind:=(2:Int),sku:=s,qty:=q,past:=p:Actn }.past:Actn }:Wish }).1.adds),AV.sl (List.map c3 (M1 { live:=live,seen:=seen,rep:=rep,lim:=lim,act:={ kind:=(2:Int),sku:={ kind:=(2:Int),sku:=s,qty:=q,past:=p:Actn }.sku,qty:={ kind:=(2:Int),sku:=s,qty:=q,past:=p:Actn }.qty,past:={ kind:=(2:Int),sku:=s,qty:=q,past:=p:Actn }.past:Actn }:Wish }).1.gone.vec),AV.sl (List.map B1 (M1 { live:=live,seen:=seen,rep:=rep,lim:=lim,act:={ kind:=(2:Int),sku:={ kind:=(2:Int),sku:=s,qty:=q,past:=p:Actn }.sku,qty:={ kind:=(2:Int),sku:=s,qty:=q,past:=p:Actn }.qty,past:={ kind:=(2:Int),sku:=s,qty:=q,past:=p:Actn }.past:Actn }:Wish }).1.gone.cloud),AV.sl (List.map c54 (M1 { live:=live,seen:=seen,rep:=rep,lim:=lim,act:={ kind:=(2:Int),sku:={ kind:=(2:Int),sku:=s,qty:=q,past:=p:Actn }.sku,qty:={ kind:=(2:Int),sku:=s,qty:=q,past:=p:Actn }.qty,past:={ kind:=(2:Int),sku:=s,qty:=q,past:=p:Actn }.past:Actn }:Wish }).1.recs)]=AV.agg [AV.sl (List.map c46 (B4 { live:=live,seen:=seen,rep:=rep,lim:=lim,act:={ kind:=(2:Int),sku:=s,qty:=q,past:=p:Actn }:Wish }).1.adds),AV.sl (List.map c3 (B4 { live:=live,seen:=seen,rep:=rep,lim:=lim,act:={ kind:=(2:Int),sku:=s,qty:=q,past:=p:Actn }:Wish }).1.gone.vec),AV.sl (List.map B1 (B4 { live:=live,seen:=seen,rep:=rep,lim:=lim,act:={ kind:=(2:Int),sku:=s,qty:=q,past:=p:Actn }:Wish }).1.gone.cloud),AV.sl (List.map c54 (B4 { live:=live,seen:=seen,rep:=rep,lim:=lim,act:={ kind:=(2:Int),sku:=s,qty:=q,past:=p:Actn }:Wish }).1.recs)]from(by rw[D9 (w:=⟨live,seen,rep,lim,⟨2,s,q,p⟩⟩) hh2 hh3 h6 h11 h12,Ax0 (w:=⟨live,seen,rep,lim,⟨2,s,q,p⟩⟩) rfl]))) (ZLe.cons (A5.eq (show AV.i .i64 (M1 { live:=live,seen:=seen,rep:=rep,lim:=lim,act:={ kind:=(2:Int),sku:={ kind:=(2:Int),sku:=s,qty:=q,past:=p:Actn }.sku,qty:={ kind:=(2:Int),sku:=s,qty:=q,past:=p:Actn }.qty,past:={ kind:=(2:Int),sku:=s,qty:=q,past:=p:Actn }.past:Actn }:Wish }).2=AV.i .i64 (B4 { live:=live,seen:=seen,rep:=rep,lim:=lim,act:={ kind:=(2:Int),sku:=s,qty:=q,past:=p:Actn }:Wish }).2 from(by rw[D9 (w:=⟨live,seen,rep,lim,⟨2,s,q,p⟩⟩) hh2 hh3 h6 h11 h12,Ax0 (w:=⟨live,seen,rep,lim,⟨2,s,q,p⟩⟩) rfl]))) ZLe.nil)))
theorem B2n(live:List Entry)(seen:Past)(rep:Int)(lim:Limits)(s:ByteArray)(q:Int)(p:Past)(hs:live.length*40≤140737488351232)(hb:szP seen)(hp:szP p):Con Tryz.prog 15 [.sl (live.map c46),.agg (c26 seen),.i .i64 rep,.agg (c28 lim),.agg (c30 ⟨3,s,q,p⟩)] (.tup [.agg (c36 (B4 ⟨live,seen,rep,lim,⟨3,s,q,p⟩⟩).1),.i .i64 (B4 ⟨live,seen,rep,lim,⟨3,s,q,p⟩⟩).2]) :=
 by
 refine lN 0 c46 (live) Tryz.func15 fun hl_0=>sC B3 [.cell 10 36,.tmp 11] 80 Tryz.func15 ?_
 intro e0 cx
 refine sq<|rG cx [0,2,6,8,9,10] [6,8,9,10] z0<|sn<|sq<|sq<|A9 (σ':=⟨[(0,.sl (List.map c46 live)),(2,.i .i64 (rep)),(6,.ptr (6) (0) (0) (0)),(8,.ptr (8) (0) (0) (0)),(9,.ptr (9) (0) (0) (0)),(10,.ptr (10) (0) (0) (0)),(22,.b (decide (¬C1 live=0∨¬seen=A6 seen)))],[(6,⟨0,26,.var [.sl (List.map c3 seen.vec),.sl (List.map B1 seen.cloud)]⟩),(8,⟨0,28,.var [.i .i64 (lim.lines),.i .i64 (lim.count)]⟩),(9,⟨0,30,.var [.i .i64 ((3:Int)),.s ({ kind:=(3:Int),sku:=s,qty:=q,past:=p:Actn }.sku),.i .i64 ({ kind:=(3:Int),sku:=s,qty:=q,past:=p:Actn }.qty),.sl (List.map c3 { kind:=(3:Int),sku:=s,qty:=q,past:=p:Actn }.past.vec),.sl (List.map B1 { kind:=(3:Int),sku:=s,qty:=q,past:=p:Actn }.past.cloud)]⟩),(10,⟨0,36,.var [.nl,.nl,.nl,.nl]⟩)]⟩) ?_ ?_
 refine A4 (¬C1 live=0) (fun hh1=>?_) (fun hh1=>?_)
 refine rG cx [0,2,6,8,9,10,22] [6,8,9,10] (fT (M7 (live)) (tT 2 (G9 hh1:AV.b (C1 live !=0)=AV.b true) (tD 7 true (¬C1 live=0∨¬seen=A6 seen) (by simp only [eq_false hh1,tsl]) (oA 1 (.i .i64 (C1 live)) z0)))) ?_
 exact⟨rfl,by kernel_rfl⟩
 refine rG cx [0,2,6,8,9,10,22] [6,8,9,10] (fT (M7 (live)) (tN 2 (C1 live) (0:Int) (tT 3 (A0 hh1) (fT (A0f (seen) (by exact hb.1)) (tQ 6 (seen=A6 seen) (tT 7 (by first | (simp only [eq_false hh1,tsl];done) | simp_all:AV.b (decide ¬seen=A6 seen)=AV.b (decide (¬C1 live=0∨¬seen=A6 seen))) (oA 1 (.i .i64 (C1 live)) (oA 5 (.b (decide (seen=A6 seen))) z0)))))))) ?_
 exact⟨rfl,by kernel_rfl⟩
 refine sn<|dC (¬C1 live=0∨¬seen=A6 seen) (fun hh2=>?_) fun hh2=>?_
 refine sq<|rG cx [10,11] [10] z0<|sn<|rT<|nR<|qR (.tup [.agg [.nl,.nl,.nl,.nl],.i .i64 ((1:Int))]) (A5.tup (ZLe.cons (A5.agg (ZLe.cons (A5.nl' (show List.map c46 (B4 { live:=live,seen:=seen,rep:=rep,lim:=lim,act:={ kind:=(3:Int),sku:=s,qty:=q,past:=p:Actn }:Wish }).1.adds=[]from(by rw[C2 (w:=⟨live,seen,rep,lim,⟨3,s,q,p⟩⟩) hh2];rfl))) (ZLe.cons (A5.nl' (show List.map c3 (B4 { live:=live,seen:=seen,rep:=rep,lim:=lim,act:={ kind:=(3:Int),sku:=s,qty:=q,past:=p:Actn }:Wish }).1.gone.vec=[]from(by rw[C2 (w:=⟨live,seen,rep,lim,⟨3,s,q,p⟩⟩) hh2];rfl))) (ZLe.cons (A5.nl' (show List.map B1 (B4 { live:=live,seen:=seen,rep:=rep,lim:=lim,act:={ kind:=(3:Int),sku:=s,qty:=q,past:=p:Actn }:Wish }).1.gone.cloud=[]from(by rw[C2 (w:=⟨live,seen,rep,lim,⟨3,s,q,p⟩⟩) hh2];rfl))) (ZLe.cons (A5.nl' (show List.map c54 (B4 { live:=live,seen:=seen,rep:=rep,lim:=lim,act:={ kind:=(3:Int),sku:=s,qty:=q,past:=p:Actn }:Wish }).1.recs=[]from(by rw[C2 (w:=⟨live,seen,rep,lim,⟨3,s,q,p⟩⟩) hh2];rfl))) ZLe.nil))))) (ZLe.cons (A5.eq (show AV.i .i64 1=AV.i .i64 (B4 { live:=live,seen:=seen,rep:=rep,lim:=lim,act:={ kind:=(3:Int),sku:=s,qty:=q,past:=p:Actn }:Wish }).2 from(by rw[C2 (w:=⟨live,seen,rep,lim,⟨3,s,q,p⟩⟩) hh2]))) ZLe.nil)))
 refine sK<|sn<|sq<|sq<|rG cx [0,2,6,8,9,10,12] [6,8,9,10] (fT (Ab6 (live) (seen) (by exact hb.1)) (oA 2 (.tup [.sl (List.map c46 (F0 live seen false).1),.i .i64 ((F0 live seen false).2)]) z0)) ?_
 refine sn<|rD cx [0,2,6,8,9,10,32] [6,8,9,10] (tL 1 c46 ((F0 live seen false).1) (zB 2 ((0:Int) <(↑(F0 live seen false).1.length:Int)))) (fun hh3=>?_) fun hh3=>?_
 refine sq<|rG cx [10,11] [10] z0<|sn<|rT<|nR<|qR (.tup [.agg [.nl,.nl,.nl,.nl],.i .i64 ((1:Int))]) (A5.tup (ZLe.cons (A5.agg (ZLe.cons (A5.nl' (show List.map c46 (B4 { live:=live,seen:=seen,rep:=rep,lim:=lim,act:={ kind:=(3:Int),sku:=s,qty:=q,past:=p:Actn }:Wish }).1.adds=[]from(by rw[C3 (w:=⟨live,seen,rep,lim,⟨3,s,q,p⟩⟩) hh2 hh3];rfl))) (ZLe.cons (A5.nl' (show List.map c3 (B4 { live:=live,seen:=seen,rep:=rep,lim:=lim,act:={ kind:=(3:Int),sku:=s,qty:=q,past:=p:Actn }:Wish }).1.gone.vec=[]from(by rw[C3 (w:=⟨live,seen,rep,lim,⟨3,s,q,p⟩⟩) hh2 hh3];rfl))) (ZLe.cons (A5.nl' (show List.map B1 (B4 { live:=live,seen:=seen,rep:=rep,lim:=lim,act:={ kind:=(3:Int),sku:=s,qty:=q,past:=p:Actn }:Wish }).1.gone.cloud=[]from(by rw[C3 (w:=⟨live,seen,rep,lim,⟨3,s,q,p⟩⟩) hh2 hh3];rfl))) (ZLe.cons (A5.nl' (show List.map c54 (B4 { live:=live,seen:=seen,rep:=rep,lim:=lim,act:={ kind:=(3:Int),sku:=s,qty:=q,past:=p:Actn }:Wish }).1.recs=[]from(by rw[C3 (w:=⟨live,seen,rep,lim,⟨3,s,q,p⟩⟩) hh2 hh3];rfl))) ZLe.nil))))) (ZLe.cons (A5.eq (show AV.i .i64 1=AV.i .i64 (B4 { live:=live,seen:=seen,rep:=rep,lim:=lim,act:={ kind:=(3:Int),sku:=s,qty:=q,past:=p:Actn }:Wish }).2 from(by rw[C3 (w:=⟨live,seen,rep,lim,⟨3,s,q,p⟩⟩) hh2 hh3]))) ZLe.nil)))
 refine sK<|sn<|sq<|sq<|A9 (σ':=⟨[(0,.sl (List.map c46 live)),(2,.i .i64 (rep)),(6,.ptr (6) (0) (0) (0)),(8,.ptr (8) (0) (0) (0)),(9,.ptr (9) (0) (0) (0)),(10,.ptr (10) (0) (0) (0)),(39,.b (decide (rep <(0:Int)∨16≤rep)))],[(6,⟨0,26,.var [.sl (List.map c3 seen.vec),.sl (List.map B1 seen.cloud)]⟩),(8,⟨0,28,.var [.i .i64 (lim.lines),.i .i64 (lim.count)]⟩),(9,⟨0,30,.var [.i .i64 ((3:Int)),.s ({ kind:=(3:Int),sku:=s,qty:=q,past:=p:Actn }.sku),.i .i64 ({ kind:=(3:Int),sku:=s,qty:=q,past:=p:Actn }.qty),.sl (List.map c3 { kind:=(3:Int),sku:=s,qty:=q,past:=p:Actn }.past.vec),.sl (List.map B1 { kind:=(3:Int),sku:=s,qty:=q,past:=p:Actn }.past.cloud)]⟩),(10,⟨0,36,.var [.nl,.nl,.nl,.nl]⟩)]⟩) ?_ ?_
 refine A4 (rep <(0:Int)) (fun h_5=>?_) (fun h_5=>?_)
 refine rG cx [0,2,6,8,9,10,39] [6,8,9,10] (tT 1 (A3 h_5) (tD 5 true (rep <(0:Int)∨16≤rep) (by simp only [eq_true h_5,tsl]) z0)) ?_
 exact⟨rfl,by kernel_rfl⟩
 refine rG cx [0,2,6,8,9,10,39] [6,8,9,10] (tT 1 (A0 h_5) (tB 4 (16≤rep) (tD 5 (decide (16≤rep)) (rep <(0:Int)∨16≤rep) (by simp only [eq_false h_5,tsl]) z0))) ?_
 exact⟨rfl,by kernel_rfl⟩
 refine sn<|dC (rep <(0:Int)∨16≤rep) (fun h6=>?_) fun h6=>?_
 refine sq<|rG cx [10,11] [10] z0<|sn<|rT<|nR<|qR (.tup [.agg [.nl,.nl,.nl,.nl],.i .i64 ((3:Int))]) (A5.tup (ZLe.cons (A5.agg (ZLe.cons (A5.nl' (show List.map c46 (B4 { live:=live,seen:=seen,rep:=rep,lim:=lim,act:={ kind:=(3:Int),sku:=s,qty:=q,past:=p:Actn }:Wish }).1.adds=[]from(by rw[C9 (w:=⟨live,seen,rep,lim,⟨3,s,q,p⟩⟩) hh2 hh3 h6];rfl))) (ZLe.cons (A5.nl' (show List.map c3 (B4 { live:=live,seen:=seen,rep:=rep,lim:=lim,act:={ kind:=(3:Int),sku:=s,qty:=q,past:=p:Actn }:Wish }).1.gone.vec=[]from(by rw[C9 (w:=⟨live,seen,rep,lim,⟨3,s,q,p⟩⟩) hh2 hh3 h6];rfl))) (ZLe.cons (A5.nl' (show List.map B1 (B4 { live:=live,seen:=seen,rep:=rep,lim:=lim,act:={ kind:=(3:Int),sku:=s,qty:=q,past:=p:Actn }:Wish }).1.gone.cloud=[]from(by rw[C9 (w:=⟨live,seen,rep,lim,⟨3,s,q,p⟩⟩) hh2 hh3 h6];rfl))) (ZLe.cons (A5.nl' (show List.map c54 (B4 { live:=live,seen:=seen,rep:=rep,lim:=lim,act:={ kind:=(3:Int),sku:=s,qty:=q,past:=p:Actn }:Wish }).1.recs=[]from(by rw[C9 (w:=⟨live,seen,rep,lim,⟨3,s,q,p⟩⟩) hh2 hh3 h6];rfl))) ZLe.nil))))) (ZLe.cons (A5.eq (show AV.i .i64 3=AV.i .i64 (B4 { live:=live,seen:=seen,rep:=rep,lim:=lim,act:={ kind:=(3:Int),sku:=s,qty:=q,past:=p:Actn }:Wish }).2 from(by rw[C9 (w:=⟨live,seen,rep,lim,⟨3,s,q,p⟩⟩) hh2 hh3 h6]))) ZLe.nil)))
 refine sK<|sn<|sq<|sq<|A9 (σ':=⟨[(0,.sl (List.map c46 live)),(2,.i .i64 (rep)),(6,.ptr (6) (0) (0) (0)),(8,.ptr (8) (0) (0) (0)),(9,.ptr (9) (0) (0) (0)),(10,.ptr (10) (0) (0) (0)),(58,.b (decide (lim.lines <(1:Int)∨(1000:Int) < lim.lines∨lim.count <(1:Int)∨(1000000000:Int) < lim.count)))],[(6,⟨0,26,.var [.sl (List.map c3 seen.vec),.sl (List.map B1 seen.cloud)]⟩),(8,⟨0,28,.var [.i .i64 (lim.lines),.i .i64 (lim.count)]⟩),(9,⟨0,30,.var [.i .i64 ((3:Int)),.s ({ kind:=(3:Int),sku:=s,qty:=q,past:=p:Actn }.sku),.i .i64 ({ kind:=(3:Int),sku:=s,qty:=q,past:=p:Actn }.qty),.sl (List.map c3 { kind:=(3:Int),sku:=s,qty:=q,past:=p:Actn }.past.vec),.sl (List.map B1 { kind:=(3:Int),sku:=s,qty:=q,past:=p:Actn }.past.cloud)]⟩),(10,⟨0,36,.var [.nl,.nl,.nl,.nl]⟩)]⟩) ?_ ?_
 refine A4 (lim.lines <(1:Int)) (fun h_8=>?_) (fun h_8=>?_)
 refine rG cx [0,2,6,8,9,10,58] [6,8,9,10] (tT 2 (A3 h_8) (tD 17 true (lim.lines <(1:Int)∨(1000:Int) < lim.lines∨lim.count <(1:Int)∨(1000000000:Int) < lim.count) (by simp only [eq_true h_8,tsl]) z0)) ?_
 exact⟨rfl,by kernel_rfl⟩
 refine A4 ((1000:Int) < lim.lines) (fun h_9=>?_) (fun h_9=>?_)
 refine rG cx [0,2,6,8,9,10,58] [6,8,9,10] (tT 2 (A0 h_8) (tT 6 (A3 h_9) (tD 17 true (lim.lines <(1:Int)∨(1000:Int) < lim.lines∨lim.count <(1:Int)∨(1000000000:Int) < lim.count) (by simp only [eq_false h_8,eq_true h_9,tsl]) z0))) ?_
 exact⟨rfl,by kernel_rfl⟩
 refine A4 (lim.count <(1:Int)) (fun h_10=>?_) (fun h_10=>?_)
 refine rG cx [0,2,6,8,9,10,58] [6,8,9,10] (tT 2 (A0 h_8) (tT 6 (A0 h_9) (tT 11 (A3 h_10) (tD 17 true (lim.lines <(1:Int)∨(1000:Int) < lim.lines∨lim.count <(1:Int)∨(1000000000:Int) < lim.count) (by simp only [eq_false h_8,eq_false h_9,eq_true h_10,tsl]) z0)))) ?_
 exact⟨rfl,by kernel_rfl⟩
 refine rG cx [0,2,6,8,9,10,58] [6,8,9,10] (tT 2 (A0 h_8) (tT 6 (A0 h_9) (tT 11 (A0 h_10) (tB 16 ((1000000000:Int) < lim.count) (tD 17 (decide ((1000000000:Int) < lim.count)) (lim.lines <(1:Int)∨(1000:Int) < lim.lines∨lim.count <(1:Int)∨(1000000000:Int) < lim.count) (by simp only [eq_false h_8,eq_false h_9,eq_false h_10,tsl]) z0))))) ?_
 exact⟨rfl,by kernel_rfl⟩
 refine sn<|dC (lim.lines <(1:Int)∨(1000:Int) < lim.lines∨lim.count <(1:Int)∨(1000000000:Int) < lim.count) (fun h11=>?_) fun h11=>?_
 refine sq<|rG cx [10,11] [10] z0<|sn<|rT<|nR<|qR (.tup [.agg [.nl,.nl,.nl,.nl],.i .i64 ((2:Int))]) (A5.tup (ZLe.cons (A5.agg (ZLe.cons (A5.nl' (show List.map c46 (B4 { live:=live,seen:=seen,rep:=rep,lim:=lim,act:={ kind:=(3:Int),sku:=s,qty:=q,past:=p:Actn }:Wish }).1.adds=[]from(by rw[D0 (w:=⟨live,seen,rep,lim,⟨3,s,q,p⟩⟩) hh2 hh3 h6 h11];rfl))) (ZLe.cons (A5.nl' (show List.map c3 (B4 { live:=live,seen:=seen,rep:=rep,lim:=lim,act:={ kind:=(3:Int),sku:=s,qty:=q,past:=p:Actn }:Wish }).1.gone.vec=[]from(by rw[D0 (w:=⟨live,seen,rep,lim,⟨3,s,q,p⟩⟩) hh2 hh3 h6 h11];rfl))) (ZLe.cons (A5.nl' (show List.map B1 (B4 { live:=live,seen:=seen,rep:=rep,lim:=lim,act:={ kind:=(3:Int),sku:=s,qty:=q,past:=p:Actn }:Wish }).1.gone.cloud=[]from(by rw[D0 (w:=⟨live,seen,rep,lim,⟨3,s,q,p⟩⟩) hh2 hh3 h6 h11];rfl))) (ZLe.cons (A5.nl' (show List.map c54 (B4 { live:=live,seen:=seen,rep:=rep,lim:=lim,act:={ kind:=(3:Int),sku:=s,qty:=q,past:=p:Actn }:Wish }).1.recs=[]from(by rw[D0 (w:=⟨live,seen,rep,lim,⟨3,s,q,p⟩⟩) hh2 hh3 h6 h11];rfl))) ZLe.nil))))) (ZLe.cons (A5.eq (show AV.i .i64 2=AV.i .i64 (B4 { live:=live,seen:=seen,rep:=rep,lim:=lim,act:={ kind:=(3:Int),sku:=s,qty:=q,past:=p:Actn }:Wish }).2 from(by rw[D0 (w:=⟨live,seen,rep,lim,⟨3,s,q,p⟩⟩) hh2 hh3 h6 h11]))) ZLe.nil)))
 refine sK<|sn<|sq<|sq<|rG cx [0,2,6,8,9,10,14] [6,8,9,10] (fT (Aa7 ({ kind:=(3:Int),sku:={ kind:=(3:Int),sku:=s,qty:=q,past:=p:Actn }.sku,qty:={ kind:=(3:Int),sku:=s,qty:=q,past:=p:Actn }.qty,past:={ kind:=(3:Int),sku:=s,qty:=q,past:=p:Actn }.past:Actn }) (by(with_reducible assumption))) (oA 1 (.i .i64 (G8 { kind:=(3:Int),sku:={ kind:=(3:Int),sku:=s,qty:=q,past:=p:Actn }.sku,qty:={ kind:=(3:Int),sku:=s,qty:=q,past:=p:Actn }.qty,past:={ kind:=(3:Int),sku:=s,qty:=q,past:=p:Actn }.past:Actn })) z0))<|sn<|sq<|rG cx [0,2,6,8,9,10,14,63] [6,8,9,10] (tN 1 (G8 { kind:=(3:Int),sku:={ kind:=(3:Int),sku:=s,qty:=q,past:=p:Actn }.sku,qty:={ kind:=(3:Int),sku:=s,qty:=q,past:=p:Actn }.qty,past:={ kind:=(3:Int),sku:=s,qty:=q,past:=p:Actn }.past:Actn }) (0:Int) z0)<|sn<|dC (¬G8 { kind:=(3:Int),sku:={ kind:=(3:Int),sku:=s,qty:=q,past:=p:Actn }.sku,qty:={ kind:=(3:Int),sku:=s,qty:=q,past:=p:Actn }.qty,past:={ kind:=(3:Int),sku:=s,qty:=q,past:=p:Actn }.past:Actn }=(0:Int)) (fun h12=>?_) fun h12=>?_
 refine sq<|rG cx [10,11] [10] z0<|sn<|rT<|nR<|qR (.tup [.agg [.nl,.nl,.nl,.nl],.i .i64 (G8 { kind:=(3:Int),sku:={ kind:=(3:Int),sku:=s,qty:=q,past:=p:Actn }.sku,qty:={ kind:=(3:Int),sku:=s,qty:=q,past:=p:Actn }.qty,past:={ kind:=(3:Int),sku:=s,qty:=q,past:=p:Actn }.past:Actn })]) (A5.tup (ZLe.cons (A5.agg (ZLe.cons (A5.nl' (show List.map c46 (B4 { live:=live,seen:=seen,rep:=rep,lim:=lim,act:={ kind:=(3:Int),sku:=s,qty:=q,past:=p:Actn }:Wish }).1.adds=[]from(by rw[D3 (w:=⟨live,seen,rep,lim,⟨3,s,q,p⟩⟩) hh2 hh3 h6 h11 h12];rfl))) (ZLe.cons (A5.nl' (show List.map c3 (B4 { live:=live,seen:=seen,rep:=rep,lim:=lim,act:={ kind:=(3:Int),sku:=s,qty:=q,past:=p:Actn }:Wish }).1.gone.vec=[]from(by rw[D3 (w:=⟨live,seen,rep,lim,⟨3,s,q,p⟩⟩) hh2 hh3 h6 h11 h12];rfl))) (ZLe.cons (A5.nl' (show List.map B1 (B4 { live:=live,seen:=seen,rep:=rep,lim:=lim,act:={ kind:=(3:Int),sku:=s,qty:=q,past:=p:Actn }:Wish }).1.gone.cloud=[]from(by rw[D3 (w:=⟨live,seen,rep,lim,⟨3,s,q,p⟩⟩) hh2 hh3 h6 h11 h12];rfl))) (ZLe.cons (A5.nl' (show List.map c54 (B4 { live:=live,seen:=seen,rep:=rep,lim:=lim,act:={ kind:=(3:Int),sku:=s,qty:=q,past:=p:Actn }:Wish }).1.recs=[]from(by rw[D3 (w:=⟨live,seen,rep,lim,⟨3,s,q,p⟩⟩) hh2 hh3 h6 h11 h12];rfl))) ZLe.nil))))) (ZLe.cons (A5.eq (show AV.i .i64 (G8 { kind:=(3:Int),sku:={ kind:=(3:Int),sku:=s,qty:=q,past:=p:Actn }.sku,qty:={ kind:=(3:Int),sku:=s,qty:=q,past:=p:Actn }.qty,past:={ kind:=(3:Int),sku:=s,qty:=q,past:=p:Actn }.past:Actn })=AV.i .i64 (B4 { live:=live,seen:=seen,rep:=rep,lim:=lim,act:={ kind:=(3:Int),sku:=s,qty:=q,past:=p:Actn }:Wish }).2 from(by rw[D3 (w:=⟨live,seen,rep,lim,⟨3,s,q,p⟩⟩) hh2 hh3 h6 h11 h12]))) ZLe.nil)))
 refine sK<|sn<|sq<|rA cx [10,11] [10] (fT (A1w ) (fO ((0:Int)≤(3:Int)) (fR (some [AV.fn (Fn.func (156:FuncId)) [] []]) (fR 1 (fT (con156 ({ live:=live,seen:=seen,rep:=rep,lim:=lim,act:={ kind:=(3:Int),sku:={ kind:=(3:Int),sku:=s,qty:=q,past:=p:Actn }.sku,qty:={ kind:=(3:Int),sku:=s,qty:=q,past:=p:Actn }.qty,past:={ kind:=(3:Int),sku:=s,qty:=q,past:=p:Actn }.past:Actn }:Wish }) (by(with_reducible assumption))) (oA 0 (A95 (A1w )) (oR 3 [.fn (Fn.func (156:FuncId)) [] []] (oA 11 (.tup [.agg [.sl (List.map c46 (U1 { live:=live,seen:=seen,rep:=rep,lim:=lim,act:={ kind:=(3:Int),sku:={ kind:=(3:Int),sku:=s,qty:=q,past:=p:Actn }.sku,qty:={ kind:=(3:Int),sku:=s,qty:=q,past:=p:Actn }.qty,past:={ kind:=(3:Int),sku:=s,qty:=q,past:=p:Actn }.past:Actn }:Wish }).1.adds),.sl (List.map c3 (U1 { live:=live,seen:=seen,rep:=rep,lim:=lim,act:={ kind:=(3:Int),sku:={ kind:=(3:Int),sku:=s,qty:=q,past:=p:Actn }.sku,qty:={ kind:=(3:Int),sku:=s,qty:=q,past:=p:Actn }.qty,past:={ kind:=(3:Int),sku:=s,qty:=q,past:=p:Actn }.past:Actn }:Wish }).1.gone.vec),.sl (List.map B1 (U1 { live:=live,seen:=seen,rep:=rep,lim:=lim,act:={ kind:=(3:Int),sku:={ kind:=(3:Int),sku:=s,qty:=q,past:=p:Actn }.sku,qty:={ kind:=(3:Int),sku:=s,qty:=q,past:=p:Actn }.qty,past:={ kind:=(3:Int),sku:=s,qty:=q,past:=p:Actn }.past:Actn }:Wish }).1.gone.cloud),.sl (List.map c54 (U1 { live:=live,seen:=seen,rep:=rep,lim:=lim,act:={ kind:=(3:Int),sku:={ kind:=(3:Int),sku:=s,qty:=q,past:=p:Actn }.sku,qty:={ kind:=(3:Int),sku:=s,qty:=q,past:=p:Actn }.qty,past:={ kind:=(3:Int),sku:=s,qty:=q,past:=p:Actn }.past:Actn }:Wish }).1.recs)],.i .i64 ((U1 { live:=live,seen:=seen,rep:=rep,lim:=lim,act:={ kind:=(3:Int),sku:={ kind:=(3:Int),sku:=s,qty:=q,past:=p:Actn }.sku,qty:={ kind:=(3:Int),sku:=s,qty:=q,past:=p:Actn }.qty,past:={ kind:=(3:Int),sku:=s,qty:=q,past:=p:Actn }.past:Actn }:Wish }).2)]) z0))))))))<|sn<|rT<|qR (.tup [.agg [.sl (List.map c46 (U1 { live:=live,seen:=seen,rep:=rep,lim:=lim,act:={ kind:=(3:Int),sku:={ kind:=(3:Int),sku:=s,qty:=q,past:=p:Actn }.sku,qty:={ kind:=(3:Int),sku:=s,qty:=q,past:=p:Actn }.qty,past:={ kind:=(3:Int),sku:=s,qty:=q,past:=p:Actn }.past:Actn }:Wish }).1.adds),.sl (List.map c3 (U1 { live:=live,seen:=seen,rep:=rep,lim:=lim,act:={ kind:=(3:Int),sku:={ kind:=(3:Int),sku:=s,qty:=q,past:=p:Actn }.sku,qty:={ kind:=(3:Int),sku:=s,qty:=q,past:=p:Actn }.qty,past:={ kind:=(3:Int),sku:=s,qty:=q,past:=p:Actn }.past:Actn }:Wish }).1.gone.vec),.sl (List.map B1 (U1 { live:=live,seen:=seen,rep:=rep,lim:=lim,act:={ kind:=(3:Int),sku:={ kind:=(3:Int),sku:=s,qty:=q,past:=p:Actn }.sku,qty:={ kind:=(3:Int),sku:=s,qty:=q,past:=p:Actn }.qty,past:={ kind:=(3:Int),sku:=s,qty:=q,past:=p:Actn }.past:Actn }:Wish }).1.gone.cloud),.sl (List.map c54 (U1 { live:=live,seen:=seen,rep:=rep,lim:=lim,act:={ kind:=(3:Int),sku:={ kind:=(3:Int),sku:=s,qty:=q,past:=p:Actn }.sku,qty:={ kind:=(3:Int),sku:=s,qty:=q,past:=p:Actn }.qty,past:={ kind:=(3:Int),sku:=s,qty:=q,past:=p:Actn }.past:Actn }:Wish }).1.recs)],.i .i64 ((U1 { live:=live,seen:=seen,rep:=rep,lim:=lim,act:={ kind:=(3:Int),sku:={ kind:=(3:Int),sku:=s,qty:=q,past:=p:Actn }.sku,qty:={ kind:=(3:Int),sku:=s,qty:=q,past:=p:Actn }.qty,past:={ kind:=(3:Int),sku:=s,qty:=q,past:=p:Actn }.past:Actn }:Wish }).2)]) (A5.tup (ZLe.cons (A5.eq (show AV.agg [AV.sl (List.map c46 (U1 { live:=live,seen:=seen,rep:=rep,lim:=lim,act:={ kind:=(3:Int),sku:={ kind:=(3:Int),sku:=s,qty:=q,past:=p:Actn }.sku,qty:={ kind:=(3:Int),sku:=s,qty:=q,past:=p:Actn }.qty,past:={ kind:=(3:Int),sku:=s,qty:=q,past:=p:Actn }.past:Actn }:Wish }).1.adds),AV.sl (List.map c3 (U1 { live:=live,seen:=seen,rep:=rep,lim:=lim,act:={ kind:=(3:Int),sku:={ kind:=(3:Int),sku:=s,qty:=q,past:=p:Actn }.sku,qty:={ kind:=(3:Int),sku:=s,qty:=q,past:=p:Actn }.qty,past:={ kind:=(3:Int),sku:=s,qty:=q,past:=p:Actn }.past:Actn }:Wish }).1.gone.vec),AV.sl (List.map B1 (U1 { live:=live,seen:=seen,rep:=rep,lim:=lim,act:={ kind:=(3:Int),sku:={ kind:=(3:Int),sku:=s,qty:=q,past:=p:Actn }.sku,qty:={ kind:=(3:Int),sku:=s,qty:=q,past:=p:Actn }.qty,past:={ kind:=(3:Int),sku:=s,qty:=q,past:=p:Actn }.past:Actn }:Wish }).1.gone.cloud),AV.sl (List.map c54 (U1 { live:=live,seen:=seen,rep:=rep,lim:=lim,act:={ kind:=(3:Int),sku:={ kind:=(3:Int),sku:=s,qty:=q,past:=p:Actn }.sku,qty:={ kind:=(3:Int),sku:=s,qty:=q,past:=p:Actn }.qty,past:={ kind:=(3:Int),sku:=s,qty:=q,past:=p:Actn }.past:Actn }:Wish }).1.recs)]=AV.agg [AV.sl (List.map c46 (B4 { live:=live,seen:=seen,rep:=rep,lim:=lim,act:={ kind:=(3:Int),sku:=s,qty:=q,past:=p:Actn }:Wish }).1.adds),AV.sl (List.map c3 (B4 { live:=live,seen:=seen,rep:=rep,lim:=lim,act:={ kind:=(3:Int),sku:=s,qty:=q,past:=p:Actn }:Wish }).1.gone.vec),AV.sl (List.map B1 (B4 { live:=live,seen:=seen,rep:=rep,lim:=lim,act:={ kind:=(3:Int),sku:=s,qty:=q,past:=p:Actn }:Wish }).1.gone.cloud),AV.sl (List.map c54 (B4 { live:=live,seen:=seen,rep:=rep,lim:=lim,act:={ kind:=(3:Int),sku:=s,qty:=q,past:=p:Actn }:Wish }).1.recs)]from(by rw[D9 (w:=⟨live,seen,rep,lim,⟨3,s,q,p⟩⟩) hh2 hh3 h6 h11 h12,Ax1 (w:=⟨live,seen,rep,lim,⟨3,s,q,p⟩⟩) rfl]))) (ZLe.cons (A5.eq (show AV.i .i64 (U1 { live:=live,seen:=seen,rep:=rep,lim:=lim,act:={ kind:=(3:Int),sku:={ kind:=(3:Int),sku:=s,qty:=q,past:=p:Actn }.sku,qty:={ kind:=(3:Int),sku:=s,qty:=q,past:=p:Actn }.qty,past:={ kind:=(3:Int),sku:=s,qty:=q,past:=p:Actn }.past:Actn }:Wish }).2=AV.i .i64 (B4 { live:=live,seen:=seen,rep:=rep,lim:=lim,act:={ kind:=(3:Int),sku:=s,qty:=q,past:=p:Actn }:Wish }).2 from(by rw[D9 (w:=⟨live,seen,rep,lim,⟨3,s,q,p⟩⟩) hh2 hh3 h6 h11 h12,Ax1 (w:=⟨live,seen,rep,lim,⟨3,s,q,p⟩⟩) rfl]))) ZLe.nil)))
theorem B2o(live:List Entry)(seen:Past)(rep:Int)(lim:Limits)(s:ByteArray)(q:Int)(p:Past)(hs:live.length*40≤140737488351232)(hb:szP seen)(hp:szP p):Con Tryz.prog 15 [.sl (live.map c46),.agg (c26 seen),.i .i64 rep,.agg (c28 lim),.agg (c30 ⟨4,s,q,p⟩)] (.tup [.agg (c36 (B4 ⟨live,seen,rep,lim,⟨4,s,q,p⟩⟩).1),.i .i64 (B4 ⟨live,seen,rep,lim,⟨4,s,q,p⟩⟩).2]) :=
 by
 refine lN 0 c46 (live) Tryz.func15 fun hl_0=>sC B3 [.cell 10 36,.tmp 11] 80 Tryz.func15 ?_
 intro e0 cx
 refine sq<|rG cx [0,2,6,8,9,10] [6,8,9,10] z0<|sn<|sq<|sq<|A9 (σ':=⟨[(0,.sl (List.map c46 live)),(2,.i .i64 (rep)),(6,.ptr (6) (0) (0) (0)),(8,.ptr (8) (0) (0) (0)),(9,.ptr (9) (0) (0) (0)),(10,.ptr (10) (0) (0) (0)),(22,.b (decide (¬C1 live=0∨¬seen=A6 seen)))],[(6,⟨0,26,.var [.sl (List.map c3 seen.vec),.sl (List.map B1 seen.cloud)]⟩),(8,⟨0,28,.var [.i .i64 (lim.lines),.i .i64 (lim.count)]⟩),(9,⟨0,30,.var [.i .i64 ((4:Int)),.s ({ kind:=(4:Int),sku:=s,qty:=q,past:=p:Actn }.sku),.i .i64 ({ kind:=(4:Int),sku:=s,qty:=q,past:=p:Actn }.qty),.sl (List.map c3 { kind:=(4:Int),sku:=s,qty:=q,past:=p:Actn }.past.vec),.sl (List.map B1 { kind:=(4:Int),sku:=s,qty:=q,past:=p:Actn }.past.cloud)]⟩),(10,⟨0,36,.var [.nl,.nl,.nl,.nl]⟩)]⟩) ?_ ?_
 refine A4 (¬C1 live=0) (fun hh1=>?_) (fun hh1=>?_)
 refine rG cx [0,2,6,8,9,10,22] [6,8,9,10] (fT (M7 (live)) (tT 2 (G9 hh1:AV.b (C1 live !=0)=AV.b true) (tD 7 true (¬C1 live=0∨¬seen=A6 seen) (by simp only [eq_false hh1,tsl]) (oA 1 (.i .i64 (C1 live)) z0)))) ?_
 exact⟨rfl,by kernel_rfl⟩
 refine rG cx [0,2,6,8,9,10,22] [6,8,9,10] (fT (M7 (live)) (tN 2 (C1 live) (0:Int) (tT 3 (A0 hh1) (fT (A0f (seen) (by exact hb.1)) (tQ 6 (seen=A6 seen) (tT 7 (by first | (simp only [eq_false hh1,tsl];done) | simp_all:AV.b (decide ¬seen=A6 seen)=AV.b (decide (¬C1 live=0∨¬seen=A6 seen))) (oA 1 (.i .i64 (C1 live)) (oA 5 (.b (decide (seen=A6 seen))) z0)))))))) ?_
 exact⟨rfl,by kernel_rfl⟩
 refine sn<|dC (¬C1 live=0∨¬seen=A6 seen) (fun hh2=>?_) fun hh2=>?_
 refine sq<|rG cx [10,11] [10] z0<|sn<|rT<|nR<|qR (.tup [.agg [.nl,.nl,.nl,.nl],.i .i64 ((1:Int))]) (A5.tup (ZLe.cons (A5.agg (ZLe.cons (A5.nl' (show List.map c46 (B4 { live:=live,seen:=seen,rep:=rep,lim:=lim,act:={ kind:=(4:Int),sku:=s,qty:=q,past:=p:Actn }:Wish }).1.adds=[]from(by rw[C2 (w:=⟨live,seen,rep,lim,⟨4,s,q,p⟩⟩) hh2];rfl))) (ZLe.cons (A5.nl' (show List.map c3 (B4 { live:=live,seen:=seen,rep:=rep,lim:=lim,act:={ kind:=(4:Int),sku:=s,qty:=q,past:=p:Actn }:Wish }).1.gone.vec=[]from(by rw[C2 (w:=⟨live,seen,rep,lim,⟨4,s,q,p⟩⟩) hh2];rfl))) (ZLe.cons (A5.nl' (show List.map B1 (B4 { live:=live,seen:=seen,rep:=rep,lim:=lim,act:={ kind:=(4:Int),sku:=s,qty:=q,past:=p:Actn }:Wish }).1.gone.cloud=[]from(by rw[C2 (w:=⟨live,seen,rep,lim,⟨4,s,q,p⟩⟩) hh2];rfl))) (ZLe.cons (A5.nl' (show List.map c54 (B4 { live:=live,seen:=seen,rep:=rep,lim:=lim,act:={ kind:=(4:Int),sku:=s,qty:=q,past:=p:Actn }:Wish }).1.recs=[]from(by rw[C2 (w:=⟨live,seen,rep,lim,⟨4,s,q,p⟩⟩) hh2];rfl))) ZLe.nil))))) (ZLe.cons (A5.eq (show AV.i .i64 1=AV.i .i64 (B4 { live:=live,seen:=seen,rep:=rep,lim:=lim,act:={ kind:=(4:Int),sku:=s,qty:=q,past:=p:Actn }:Wish }).2 from(by rw[C2 (w:=⟨live,seen,rep,lim,⟨4,s,q,p⟩⟩) hh2]))) ZLe.nil)))
 refine sK<|sn<|sq<|sq<|rG cx [0,2,6,8,9,10,12] [6,8,9,10] (fT (Ab6 (live) (seen) (by exact hb.1)) (oA 2 (.tup [.sl (List.map c46 (F0 live seen false).1),.i .i64 ((F0 live seen false).2)]) z0)) ?_
 refine sn<|rD cx [0,2,6,8,9,10,32] [6,8,9,10] (tL 1 c46 ((F0 live seen false).1) (zB 2 ((0:Int) <(↑(F0 live seen false).1.length:Int)))) (fun hh3=>?_) fun hh3=>?_
 refine sq<|rG cx [10,11] [10] z0<|sn<|rT<|nR<|qR (.tup [.agg [.nl,.nl,.nl,.nl],.i .i64 ((1:Int))]) (A5.tup (ZLe.cons (A5.agg (ZLe.cons (A5.nl' (show List.map c46 (B4 { live:=live,seen:=seen,rep:=rep,lim:=lim,act:={ kind:=(4:Int),sku:=s,qty:=q,past:=p:Actn }:Wish }).1.adds=[]from(by rw[C3 (w:=⟨live,seen,rep,lim,⟨4,s,q,p⟩⟩) hh2 hh3];rfl))) (ZLe.cons (A5.nl' (show List.map c3 (B4 { live:=live,seen:=seen,rep:=rep,lim:=lim,act:={ kind:=(4:Int),sku:=s,qty:=q,past:=p:Actn }:Wish }).1.gone.vec=[]from(by rw[C3 (w:=⟨live,seen,rep,lim,⟨4,s,q,p⟩⟩) hh2 hh3];rfl))) (ZLe.cons (A5.nl' (show List.map B1 (B4 { live:=live,seen:=seen,rep:=rep,lim:=lim,act:={ kind:=(4:Int),sku:=s,qty:=q,past:=p:Actn }:Wish }).1.gone.cloud=[]from(by rw[C3 (w:=⟨live,seen,rep,lim,⟨4,s,q,p⟩⟩) hh2 hh3];rfl))) (ZLe.cons (A5.nl' (show List.map c54 (B4 { live:=live,seen:=seen,rep:=rep,lim:=lim,act:={ kind:=(4:Int),sku:=s,qty:=q,past:=p:Actn }:Wish }).1.recs=[]from(by rw[C3 (w:=⟨live,seen,rep,lim,⟨4,s,q,p⟩⟩) hh2 hh3];rfl))) ZLe.nil))))) (ZLe.cons (A5.eq (show AV.i .i64 1=AV.i .i64 (B4 { live:=live,seen:=seen,rep:=rep,lim:=lim,act:={ kind:=(4:Int),sku:=s,qty:=q,past:=p:Actn }:Wish }).2 from(by rw[C3 (w:=⟨live,seen,rep,lim,⟨4,s,q,p⟩⟩) hh2 hh3]))) ZLe.nil)))
 refine sK<|sn<|sq<|sq<|A9 (σ':=⟨[(0,.sl (List.map c46 live)),(2,.i .i64 (rep)),(6,.ptr (6) (0) (0) (0)),(8,.ptr (8) (0) (0) (0)),(9,.ptr (9) (0) (0) (0)),(10,.ptr (10) (0) (0) (0)),(39,.b (decide (rep <(0:Int)∨16≤rep)))],[(6,⟨0,26,.var [.sl (List.map c3 seen.vec),.sl (List.map B1 seen.cloud)]⟩),(8,⟨0,28,.var [.i .i64 (lim.lines),.i .i64 (lim.count)]⟩),(9,⟨0,30,.var [.i .i64 ((4:Int)),.s ({ kind:=(4:Int),sku:=s,qty:=q,past:=p:Actn }.sku),.i .i64 ({ kind:=(4:Int),sku:=s,qty:=q,past:=p:Actn }.qty),.sl (List.map c3 { kind:=(4:Int),sku:=s,qty:=q,past:=p:Actn }.past.vec),.sl (List.map B1 { kind:=(4:Int),sku:=s,qty:=q,past:=p:Actn }.past.cloud)]⟩),(10,⟨0,36,.var [.nl,.nl,.nl,.nl]⟩)]⟩) ?_ ?_
 refine A4 (rep <(0:Int)) (fun h_5=>?_) (fun h_5=>?_)
 refine rG cx [0,2,6,8,9,10,39] [6,8,9,10] (tT 1 (A3 h_5) (tD 5 true (rep <(0:Int)∨16≤rep) (by simp only [eq_true h_5,tsl]) z0)) ?_
 exact⟨rfl,by kernel_rfl⟩
 refine rG cx [0,2,6,8,9,10,39] [6,8,9,10] (tT 1 (A0 h_5) (tB 4 (16≤rep) (tD 5 (decide (16≤rep)) (rep <(0:Int)∨16≤rep) (by simp only [eq_false h_5,tsl]) z0))) ?_
 exact⟨rfl,by kernel_rfl⟩
 refine sn<|dC (rep <(0:Int)∨16≤rep) (fun h6=>?_) fun h6=>?_
 refine sq<|rG cx [10,11] [10] z0<|sn<|rT<|nR<|qR (.tup [.agg [.nl,.nl,.nl,.nl],.i .i64 ((3:Int))]) (A5.tup (ZLe.cons (A5.agg (ZLe.cons (A5.nl' (show List.map c46 (B4 { live:=live,seen:=seen,rep:=rep,lim:=lim,act:={ kind:=(4:Int),sku:=s,qty:=q,past:=p:Actn }:Wish }).1.adds=[]from(by rw[C9 (w:=⟨live,seen,rep,lim,⟨4,s,q,p⟩⟩) hh2 hh3 h6];rfl))) (ZLe.cons (A5.nl' (show List.map c3 (B4 { live:=live,seen:=seen,rep:=rep,lim:=lim,act:={ kind:=(4:Int),sku:=s,qty:=q,past:=p:Actn }:Wish }).1.gone.vec=[]from(by rw[C9 (w:=⟨live,seen,rep,lim,⟨4,s,q,p⟩⟩) hh2 hh3 h6];rfl))) (ZLe.cons (A5.nl' (show List.map B1 (B4 { live:=live,seen:=seen,rep:=rep,lim:=lim,act:={ kind:=(4:Int),sku:=s,qty:=q,past:=p:Actn }:Wish }).1.gone.cloud=[]from(by rw[C9 (w:=⟨live,seen,rep,lim,⟨4,s,q,p⟩⟩) hh2 hh3 h6];rfl))) (ZLe.cons (A5.nl' (show List.map c54 (B4 { live:=live,seen:=seen,rep:=rep,lim:=lim,act:={ kind:=(4:Int),sku:=s,qty:=q,past:=p:Actn }:Wish }).1.recs=[]from(by rw[C9 (w:=⟨live,seen,rep,lim,⟨4,s,q,p⟩⟩) hh2 hh3 h6];rfl))) ZLe.nil))))) (ZLe.cons (A5.eq (show AV.i .i64 3=AV.i .i64 (B4 { live:=live,seen:=seen,rep:=rep,lim:=lim,act:={ kind:=(4:Int),sku:=s,qty:=q,past:=p:Actn }:Wish }).2 from(by rw[C9 (w:=⟨live,seen,rep,lim,⟨4,s,q,p⟩⟩) hh2 hh3 h6]))) ZLe.nil)))
 refine sK<|sn<|sq<|sq<|A9 (σ':=⟨[(0,.sl (List.map c46 live)),(2,.i .i64 (rep)),(6,.ptr (6) (0) (0) (0)),(8,.ptr (8) (0) (0) (0)),(9,.ptr (9) (0) (0) (0)),(10,.ptr (10) (0) (0) (0)),(58,.b (decide (lim.lines <(1:Int)∨(1000:Int) < lim.lines∨lim.count <(1:Int)∨(1000000000:Int) < lim.count)))],[(6,⟨0,26,.var [.sl (List.map c3 seen.vec),.sl (List.map B1 seen.cloud)]⟩),(8,⟨0,28,.var [.i .i64 (lim.lines),.i .i64 (lim.count)]⟩),(9,⟨0,30,.var [.i .i64 ((4:Int)),.s ({ kind:=(4:Int),sku:=s,qty:=q,past:=p:Actn }.sku),.i .i64 ({ kind:=(4:Int),sku:=s,qty:=q,past:=p:Actn }.qty),.sl (List.map c3 { kind:=(4:Int),sku:=s,qty:=q,past:=p:Actn }.past.vec),.sl (List.map B1 { kind:=(4:Int),sku:=s,qty:=q,past:=p:Actn }.past.cloud)]⟩),(10,⟨0,36,.var [.nl,.nl,.nl,.nl]⟩)]⟩) ?_ ?_
 refine A4 (lim.lines <(1:Int)) (fun h_8=>?_) (fun h_8=>?_)
 refine rG cx [0,2,6,8,9,10,58] [6,8,9,10] (tT 2 (A3 h_8) (tD 17 true (lim.lines <(1:Int)∨(1000:Int) < lim.lines∨lim.count <(1:Int)∨(1000000000:Int) < lim.count) (by simp only [eq_true h_8,tsl]) z0)) ?_
 exact⟨rfl,by kernel_rfl⟩
 refine A4 ((1000:Int) < lim.lines) (fun h_9=>?_) (fun h_9=>?_)
 refine rG cx [0,2,6,8,9,10,58] [6,8,9,10] (tT 2 (A0 h_8) (tT 6 (A3 h_9) (tD 17 true (lim.lines <(1:Int)∨(1000:Int) < lim.lines∨lim.count <(1:Int)∨(1000000000:Int) < lim.count) (by simp only [eq_false h_8,eq_true h_9,tsl]) z0))) ?_
 exact⟨rfl,by kernel_rfl⟩
 refine A4 (lim.count <(1:Int)) (fun h_10=>?_) (fun h_10=>?_)
 refine rG cx [0,2,6,8,9,10,58] [6,8,9,10] (tT 2 (A0 h_8) (tT 6 (A0 h_9) (tT 11 (A3 h_10) (tD 17 true (lim.lines <(1:Int)∨(1000:Int) < lim.lines∨lim.count <(1:Int)∨(1000000000:Int) < lim.count) (by simp only [eq_false h_8,eq_false h_9,eq_true h_10,tsl]) z0)))) ?_
 exact⟨rfl,by kernel_rfl⟩
 refine rG cx [0,2,6,8,9,10,58] [6,8,9,10] (tT 2 (A0 h_8) (tT 6 (A0 h_9) (tT 11 (A0 h_10) (tB 16 ((1000000000:Int) < lim.count) (tD 17 (decide ((1000000000:Int) < lim.count)) (lim.lines <(1:Int)∨(1000:Int) < lim.lines∨lim.count <(1:Int)∨(1000000000:Int) < lim.count) (by simp only [eq_false h_8,eq_false h_9,eq_false h_10,tsl]) z0))))) ?_
 exact⟨rfl,by kernel_rfl⟩
 refine sn<|dC (lim.lines <(1:Int)∨(1000:Int) < lim.lines∨lim.count <(1:Int)∨(1000000000:Int) < lim.count) (fun h11=>?_) fun h11=>?_
 refine sq<|rG cx [10,11] [10] z0<|sn<|rT<|nR<|qR (.tup [.agg [.nl,.nl,.nl,.nl],.i .i64 ((2:Int))]) (A5.tup (ZLe.cons (A5.agg (ZLe.cons (A5.nl' (show List.map c46 (B4 { live:=live,seen:=seen,rep:=rep,lim:=lim,act:={ kind:=(4:Int),sku:=s,qty:=q,past:=p:Actn }:Wish }).1.adds=[]from(by rw[D0 (w:=⟨live,seen,rep,lim,⟨4,s,q,p⟩⟩) hh2 hh3 h6 h11];rfl))) (ZLe.cons (A5.nl' (show List.map c3 (B4 { live:=live,seen:=seen,rep:=rep,lim:=lim,act:={ kind:=(4:Int),sku:=s,qty:=q,past:=p:Actn }:Wish }).1.gone.vec=[]from(by rw[D0 (w:=⟨live,seen,rep,lim,⟨4,s,q,p⟩⟩) hh2 hh3 h6 h11];rfl))) (ZLe.cons (A5.nl' (show List.map B1 (B4 { live:=live,seen:=seen,rep:=rep,lim:=lim,act:={ kind:=(4:Int),sku:=s,qty:=q,past:=p:Actn }:Wish }).1.gone.cloud=[]from(by rw[D0 (w:=⟨live,seen,rep,lim,⟨4,s,q,p⟩⟩) hh2 hh3 h6 h11];rfl))) (ZLe.cons (A5.nl' (show List.map c54 (B4 { live:=live,seen:=seen,rep:=rep,lim:=lim,act:={ kind:=(4:Int),sku:=s,qty:=q,past:=p:Actn }:Wish }).1.recs=[]from(by rw[D0 (w:=⟨live,seen,rep,lim,⟨4,s,q,p⟩⟩) hh2 hh3 h6 h11];rfl))) ZLe.nil))))) (ZLe.cons (A5.eq (show AV.i .i64 2=AV.i .i64 (B4 { live:=live,seen:=seen,rep:=rep,lim:=lim,act:={ kind:=(4:Int),sku:=s,qty:=q,past:=p:Actn }:Wish }).2 from(by rw[D0 (w:=⟨live,seen,rep,lim,⟨4,s,q,p⟩⟩) hh2 hh3 h6 h11]))) ZLe.nil)))
 refine sK<|sn<|sq<|sq<|rG cx [0,2,6,8,9,10,14] [6,8,9,10] (fT (Aa7 ({ kind:=(4:Int),sku:={ kind:=(4:Int),sku:=s,qty:=q,past:=p:Actn }.sku,qty:={ kind:=(4:Int),sku:=s,qty:=q,past:=p:Actn }.qty,past:={ kind:=(4:Int),sku:=s,qty:=q,past:=p:Actn }.past:Actn }) (by(with_reducible assumption))) (oA 1 (.i .i64 (G8 { kind:=(4:Int),sku:={ kind:=(4:Int),sku:=s,qty:=q,past:=p:Actn }.sku,qty:={ kind:=(4:Int),sku:=s,qty:=q,past:=p:Actn }.qty,past:={ kind:=(4:Int),sku:=s,qty:=q,past:=p:Actn }.past:Actn })) z0))<|sn<|sq<|rG cx [0,2,6,8,9,10,14,63] [6,8,9,10] (tN 1 (G8 { kind:=(4:Int),sku:={ kind:=(4:Int),sku:=s,qty:=q,past:=p:Actn }.sku,qty:={ kind:=(4:Int),sku:=s,qty:=q,past:=p:Actn }.qty,past:={ kind:=(4:Int),sku:=s,qty:=q,past:=p:Actn }.past:Actn }) (0:Int) z0)<|sn<|dC (¬G8 { kind:=(4:Int),sku:={ kind:=(4:Int),sku:=s,qty:=q,past:=p:Actn }.sku,qty:={ kind:=(4:Int),sku:=s,qty:=q,past:=p:Actn }.qty,past:={ kind:=(4:Int),sku:=s,qty:=q,past:=p:Actn }.past:Actn }=(0:Int)) (fun h12=>?_) fun h12=>?_
 refine sq<|rG cx [10,11] [10] z0<|sn<|rT<|nR<|qR (.tup [.agg [.nl,.nl,.nl,.nl],.i .i64 (G8 { kind:=(4:Int),sku:={ kind:=(4:Int),sku:=s,qty:=q,past:=p:Actn }.sku,qty:={ kind:=(4:Int),sku:=s,qty:=q,past:=p:Actn }.qty,past:={ kind:=(4:Int),sku:=s,qty:=q,past:=p:Actn }.past:Actn })]) (A5.tup (ZLe.cons (A5.agg (ZLe.cons (A5.nl' (show List.map c46 (B4 { live:=live,seen:=seen,rep:=rep,lim:=lim,act:={ kind:=(4:Int),sku:=s,qty:=q,past:=p:Actn }:Wish }).1.adds=[]from(by rw[D3 (w:=⟨live,seen,rep,lim,⟨4,s,q,p⟩⟩) hh2 hh3 h6 h11 h12];rfl))) (ZLe.cons (A5.nl' (show List.map c3 (B4 { live:=live,seen:=seen,rep:=rep,lim:=lim,act:={ kind:=(4:Int),sku:=s,qty:=q,past:=p:Actn }:Wish }).1.gone.vec=[]from(by rw[D3 (w:=⟨live,seen,rep,lim,⟨4,s,q,p⟩⟩) hh2 hh3 h6 h11 h12];rfl))) (ZLe.cons (A5.nl' (show List.map B1 (B4 { live:=live,seen:=seen,rep:=rep,lim:=lim,act:={ kind:=(4:Int),sku:=s,qty:=q,past:=p:Actn }:Wish }).1.gone.cloud=[]from(by rw[D3 (w:=⟨live,seen,rep,lim,⟨4,s,q,p⟩⟩) hh2 hh3 h6 h11 h12];rfl))) (ZLe.cons (A5.nl' (show List.map c54 (B4 { live:=live,seen:=seen,rep:=rep,lim:=lim,act:={ kind:=(4:Int),sku:=s,qty:=q,past:=p:Actn }:Wish }).1.recs=[]from(by rw[D3 (w:=⟨live,seen,rep,lim,⟨4,s,q,p⟩⟩) hh2 hh3 h6 h11 h12];rfl))) ZLe.nil))))) (ZLe.cons (A5.eq (show AV.i .i64 (G8 { kind:=(4:Int),sku:={ kind:=(4:Int),sku:=s,qty:=q,past:=p:Actn }.sku,qty:={ kind:=(4:Int),sku:=s,qty:=q,past:=p:Actn }.qty,past:={ kind:=(4:Int),sku:=s,qty:=q,past:=p:Actn }.past:Actn })=AV.i .i64 (B4 { live:=live,seen:=seen,rep:=rep,lim:=lim,act:={ kind:=(4:Int),sku:=s,qty:=q,past:=p:Actn }:Wish }).2 from(by rw[D3 (w:=⟨live,seen,rep,lim,⟨4,s,q,p⟩⟩) hh2 hh3 h6 h11 h12]))) ZLe.nil)))
 refine sK<|sn<|sq<|rA cx [10,11] [10] (fT (A1w ) (fO ((0:Int)≤(4:Int)) (fR (some [AV.fn (Fn.func (157:FuncId)) [] []]) (fR 1 (fT (con157 ({ live:=live,seen:=seen,rep:=rep,lim:=lim,act:={ kind:=(4:Int),sku:={ kind:=(4:Int),sku:=s,qty:=q,past:=p:Actn }.sku,qty:={ kind:=(4:Int),sku:=s,qty:=q,past:=p:Actn }.qty,past:={ kind:=(4:Int),sku:=s,qty:=q,past:=p:Actn }.past:Actn }:Wish }) (by(with_reducible assumption))) (oA 0 (A95 (A1w )) (oR 3 [.fn (Fn.func (157:FuncId)) [] []] (oA 11 (.tup [.agg [.sl (List.map c46 (H2 { live:=live,seen:=seen,rep:=rep,lim:=lim,act:={ kind:=(4:Int),sku:={ kind:=(4:Int),sku:=s,qty:=q,past:=p:Actn }.sku,qty:={ kind:=(4:Int),sku:=s,qty:=q,past:=p:Actn }.qty,past:={ kind:=(4:Int),sku:=s,qty:=q,past:=p:Actn }.past:Actn }:Wish }.act.sku { live:=live,seen:=seen,rep:=rep,lim:=lim,act:={ kind:=(4:Int),sku:={ kind:=(4:Int),sku:=s,qty:=q,past:=p:Actn }.sku,qty:={ kind:=(4:Int),sku:=s,qty:=q,past:=p:Actn }.qty,past:={ kind:=(4:Int),sku:=s,qty:=q,past:=p:Actn }.past:Actn }:Wish }.act.past).adds),.sl (List.map c3 (H2 { live:=live,seen:=seen,rep:=rep,lim:=lim,act:={ kind:=(4:Int),sku:={ kind:=(4:Int),sku:=s,qty:=q,past:=p:Actn }.sku,qty:={ kind:=(4:Int),sku:=s,qty:=q,past:=p:Actn }.qty,past:={ kind:=(4:Int),sku:=s,qty:=q,past:=p:Actn }.past:Actn }:Wish }.act.sku { live:=live,seen:=seen,rep:=rep,lim:=lim,act:={ kind:=(4:Int),sku:={ kind:=(4:Int),sku:=s,qty:=q,past:=p:Actn }.sku,qty:={ kind:=(4:Int),sku:=s,qty:=q,past:=p:Actn }.qty,past:={ kind:=(4:Int),sku:=s,qty:=q,past:=p:Actn }.past:Actn }:Wish }.act.past).gone.vec),.sl (List.map B1 (H2 { live:=live,seen:=seen,rep:=rep,lim:=lim,act:={ kind:=(4:Int),sku:={ kind:=(4:Int),sku:=s,qty:=q,past:=p:Actn }.sku,qty:={ kind:=(4:Int),sku:=s,qty:=q,past:=p:Actn }.qty,past:={ kind:=(4:Int),sku:=s,qty:=q,past:=p:Actn }.past:Actn }:Wish }.act.sku { live:=live,seen:=seen,rep:=rep,lim:=lim,act:={ kind:=(4:Int),sku:={ kind:=(4:Int),sku:=s,qty:=q,past:=p:Actn }.sku,qty:={ kind:=(4:Int),sku:=s,qty:=q,past:=p:Actn }.qty,past:={ kind:=(4:Int),sku:=s,qty:=q,past:=p:Actn }.past:Actn }:Wish }.act.past).gone.cloud),.sl (List.map c54 (H2 { live:=live,seen:=seen,rep:=rep,lim:=lim,act:={ kind:=(4:Int),sku:={ kind:=(4:Int),sku:=s,qty:=q,past:=p:Actn }.sku,qty:={ kind:=(4:Int),sku:=s,qty:=q,past:=p:Actn }.qty,past:={ kind:=(4:Int),sku:=s,qty:=q,past:=p:Actn }.past:Actn }:Wish }.act.sku { live:=live,seen:=seen,rep:=rep,lim:=lim,act:={ kind:=(4:Int),sku:={ kind:=(4:Int),sku:=s,qty:=q,past:=p:Actn }.sku,qty:={ kind:=(4:Int),sku:=s,qty:=q,past:=p:Actn }.qty,past:={ kind:=(4:Int),sku:=s,qty:=q,past:=p:Actn }.past:Actn }:Wish }.act.past).recs)],.i .i64 ((0:Int))]) z0)))))))) ?_
 refine sn<|rT<|qR (.tup [.agg [.sl (List.map c46 (H2 { live:=live,seen:=seen,rep:=rep,lim:=lim,act:={ kind:=(4:Int),sku:={ kind:=(4:Int),sku:=s,qty:=q,past:=p:Actn }.sku,qty:={ kind:=(4:Int),sku:=s,qty:=q,past:=p:Actn }.qty,past:={ kind:=(4:Int),sku:=s,qty:=q,past:=p:Actn }.past:Actn }:Wish }.act.sku { live:=live,seen:=seen,rep:=rep,lim:=lim,act:={ kind:=(4:Int),sku:={ kind:=(4:Int),sku:=s,qty:=q,past:=p:Actn }.sku,qty:={ kind:=(4:Int),sku:=s,qty:=q,past:=p:Actn }.qty,past:={ kind:=(4:Int),sku:=s,qty:=q,past:=p:Actn }.past:Actn }:Wish }.act.past).adds),.sl (List.map c3 (H2 { live:=live,seen:=seen,rep:=rep,lim:=lim,act:={ kind:=(4:Int),sku:={ kind:=(4:Int),sku:=s,qty:=q,past:=p:Actn }.sku,qty:={ kind:=(4:Int),sku:=s,qty:=q,past:=p:Actn }.qty,past:={ kind:=(4:Int),sku:=s,qty:=q,past:=p:Actn }.past:Actn }:Wish }.act.sku { live:=live,seen:=seen,rep:=rep,lim:=lim,act:={ kind:=(4:Int),sku:={ kind:=(4:Int),sku:=s,qty:=q,past:=p:Actn }.sku,qty:={ kind:=(4:Int),sku:=s,qty:=q,past:=p:Actn }.qty,past:={ kind:=(4:Int),sku:=s,qty:=q,past:=p:Actn }.past:Actn }:Wish }.act.past).gone.vec),.sl (List.map B1 (H2 { live:=live,seen:=seen,rep:=rep,lim:=lim,act:={ kind:=(4:Int),sku:={ kind:=(4:Int),sku:=s,qty:=q,past:=p:Actn }.sku,qty:={ kind:=(4:Int),sku:=s,qty:=q,past:=p:Actn }.qty,past:={ kind:=(4:Int),sku:=s,qty:=q,past:=p:Actn }.past:Actn }:Wish }.act.sku { live:=live,seen:=seen,rep:=rep,lim:=lim,act:={ kind:=(4:Int),sku:={ kind:=(4:Int),sku:=s,qty:=q,past:=p:Actn }.sku,qty:={ kind:=(4:Int),sku:=s,qty:=q,past:=p:Actn }.qty,past:={ kind:=(4:Int),sku:=s,qty:=q,past:=p:Actn }.past:Actn }:Wish }.act.past).gone.cloud),.sl (List.map c54 (H2 { live:=live,seen:=seen,rep:=rep,lim:=lim,act:={ kind:=(4:Int),sku:={ kind:=(4:Int),sku:=s,qty:=q,past:=p:Actn }.sku,qty:={ kind:=(4:Int),sku:=s,qty:=q,past:=p:Actn }.qty,past:={ kind:=(4:Int),sku:=s,qty:=q,past:=p:Actn }.past:Actn }:Wish }.act.sku { live:=live,seen:=seen,rep:=rep,lim:=lim,act:={ kind:=(4:Int),sku:={ kind:=(4:Int),sku:=s,qty:=q,past:=p:Actn }.sku,qty:={ kind:=(4:Int),sku:=s,qty:=q,past:=p:Actn }.qty,past:={ kind:=(4:Int),sku:=s,qty:=q,past:=p:Actn }.past:Actn }:Wish }.act.past).recs)],.i .i64 ((0:Int))]) (A5.tup (ZLe.cons (A5.eq (show AV.agg [AV.sl (List.map c46 (H2 { live:=live,seen:=seen,rep:=rep,lim:=lim,act:={ kind:=(4:Int),sku:={ kind:=(4:Int),sku:=s,qty:=q,past:=p:Actn }.sku,qty:={ kind:=(4:Int),sku:=s,qty:=q,past:=p:Actn }.qty,past:={ kind:=(4:Int),sku:=s,qty:=q,past:=p:Actn }.past:Actn }:Wish }.act.sku { live:=live,seen:=seen,rep:=rep,lim:=lim,act:={ kind:=(4:Int),sku:={ kind:=(4:Int),sku:=s,qty:=q,past:=p:Actn }.sku,qty:={ kind:=(4:Int),sku:=s,qty:=q,past:=p:Actn }.qty,past:={ kind:=(4:Int),sku:=s,qty:=q,past:=p:Actn }.past:Actn }:Wish }.act.past).adds),AV.sl (List.map c3 (H2 { live:=live,seen:=seen,rep:=rep,lim:=lim,act:={ kind:=(4:Int),sku:={ kind:=(4:Int),sku:=s,qty:=q,past:=p:Actn }.sku,qty:={ kind:=(4:Int),sku:=s,qty:=q,past:=p:Actn }.qty,past:={ kind:=(4:Int),sku:=s,qty:=q,past:=p:Actn }.past:Actn }:Wish }.act.sku { live:=live,seen:=seen,rep:=rep,lim:=lim,act:={ kind:=(4:Int),sku:={ kind:=(4:Int),sku:=s,qty:=q,past:=p:Actn }.sku,qty:={ kind:=(4:Int),sku:=s,qty:=q,past:=p:Actn }.qty,past:={ kind:=(4:Int),sku:=s,qty:=q,past:=p:Actn }.past:Actn }:Wish }.act.past).gone.vec),AV.sl (List.map B1 (H2 { live:=live,seen:=seen,rep:=rep,lim:=lim,act:={ kind:=(4:Int),sku:={ kind:=(4:Int),sku:=s,qty:=q,past:=p:Actn }.sku,qty:={ kind:=(4:Int),sku:=s,qty:=q,past:=p:Actn }.qty,past:={ kind:=(4:Int),sku:=s,qty:=q,past:=p:Actn }.past:Actn }:Wish }.act.sku { live:=live,seen:=seen,rep:=rep,lim:=lim,act:={ kind:=(4:Int),sku:={ kind:=(4:Int),sku:=s,qty:=q,past:=p:Actn }.sku,qty:={ kind:=(4:Int),sku:=s,qty:=q,past:=p:Actn }.qty,past:={ kind:=(4:Int),sku:=s,qty:=q,past:=p:Actn }.past:Actn }:Wish }.act.past).gone.cloud),AV.sl (List.map c54 (H2 { live:=live,seen:=seen,rep:=rep,lim:=lim,act:={ kind:=(4:Int),sku:={ kind:=(4:Int),sku:=s,qty:=q,past:=p:Actn }.sku,qty:={ kind:=(4:Int),sku:=s,qty:=q,past:=p:Actn }.qty,past:={ kind:=(4:Int),sku:=s,qty:=q,past:=p:Actn }.past:Actn }:Wish }.act.sku { live:=live,seen:=seen,rep:=rep,lim:=lim,act:={ kind:=(4:Int),sku:={ kind:=(4:Int),sku:=s,qty:=q,past:=p:Actn }.sku,qty:={ kind:=(4:Int),sku:=s,qty:=q,past:=p:Actn }.qty,past:={ kind:=(4:Int),sku:=s,qty:=q,past:=p:Actn }.past:Actn }:Wish }.act.past).recs)]=AV.agg [AV.sl (List.map c46 (B4 { live:=live,seen:=seen,rep:=rep,lim:=lim,act:={ kind:=(4:Int),sku:=s,qty:=q,past:=p:Actn }:Wish }).1.adds),AV.sl (List.map c3 (B4 { live:=live,seen:=seen,rep:=rep,lim:=lim,act:={ kind:=(4:Int),sku:=s,qty:=q,past:=p:Actn }:Wish }).1.gone.vec),AV.sl (List.map B1 (B4 { live:=live,seen:=seen,rep:=rep,lim:=lim,act:={ kind:=(4:Int),sku:=s,qty:=q,past:=p:Actn }:Wish }).1.gone.cloud),AV.sl (List.map c54 (B4 { live:=live,seen:=seen,rep:=rep,lim:=lim,act:={ kind:=(4:Int),sku:=s,qty:=q,past:=p:Actn }:Wish }).1.recs)]from(by rw[D9 (w:=⟨live,seen,rep,lim,⟨4,s,q,p⟩⟩) hh2 hh3 h6 h11 h12,Ax2 (w:=⟨live,seen,rep,lim,⟨4,s,q,p⟩⟩) rfl]))) (ZLe.cons (A5.eq (show AV.i .i64 0=AV.i .i64 (B4 { live:=live,seen:=seen,rep:=rep,lim:=lim,act:={ kind:=(4:Int),sku:=s,qty:=q,past:=p:Actn }:Wish }).2 from(by rw[D9 (w:=⟨live,seen,rep,lim,⟨4,s,q,p⟩⟩) hh2 hh3 h6 h11 h12,Ax2 (w:=⟨live,seen,rep,lim,⟨4,s,q,p⟩⟩) rfl]))) ZLe.nil)))
theorem B2p(live:List Entry)(seen:Past)(rep:Int)(lim:Limits)(s:ByteArray)(q:Int)(p:Past)(hs:live.length*40≤140737488351232)(hb:szP seen)(hp:szP p):Con Tryz.prog 15 [.sl (live.map c46),.agg (c26 seen),.i .i64 rep,.agg (c28 lim),.agg (c30 ⟨5,s,q,p⟩)] (.tup [.agg (c36 (B4 ⟨live,seen,rep,lim,⟨5,s,q,p⟩⟩).1),.i .i64 (B4 ⟨live,seen,rep,lim,⟨5,s,q,p⟩⟩).2]) :=
 by
 refine lN 0 c46 (live) Tryz.func15 fun hl_0=>sC B3 [.cell 10 36,.tmp 11] 80 Tryz.func15 ?_
 intro e0 cx
 refine sq<|rG cx [0,2,6,8,9,10] [6,8,9,10] z0<|sn<|sq<|sq<|A9 (σ':=⟨[(0,.sl (List.map c46 live)),(2,.i .i64 (rep)),(6,.ptr (6) (0) (0) (0)),(8,.ptr (8) (0) (0) (0)),(9,.ptr (9) (0) (0) (0)),(10,.ptr (10) (0) (0) (0)),(22,.b (decide (¬C1 live=0∨¬seen=A6 seen)))],[(6,⟨0,26,.var [.sl (List.map c3 seen.vec),.sl (List.map B1 seen.cloud)]⟩),(8,⟨0,28,.var [.i .i64 (lim.lines),.i .i64 (lim.count)]⟩),(9,⟨0,30,.var [.i .i64 ((5:Int)),.s ({ kind:=(5:Int),sku:=s,qty:=q,past:=p:Actn }.sku),.i .i64 ({ kind:=(5:Int),sku:=s,qty:=q,past:=p:Actn }.qty),.sl (List.map c3 { kind:=(5:Int),sku:=s,qty:=q,past:=p:Actn }.past.vec),.sl (List.map B1 { kind:=(5:Int),sku:=s,qty:=q,past:=p:Actn }.past.cloud)]⟩),(10,⟨0,36,.var [.nl,.nl,.nl,.nl]⟩)]⟩) ?_ ?_
 refine A4 (¬C1 live=0) (fun hh1=>?_) (fun hh1=>?_)
 refine rG cx [0,2,6,8,9,10,22] [6,8,9,10] (fT (M7 (live)) (tT 2 (G9 hh1:AV.b (C1 live !=0)=AV.b true) (tD 7 true (¬C1 live=0∨¬seen=A6 seen) (by simp only [eq_false hh1,tsl]) (oA 1 (.i .i64 (C1 live)) z0)))) ?_
 exact⟨rfl,by kernel_rfl⟩
 refine rG cx [0,2,6,8,9,10,22] [6,8,9,10] (fT (M7 (live)) (tN 2 (C1 live) (0:Int) (tT 3 (A0 hh1) (fT (A0f (seen) (by exact hb.1)) (tQ 6 (seen=A6 seen) (tT 7 (by first | (simp only [eq_false hh1,tsl];done) | simp_all:AV.b (decide ¬seen=A6 seen)=AV.b (decide (¬C1 live=0∨¬seen=A6 seen))) (oA 1 (.i .i64 (C1 live)) (oA 5 (.b (decide (seen=A6 seen))) z0)))))))) ?_
 exact⟨rfl,by kernel_rfl⟩
 refine sn<|dC (¬C1 live=0∨¬seen=A6 seen) (fun hh2=>?_) fun hh2=>?_
 refine sq<|rG cx [10,11] [10] z0<|sn<|rT<|nR<|qR (.tup [.agg [.nl,.nl,.nl,.nl],.i .i64 ((1:Int))]) (A5.tup (ZLe.cons (A5.agg (ZLe.cons (A5.nl' (show List.map c46 (B4 { live:=live,seen:=seen,rep:=rep,lim:=lim,act:={ kind:=(5:Int),sku:=s,qty:=q,past:=p:Actn }:Wish }).1.adds=[]from(by rw[C2 (w:=⟨live,seen,rep,lim,⟨5,s,q,p⟩⟩) hh2];rfl))) (ZLe.cons (A5.nl' (show List.map c3 (B4 { live:=live,seen:=seen,rep:=rep,lim:=lim,act:={ kind:=(5:Int),sku:=s,qty:=q,past:=p:Actn }:Wish }).1.gone.vec=[]from(by rw[C2 (w:=⟨live,seen,rep,lim,⟨5,s,q,p⟩⟩) hh2];rfl))) (ZLe.cons (A5.nl' (show List.map B1 (B4 { live:=live,seen:=seen,rep:=rep,lim:=lim,act:={ kind:=(5:Int),sku:=s,qty:=q,past:=p:Actn }:Wish }).1.gone.cloud=[]from(by rw[C2 (w:=⟨live,seen,rep,lim,⟨5,s,q,p⟩⟩) hh2];rfl))) (ZLe.cons (A5.nl' (show List.map c54 (B4 { live:=live,seen:=seen,rep:=rep,lim:=lim,act:={ kind:=(5:Int),sku:=s,qty:=q,past:=p:Actn }:Wish }).1.recs=[]from(by rw[C2 (w:=⟨live,seen,rep,lim,⟨5,s,q,p⟩⟩) hh2];rfl))) ZLe.nil))))) (ZLe.cons (A5.eq (show AV.i .i64 1=AV.i .i64 (B4 { live:=live,seen:=seen,rep:=rep,lim:=lim,act:={ kind:=(5:Int),sku:=s,qty:=q,past:=p:Actn }:Wish }).2 from(by rw[C2 (w:=⟨live,seen,rep,lim,⟨5,s,q,p⟩⟩) hh2]))) ZLe.nil)))
 refine sK<|sn<|sq<|sq<|rG cx [0,2,6,8,9,10,12] [6,8,9,10] (fT (Ab6 (live) (seen) (by exact hb.1)) (oA 2 (.tup [.sl (List.map c46 (F0 live seen false).1),.i .i64 ((F0 live seen false).2)]) z0)) ?_
 refine sn<|rD cx [0,2,6,8,9,10,32] [6,8,9,10] (tL 1 c46 ((F0 live seen false).1) (zB 2 ((0:Int) <(↑(F0 live seen false).1.length:Int)))) (fun hh3=>?_) fun hh3=>?_
 refine sq<|rG cx [10,11] [10] z0<|sn<|rT<|nR<|qR (.tup [.agg [.nl,.nl,.nl,.nl],.i .i64 ((1:Int))]) (A5.tup (ZLe.cons (A5.agg (ZLe.cons (A5.nl' (show List.map c46 (B4 { live:=live,seen:=seen,rep:=rep,lim:=lim,act:={ kind:=(5:Int),sku:=s,qty:=q,past:=p:Actn }:Wish }).1.adds=[]from(by rw[C3 (w:=⟨live,seen,rep,lim,⟨5,s,q,p⟩⟩) hh2 hh3];rfl))) (ZLe.cons (A5.nl' (show List.map c3 (B4 { live:=live,seen:=seen,rep:=rep,lim:=lim,act:={ kind:=(5:Int),sku:=s,qty:=q,past:=p:Actn }:Wish }).1.gone.vec=[]from(by rw[C3 (w:=⟨live,seen,rep,lim,⟨5,s,q,p⟩⟩) hh2 hh3];rfl))) (ZLe.cons (A5.nl' (show List.map B1 (B4 { live:=live,seen:=seen,rep:=rep,lim:=lim,act:={ kind:=(5:Int),sku:=s,qty:=q,past:=p:Actn }:Wish }).1.gone.cloud=[]from(by rw[C3 (w:=⟨live,seen,rep,lim,⟨5,s,q,p⟩⟩) hh2 hh3];rfl))) (ZLe.cons (A5.nl' (show List.map c54 (B4 { live:=live,seen:=seen,rep:=rep,lim:=lim,act:={ kind:=(5:Int),sku:=s,qty:=q,past:=p:Actn }:Wish }).1.recs=[]from(by rw[C3 (w:=⟨live,seen,rep,lim,⟨5,s,q,p⟩⟩) hh2 hh3];rfl))) ZLe.nil))))) (ZLe.cons (A5.eq (show AV.i .i64 1=AV.i .i64 (B4 { live:=live,seen:=seen,rep:=rep,lim:=lim,act:={ kind:=(5:Int),sku:=s,qty:=q,past:=p:Actn }:Wish }).2 from(by rw[C3 (w:=⟨live,seen,rep,lim,⟨5,s,q,p⟩⟩) hh2 hh3]))) ZLe.nil)))
 refine sK<|sn<|sq<|sq<|A9 (σ':=⟨[(0,.sl (List.map c46 live)),(2,.i .i64 (rep)),(6,.ptr (6) (0) (0) (0)),(8,.ptr (8) (0) (0) (0)),(9,.ptr (9) (0) (0) (0)),(10,.ptr (10) (0) (0) (0)),(39,.b (decide (rep <(0:Int)∨16≤rep)))],[(6,⟨0,26,.var [.sl (List.map c3 seen.vec),.sl (List.map B1 seen.cloud)]⟩),(8,⟨0,28,.var [.i .i64 (lim.lines),.i .i64 (lim.count)]⟩),(9,⟨0,30,.var [.i .i64 ((5:Int)),.s ({ kind:=(5:Int),sku:=s,qty:=q,past:=p:Actn }.sku),.i .i64 ({ kind:=(5:Int),sku:=s,qty:=q,past:=p:Actn }.qty),.sl (List.map c3 { kind:=(5:Int),sku:=s,qty:=q,past:=p:Actn }.past.vec),.sl (List.map B1 { kind:=(5:Int),sku:=s,qty:=q,past:=p:Actn }.past.cloud)]⟩),(10,⟨0,36,.var [.nl,.nl,.nl,.nl]⟩)]⟩) ?_ ?_
 refine A4 (rep <(0:Int)) (fun h_5=>?_) (fun h_5=>?_)
 refine rG cx [0,2,6,8,9,10,39] [6,8,9,10] (tT 1 (A3 h_5) (tD 5 true (rep <(0:Int)∨16≤rep) (by simp only [eq_true h_5,tsl]) z0)) ?_
 exact⟨rfl,by kernel_rfl⟩
 refine rG cx [0,2,6,8,9,10,39] [6,8,9,10] (tT 1 (A0 h_5) (tB 4 (16≤rep) (tD 5 (decide (16≤rep)) (rep <(0:Int)∨16≤rep) (by simp only [eq_false h_5,tsl]) z0))) ?_
 exact⟨rfl,by kernel_rfl⟩
 refine sn<|dC (rep <(0:Int)∨16≤rep) (fun h6=>?_) fun h6=>?_
 refine sq<|rG cx [10,11] [10] z0<|sn<|rT<|nR<|qR (.tup [.agg [.nl,.nl,.nl,.nl],.i .i64 ((3:Int))]) (A5.tup (ZLe.cons (A5.agg (ZLe.cons (A5.nl' (show List.map c46 (B4 { live:=live,seen:=seen,rep:=rep,lim:=lim,act:={ kind:=(5:Int),sku:=s,qty:=q,past:=p:Actn }:Wish }).1.adds=[]from(by rw[C9 (w:=⟨live,seen,rep,lim,⟨5,s,q,p⟩⟩) hh2 hh3 h6];rfl))) (ZLe.cons (A5.nl' (show List.map c3 (B4 { live:=live,seen:=seen,rep:=rep,lim:=lim,act:={ kind:=(5:Int),sku:=s,qty:=q,past:=p:Actn }:Wish }).1.gone.vec=[]from(by rw[C9 (w:=⟨live,seen,rep,lim,⟨5,s,q,p⟩⟩) hh2 hh3 h6];rfl))) (ZLe.cons (A5.nl' (show List.map B1 (B4 { live:=live,seen:=seen,rep:=rep,lim:=lim,act:={ kind:=(5:Int),sku:=s,qty:=q,past:=p:Actn }:Wish }).1.gone.cloud=[]from(by rw[C9 (w:=⟨live,seen,rep,lim,⟨5,s,q,p⟩⟩) hh2 hh3 h6];rfl))) (ZLe.cons (A5.nl' (show List.map c54 (B4 { live:=live,seen:=seen,rep:=rep,lim:=lim,act:={ kind:=(5:Int),sku:=s,qty:=q,past:=p:Actn }:Wish }).1.recs=[]from(by rw[C9 (w:=⟨live,seen,rep,lim,⟨5,s,q,p⟩⟩) hh2 hh3 h6];rfl))) ZLe.nil))))) (ZLe.cons (A5.eq (show AV.i .i64 3=AV.i .i64 (B4 { live:=live,seen:=seen,rep:=rep,lim:=lim,act:={ kind:=(5:Int),sku:=s,qty:=q,past:=p:Actn }:Wish }).2 from(by rw[C9 (w:=⟨live,seen,rep,lim,⟨5,s,q,p⟩⟩) hh2 hh3 h6]))) ZLe.nil)))
 refine sK<|sn<|sq<|sq<|A9 (σ':=⟨[(0,.sl (List.map c46 live)),(2,.i .i64 (rep)),(6,.ptr (6) (0) (0) (0)),(8,.ptr (8) (0) (0) (0)),(9,.ptr (9) (0) (0) (0)),(10,.ptr (10) (0) (0) (0)),(58,.b (decide (lim.lines <(1:Int)∨(1000:Int) < lim.lines∨lim.count <(1:Int)∨(1000000000:Int) < lim.count)))],[(6,⟨0,26,.var [.sl (List.map c3 seen.vec),.sl (List.map B1 seen.cloud)]⟩),(8,⟨0,28,.var [.i .i64 (lim.lines),.i .i64 (lim.count)]⟩),(9,⟨0,30,.var [.i .i64 ((5:Int)),.s ({ kind:=(5:Int),sku:=s,qty:=q,past:=p:Actn }.sku),.i .i64 ({ kind:=(5:Int),sku:=s,qty:=q,past:=p:Actn }.qty),.sl (List.map c3 { kind:=(5:Int),sku:=s,qty:=q,past:=p:Actn }.past.vec),.sl (List.map B1 { kind:=(5:Int),sku:=s,qty:=q,past:=p:Actn }.past.cloud)]⟩),(10,⟨0,36,.var [.nl,.nl,.nl,.nl]⟩)]⟩) ?_ ?_
 refine A4 (lim.lines <(1:Int)) (fun h_8=>?_) (fun h_8=>?_)
 refine rG cx [0,2,6,8,9,10,58] [6,8,9,10] (tT 2 (A3 h_8) (tD 17 true (lim.lines <(1:Int)∨(1000:Int) < lim.lines∨lim.count <(1:Int)∨(1000000000:Int) < lim.count) (by simp only [eq_true h_8,tsl]) z0)) ?_
 exact⟨rfl,by kernel_rfl⟩
 refine A4 ((1000:Int) < lim.lines) (fun h_9=>?_) (fun h_9=>?_)
 refine rG cx [0,2,6,8,9,10,58] [6,8,9,10] (tT 2 (A0 h_8) (tT 6 (A3 h_9) (tD 17 true (lim.lines <(1:Int)∨(1000:Int) < lim.lines∨lim.count <(1:Int)∨(1000000000:Int) < lim.count) (by simp only [eq_false h_8,eq_true h_9,tsl]) z0))) ?_
 exact⟨rfl,by kernel_rfl⟩
 refine A4 (lim.count <(1:Int)) (fun h_10=>?_) (fun h_10=>?_)
 refine rG cx [0,2,6,8,9,10,58] [6,8,9,10] (tT 2 (A0 h_8) (tT 6 (A0 h_9) (tT 11 (A3 h_10) (tD 17 true (lim.lines <(1:Int)∨(1000:Int) < lim.lines∨lim.count <(1:Int)∨(1000000000:Int) < lim.count) (by simp only [eq_false h_8,eq_false h_9,eq_true h_10,tsl]) z0)))) ?_
 exact⟨rfl,by kernel_rfl⟩
 refine rG cx [0,2,6,8,9,10,58] [6,8,9,10] (tT 2 (A0 h_8) (tT 6 (A0 h_9) (tT 11 (A0 h_10) (tB 16 ((1000000000:Int) < lim.count) (tD 17 (decide ((1000000000:Int) < lim.count)) (lim.lines <(1:Int)∨(1000:Int) < lim.lines∨lim.count <(1:Int)∨(1000000000:Int) < lim.count) (by simp only [eq_false h_8,eq_false h_9,eq_false h_10,tsl]) z0))))) ?_
 exact⟨rfl,by kernel_rfl⟩
 refine sn<|dC (lim.lines <(1:Int)∨(1000:Int) < lim.lines∨lim.count <(1:Int)∨(1000000000:Int) < lim.count) (fun h11=>?_) fun h11=>?_
 refine sq<|rG cx [10,11] [10] z0<|sn<|rT<|nR<|qR (.tup [.agg [.nl,.nl,.nl,.nl],.i .i64 ((2:Int))]) (A5.tup (ZLe.cons (A5.agg (ZLe.cons (A5.nl' (show List.map c46 (B4 { live:=live,seen:=seen,rep:=rep,lim:=lim,act:={ kind:=(5:Int),sku:=s,qty:=q,past:=p:Actn }:Wish }).1.adds=[]from(by rw[D0 (w:=⟨live,seen,rep,lim,⟨5,s,q,p⟩⟩) hh2 hh3 h6 h11];rfl))) (ZLe.cons (A5.nl' (show List.map c3 (B4 { live:=live,seen:=seen,rep:=rep,lim:=lim,act:={ kind:=(5:Int),sku:=s,qty:=q,past:=p:Actn }:Wish }).1.gone.vec=[]from(by rw[D0 (w:=⟨live,seen,rep,lim,⟨5,s,q,p⟩⟩) hh2 hh3 h6 h11];rfl))) (ZLe.cons (A5.nl' (show List.map B1 (B4 { live:=live,seen:=seen,rep:=rep,lim:=lim,act:={ kind:=(5:Int),sku:=s,qty:=q,past:=p:Actn }:Wish }).1.gone.cloud=[]from(by rw[D0 (w:=⟨live,seen,rep,lim,⟨5,s,q,p⟩⟩) hh2 hh3 h6 h11];rfl))) (ZLe.cons (A5.nl' (show List.map c54 (B4 { live:=live,seen:=seen,rep:=rep,lim:=lim,act:={ kind:=(5:Int),sku:=s,qty:=q,past:=p:Actn }:Wish }).1.recs=[]from(by rw[D0 (w:=⟨live,seen,rep,lim,⟨5,s,q,p⟩⟩) hh2 hh3 h6 h11];rfl))) ZLe.nil))))) (ZLe.cons (A5.eq (show AV.i .i64 2=AV.i .i64 (B4 { live:=live,seen:=seen,rep:=rep,lim:=lim,act:={ kind:=(5:Int),sku:=s,qty:=q,past:=p:Actn }:Wish }).2 from(by rw[D0 (w:=⟨live,seen,rep,lim,⟨5,s,q,p⟩⟩) hh2 hh3 h6 h11]))) ZLe.nil)))
 refine sK<|sn<|sq<|sq<|rG cx [0,2,6,8,9,10,14] [6,8,9,10] (fT (Aa7 ({ kind:=(5:Int),sku:={ kind:=(5:Int),sku:=s,qty:=q,past:=p:Actn }.sku,qty:={ kind:=(5:Int),sku:=s,qty:=q,past:=p:Actn }.qty,past:={ kind:=(5:Int),sku:=s,qty:=q,past:=p:Actn }.past:Actn }) (by(with_reducible assumption))) (oA 1 (.i .i64 ((0:Int))) z0))<|sn<|sq<|rG cx [0,2,6,8,9,10,14,63] [6,8,9,10] z0<|sn<|W5 (by kernel_rfl) (by kernel_rfl)<|sK<|sn<|sq<|rA cx [10,11] [10] (fT (A1w ) (fO ((0:Int)≤(5:Int)) (fR (some [AV.fn (Fn.func (158:FuncId)) [] []]) (fR 1 (fT (con158 ({ live:=live,seen:=seen,rep:=rep,lim:=lim,act:={ kind:=(5:Int),sku:={ kind:=(5:Int),sku:=s,qty:=q,past:=p:Actn }.sku,qty:={ kind:=(5:Int),sku:=s,qty:=q,past:=p:Actn }.qty,past:={ kind:=(5:Int),sku:=s,qty:=q,past:=p:Actn }.past:Actn }:Wish })) (oA 0 (A95 (A1w )) (oR 3 [.fn (Fn.func (158:FuncId)) [] []] (oA 11 (.tup [.agg [.sl (List.map c46 { adds:=[],gone:=(C8 { live:=live,seen:=seen,rep:=rep,lim:=lim,act:={ kind:=(5:Int),sku:={ kind:=(5:Int),sku:=s,qty:=q,past:=p:Actn }.sku,qty:={ kind:=(5:Int),sku:=s,qty:=q,past:=p:Actn }.qty,past:={ kind:=(5:Int),sku:=s,qty:=q,past:=p:Actn }.past:Actn }:Wish }.live).1,recs:=[]:Facts }.adds),.sl (List.map c3 { adds:=[],gone:=(C8 { live:=live,seen:=seen,rep:=rep,lim:=lim,act:={ kind:=(5:Int),sku:={ kind:=(5:Int),sku:=s,qty:=q,past:=p:Actn }.sku,qty:={ kind:=(5:Int),sku:=s,qty:=q,past:=p:Actn }.qty,past:={ kind:=(5:Int),sku:=s,qty:=q,past:=p:Actn }.past:Actn }:Wish }.live).1,recs:=[]:Facts }.gone.vec),.sl (List.map B1 { adds:=[],gone:=(C8 { live:=live,seen:=seen,rep:=rep,lim:=lim,act:={ kind:=(5:Int),sku:={ kind:=(5:Int),sku:=s,qty:=q,past:=p:Actn }.sku,qty:={ kind:=(5:Int),sku:=s,qty:=q,past:=p:Actn }.qty,past:={ kind:=(5:Int),sku:=s,qty:=q,past:=p:Actn }.past:Actn }:Wish }.live).1,recs:=[]:Facts }.gone.cloud),.sl (List.map c54 { adds:=[],gone:=(C8 { live:=live,seen:=seen,rep:=rep,lim:=lim,act:={ kind:=(5:Int),sku:={ kind:=(5:Int),sku:=s,qty:=q,past:=p:Actn }.sku,qty:={ kind:=(5:Int),sku:=s,qty:=q,past:=p:Actn }.qty,past:={ kind:=(5:Int),sku:=s,qty:=q,past:=p:Actn }.past:Actn }:Wish }.live).1,recs:=[]:Facts }.recs)],.i .i64 ((0:Int))]) z0))))))))<|sn<|rT<|qR (.tup [.agg [.sl (List.map c46 { adds:=[],gone:=(C8 { live:=live,seen:=seen,rep:=rep,lim:=lim,act:={ kind:=(5:Int),sku:={ kind:=(5:Int),sku:=s,qty:=q,past:=p:Actn }.sku,qty:={ kind:=(5:Int),sku:=s,qty:=q,past:=p:Actn }.qty,past:={ kind:=(5:Int),sku:=s,qty:=q,past:=p:Actn }.past:Actn }:Wish }.live).1,recs:=[]:Facts }.adds),.sl (List.map c3 { adds:=[],gone:=(C8 { live:=live,seen:=seen,rep:=rep,lim:=lim,act:={ kind:=(5:Int),sku:={ kind:=(5:Int),sku:=s,qty:=q,past:=p:Actn }.sku,qty:={ kind:=(5:Int),sku:=s,qty:=q,past:=p:Actn }.qty,past:={ kind:=(5:Int),sku:=s,qty:=q,past:=p:Actn }.past:Actn }:Wish }.live).1,recs:=[]:Facts }.gone.vec),.sl (List.map B1 { adds:=[],gone:=(C8 { live:=live,seen:=seen,rep:=rep,lim:=lim,act:={ kind:=(5:Int),sku:={ kind:=(5:Int),sku:=s,qty:=q,past:=p:Actn }.sku,qty:={ kind:=(5:Int),sku:=s,qty:=q,past:=p:Actn }.qty,past:={ kind:=(5:Int),sku:=s,qty:=q,past:=p:Actn }.past:Actn }:Wish }.live).1,recs:=[]:Facts }.gone.cloud),.sl (List.map c54 { adds:=[],gone:=(C8 { live:=live,seen:=seen,rep:=rep,lim:=lim,act:={ kind:=(5:Int),sku:={ kind:=(5:Int),sku:=s,qty:=q,past:=p:Actn }.sku,qty:={ kind:=(5:Int),sku:=s,qty:=q,past:=p:Actn }.qty,past:={ kind:=(5:Int),sku:=s,qty:=q,past:=p:Actn }.past:Actn }:Wish }.live).1,recs:=[]:Facts }.recs)],.i .i64 ((0:Int))]) (A5.tup (ZLe.cons (A5.eq (show AV.agg [AV.sl (List.map c46 { adds:=[],gone:=(C8 { live:=live,seen:=seen,rep:=rep,lim:=lim,act:={ kind:=(5:Int),sku:={ kind:=(5:Int),sku:=s,qty:=q,past:=p:Actn }.sku,qty:={ kind:=(5:Int),sku:=s,qty:=q,past:=p:Actn }.qty,past:={ kind:=(5:Int),sku:=s,qty:=q,past:=p:Actn }.past:Actn }:Wish }.live).1,recs:=[]:Facts }.adds),AV.sl (List.map c3 { adds:=[],gone:=(C8 { live:=live,seen:=seen,rep:=rep,lim:=lim,act:={ kind:=(5:Int),sku:={ kind:=(5:Int),sku:=s,qty:=q,past:=p:Actn }.sku,qty:={ kind:=(5:Int),sku:=s,qty:=q,past:=p:Actn }.qty,past:={ kind:=(5:Int),sku:=s,qty:=q,past:=p:Actn }.past:Actn }:Wish }.live).1,recs:=[]:Facts }.gone.vec),AV.sl (List.map B1 { adds:=[],gone:=(C8 { live:=live,seen:=seen,rep:=rep,lim:=lim,act:={ kind:=(5:Int),sku:={ kind:=(5:Int),sku:=s,qty:=q,past:=p:Actn }.sku,qty:={ kind:=(5:Int),sku:=s,qty:=q,past:=p:Actn }.qty,past:={ kind:=(5:Int),sku:=s,qty:=q,past:=p:Actn }.past:Actn }:Wish }.live).1,recs:=[]:Facts }.gone.cloud),AV.sl (List.map c54 { adds:=[],gone:=(C8 { live:=live,seen:=seen,rep:=rep,lim:=lim,act:={ kind:=(5:Int),sku:={ kind:=(5:Int),sku:=s,qty:=q,past:=p:Actn }.sku,qty:={ kind:=(5:Int),sku:=s,qty:=q,past:=p:Actn }.qty,past:={ kind:=(5:Int),sku:=s,qty:=q,past:=p:Actn }.past:Actn }:Wish }.live).1,recs:=[]:Facts }.recs)]=AV.agg [AV.sl (List.map c46 (B4 { live:=live,seen:=seen,rep:=rep,lim:=lim,act:={ kind:=(5:Int),sku:=s,qty:=q,past:=p:Actn }:Wish }).1.adds),AV.sl (List.map c3 (B4 { live:=live,seen:=seen,rep:=rep,lim:=lim,act:={ kind:=(5:Int),sku:=s,qty:=q,past:=p:Actn }:Wish }).1.gone.vec),AV.sl (List.map B1 (B4 { live:=live,seen:=seen,rep:=rep,lim:=lim,act:={ kind:=(5:Int),sku:=s,qty:=q,past:=p:Actn }:Wish }).1.gone.cloud),AV.sl (List.map c54 (B4 { live:=live,seen:=seen,rep:=rep,lim:=lim,act:={ kind:=(5:Int),sku:=s,qty:=q,past:=p:Actn }:Wish }).1.recs)]from(by rw[D9 (w:=⟨live,seen,rep,lim,⟨5,s,q,p⟩⟩) hh2 hh3 h6 h11 (Ax4 s q p),B2j (w:=⟨live,seen,rep,lim,⟨5,s,q,p⟩⟩) rfl]))) (ZLe.cons (A5.eq (show AV.i .i64 0=AV.i .i64 (B4 { live:=live,seen:=seen,rep:=rep,lim:=lim,act:={ kind:=(5:Int),sku:=s,qty:=q,past:=p:Actn }:Wish }).2 from(by rw[D9 (w:=⟨live,seen,rep,lim,⟨5,s,q,p⟩⟩) hh2 hh3 h6 h11 (Ax4 s q p),B2j (w:=⟨live,seen,rep,lim,⟨5,s,q,p⟩⟩) rfl]))) ZLe.nil)))
theorem B2q(live:List Entry)(seen:Past)(rep:Int)(lim:Limits)(s:ByteArray)(q:Int)(p:Past)(hs:live.length*40≤140737488351232)(hb:szP seen)(hp:szP p):Con Tryz.prog 15 [.sl (live.map c46),.agg (c26 seen),.i .i64 rep,.agg (c28 lim),.agg (c30 ⟨6,s,q,p⟩)] (.tup [.agg (c36 (B4 ⟨live,seen,rep,lim,⟨6,s,q,p⟩⟩).1),.i .i64 (B4 ⟨live,seen,rep,lim,⟨6,s,q,p⟩⟩).2]) :=
 by
 refine lN 0 c46 (live) Tryz.func15 fun hl_0=>sC B3 [.cell 10 36,.tmp 11] 80 Tryz.func15 ?_
 intro e0 cx
 refine sq<|rG cx [0,2,6,8,9,10] [6,8,9,10] z0<|sn<|sq<|sq<|A9 (σ':=⟨[(0,.sl (List.map c46 live)),(2,.i .i64 (rep)),(6,.ptr (6) (0) (0) (0)),(8,.ptr (8) (0) (0) (0)),(9,.ptr (9) (0) (0) (0)),(10,.ptr (10) (0) (0) (0)),(22,.b (decide (¬C1 live=0∨¬seen=A6 seen)))],[(6,⟨0,26,.var [.sl (List.map c3 seen.vec),.sl (List.map B1 seen.cloud)]⟩),(8,⟨0,28,.var [.i .i64 (lim.lines),.i .i64 (lim.count)]⟩),(9,⟨0,30,.var [.i .i64 ((6:Int)),.s ({ kind:=(6:Int),sku:=s,qty:=q,past:=p:Actn }.sku),.i .i64 ({ kind:=(6:Int),sku:=s,qty:=q,past:=p:Actn }.qty),.sl (List.map c3 { kind:=(6:Int),sku:=s,qty:=q,past:=p:Actn }.past.vec),.sl (List.map B1 { kind:=(6:Int),sku:=s,qty:=q,past:=p:Actn }.past.cloud)]⟩),(10,⟨0,36,.var [.nl,.nl,.nl,.nl]⟩)]⟩) ?_ ?_
 refine A4 (¬C1 live=0) (fun hh1=>?_) (fun hh1=>?_)
 refine rG cx [0,2,6,8,9,10,22] [6,8,9,10] (fT (M7 (live)) (tT 2 (G9 hh1:AV.b (C1 live !=0)=AV.b true) (tD 7 true (¬C1 live=0∨¬seen=A6 seen) (by simp only [eq_false hh1,tsl]) (oA 1 (.i .i64 (C1 live)) z0)))) ?_
 exact⟨rfl,by kernel_rfl⟩
 refine rG cx [0,2,6,8,9,10,22] [6,8,9,10] (fT (M7 (live)) (tN 2 (C1 live) (0:Int) (tT 3 (A0 hh1) (fT (A0f (seen) (by exact hb.1)) (tQ 6 (seen=A6 seen) (tT 7 (by first | (simp only [eq_false hh1,tsl];done) | simp_all:AV.b (decide ¬seen=A6 seen)=AV.b (decide (¬C1 live=0∨¬seen=A6 seen))) (oA 1 (.i .i64 (C1 live)) (oA 5 (.b (decide (seen=A6 seen))) z0)))))))) ?_
 exact⟨rfl,by kernel_rfl⟩
 refine sn<|dC (¬C1 live=0∨¬seen=A6 seen) (fun hh2=>?_) fun hh2=>?_
 refine sq<|rG cx [10,11] [10] z0<|sn<|rT<|nR<|qR (.tup [.agg [.nl,.nl,.nl,.nl],.i .i64 ((1:Int))]) (A5.tup (ZLe.cons (A5.agg (ZLe.cons (A5.nl' (show List.map c46 (B4 { live:=live,seen:=seen,rep:=rep,lim:=lim,act:={ kind:=(6:Int),sku:=s,qty:=q,past:=p:Actn }:Wish }).1.adds=[]from(by rw[C2 (w:=⟨live,seen,rep,lim,⟨6,s,q,p⟩⟩) hh2];rfl))) (ZLe.cons (A5.nl' (show List.map c3 (B4 { live:=live,seen:=seen,rep:=rep,lim:=lim,act:={ kind:=(6:Int),sku:=s,qty:=q,past:=p:Actn }:Wish }).1.gone.vec=[]from(by rw[C2 (w:=⟨live,seen,rep,lim,⟨6,s,q,p⟩⟩) hh2];rfl))) (ZLe.cons (A5.nl' (show List.map B1 (B4 { live:=live,seen:=seen,rep:=rep,lim:=lim,act:={ kind:=(6:Int),sku:=s,qty:=q,past:=p:Actn }:Wish }).1.gone.cloud=[]from(by rw[C2 (w:=⟨live,seen,rep,lim,⟨6,s,q,p⟩⟩) hh2];rfl))) (ZLe.cons (A5.nl' (show List.map c54 (B4 { live:=live,seen:=seen,rep:=rep,lim:=lim,act:={ kind:=(6:Int),sku:=s,qty:=q,past:=p:Actn }:Wish }).1.recs=[]from(by rw[C2 (w:=⟨live,seen,rep,lim,⟨6,s,q,p⟩⟩) hh2];rfl))) ZLe.nil))))) (ZLe.cons (A5.eq (show AV.i .i64 1=AV.i .i64 (B4 { live:=live,seen:=seen,rep:=rep,lim:=lim,act:={ kind:=(6:Int),sku:=s,qty:=q,past:=p:Actn }:Wish }).2 from(by rw[C2 (w:=⟨live,seen,rep,lim,⟨6,s,q,p⟩⟩) hh2]))) ZLe.nil)))
 refine sK<|sn<|sq<|sq<|rG cx [0,2,6,8,9,10,12] [6,8,9,10] (fT (Ab6 (live) (seen) (by exact hb.1)) (oA 2 (.tup [.sl (List.map c46 (F0 live seen false).1),.i .i64 ((F0 live seen false).2)]) z0)) ?_
 refine sn<|rD cx [0,2,6,8,9,10,32] [6,8,9,10] (tL 1 c46 ((F0 live seen false).1) (zB 2 ((0:Int) <(↑(F0 live seen false).1.length:Int)))) (fun hh3=>?_) fun hh3=>?_
 refine sq<|rG cx [10,11] [10] z0<|sn<|rT<|nR<|qR (.tup [.agg [.nl,.nl,.nl,.nl],.i .i64 ((1:Int))]) (A5.tup (ZLe.cons (A5.agg (ZLe.cons (A5.nl' (show List.map c46 (B4 { live:=live,seen:=seen,rep:=rep,lim:=lim,act:={ kind:=(6:Int),sku:=s,qty:=q,past:=p:Actn }:Wish }).1.adds=[]from(by rw[C3 (w:=⟨live,seen,rep,lim,⟨6,s,q,p⟩⟩) hh2 hh3];rfl))) (ZLe.cons (A5.nl' (show List.map c3 (B4 { live:=live,seen:=seen,rep:=rep,lim:=lim,act:={ kind:=(6:Int),sku:=s,qty:=q,past:=p:Actn }:Wish }).1.gone.vec=[]from(by rw[C3 (w:=⟨live,seen,rep,lim,⟨6,s,q,p⟩⟩) hh2 hh3];rfl))) (ZLe.cons (A5.nl' (show List.map B1 (B4 { live:=live,seen:=seen,rep:=rep,lim:=lim,act:={ kind:=(6:Int),sku:=s,qty:=q,past:=p:Actn }:Wish }).1.gone.cloud=[]from(by rw[C3 (w:=⟨live,seen,rep,lim,⟨6,s,q,p⟩⟩) hh2 hh3];rfl))) (ZLe.cons (A5.nl' (show List.map c54 (B4 { live:=live,seen:=seen,rep:=rep,lim:=lim,act:={ kind:=(6:Int),sku:=s,qty:=q,past:=p:Actn }:Wish }).1.recs=[]from(by rw[C3 (w:=⟨live,seen,rep,lim,⟨6,s,q,p⟩⟩) hh2 hh3];rfl))) ZLe.nil))))) (ZLe.cons (A5.eq (show AV.i .i64 1=AV.i .i64 (B4 { live:=live,seen:=seen,rep:=rep,lim:=lim,act:={ kind:=(6:Int),sku:=s,qty:=q,past:=p:Actn }:Wish }).2 from(by rw[C3 (w:=⟨live,seen,rep,lim,⟨6,s,q,p⟩⟩) hh2 hh3]))) ZLe.nil)))
 refine sK<|sn<|sq<|sq<|A9 (σ':=⟨[(0,.sl (List.map c46 live)),(2,.i .i64 (rep)),(6,.ptr (6) (0) (0) (0)),(8,.ptr (8) (0) (0) (0)),(9,.ptr (9) (0) (0) (0)),(10,.ptr (10) (0) (0) (0)),(39,.b (decide (rep <(0:Int)∨16≤rep)))],[(6,⟨0,26,.var [.sl (List.map c3 seen.vec),.sl (List.map B1 seen.cloud)]⟩),(8,⟨0,28,.var [.i .i64 (lim.lines),.i .i64 (lim.count)]⟩),(9,⟨0,30,.var [.i .i64 ((6:Int)),.s ({ kind:=(6:Int),sku:=s,qty:=q,past:=p:Actn }.sku),.i .i64 ({ kind:=(6:Int),sku:=s,qty:=q,past:=p:Actn }.qty),.sl (List.map c3 { kind:=(6:Int),sku:=s,qty:=q,past:=p:Actn }.past.vec),.sl (List.map B1 { kind:=(6:Int),sku:=s,qty:=q,past:=p:Actn }.past.cloud)]⟩),(10,⟨0,36,.var [.nl,.nl,.nl,.nl]⟩)]⟩) ?_ ?_
 refine A4 (rep <(0:Int)) (fun h_5=>?_) (fun h_5=>?_)
 refine rG cx [0,2,6,8,9,10,39] [6,8,9,10] (tT 1 (A3 h_5) (tD 5 true (rep <(0:Int)∨16≤rep) (by simp only [eq_true h_5,tsl]) z0)) ?_
 exact⟨rfl,by kernel_rfl⟩
 refine rG cx [0,2,6,8,9,10,39] [6,8,9,10] (tT 1 (A0 h_5) (tB 4 (16≤rep) (tD 5 (decide (16≤rep)) (rep <(0:Int)∨16≤rep) (by simp only [eq_false h_5,tsl]) z0))) ?_
 exact⟨rfl,by kernel_rfl⟩
 refine sn<|dC (rep <(0:Int)∨16≤rep) (fun h6=>?_) fun h6=>?_
 refine sq<|rG cx [10,11] [10] z0<|sn<|rT<|nR<|qR (.tup [.agg [.nl,.nl,.nl,.nl],.i .i64 ((3:Int))]) (A5.tup (ZLe.cons (A5.agg (ZLe.cons (A5.nl' (show List.map c46 (B4 { live:=live,seen:=seen,rep:=rep,lim:=lim,act:={ kind:=(6:Int),sku:=s,qty:=q,past:=p:Actn }:Wish }).1.adds=[]from(by rw[C9 (w:=⟨live,seen,rep,lim,⟨6,s,q,p⟩⟩) hh2 hh3 h6];rfl))) (ZLe.cons (A5.nl' (show List.map c3 (B4 { live:=live,seen:=seen,rep:=rep,lim:=lim,act:={ kind:=(6:Int),sku:=s,qty:=q,past:=p:Actn }:Wish }).1.gone.vec=[]from(by rw[C9 (w:=⟨live,seen,rep,lim,⟨6,s,q,p⟩⟩) hh2 hh3 h6];rfl))) (ZLe.cons (A5.nl' (show List.map B1 (B4 { live:=live,seen:=seen,rep:=rep,lim:=lim,act:={ kind:=(6:Int),sku:=s,qty:=q,past:=p:Actn }:Wish }).1.gone.cloud=[]from(by rw[C9 (w:=⟨live,seen,rep,lim,⟨6,s,q,p⟩⟩) hh2 hh3 h6];rfl))) (ZLe.cons (A5.nl' (show List.map c54 (B4 { live:=live,seen:=seen,rep:=rep,lim:=lim,act:={ kind:=(6:Int),sku:=s,qty:=q,past:=p:Actn }:Wish }).1.recs=[]from(by rw[C9 (w:=⟨live,seen,rep,lim,⟨6,s,q,p⟩⟩) hh2 hh3 h6];rfl))) ZLe.nil))))) (ZLe.cons (A5.eq (show AV.i .i64 3=AV.i .i64 (B4 { live:=live,seen:=seen,rep:=rep,lim:=lim,act:={ kind:=(6:Int),sku:=s,qty:=q,past:=p:Actn }:Wish }).2 from(by rw[C9 (w:=⟨live,seen,rep,lim,⟨6,s,q,p⟩⟩) hh2 hh3 h6]))) ZLe.nil)))
 refine sK<|sn<|sq<|sq<|A9 (σ':=⟨[(0,.sl (List.map c46 live)),(2,.i .i64 (rep)),(6,.ptr (6) (0) (0) (0)),(8,.ptr (8) (0) (0) (0)),(9,.ptr (9) (0) (0) (0)),(10,.ptr (10) (0) (0) (0)),(58,.b (decide (lim.lines <(1:Int)∨(1000:Int) < lim.lines∨lim.count <(1:Int)∨(1000000000:Int) < lim.count)))],[(6,⟨0,26,.var [.sl (List.map c3 seen.vec),.sl (List.map B1 seen.cloud)]⟩),(8,⟨0,28,.var [.i .i64 (lim.lines),.i .i64 (lim.count)]⟩),(9,⟨0,30,.var [.i .i64 ((6:Int)),.s ({ kind:=(6:Int),sku:=s,qty:=q,past:=p:Actn }.sku),.i .i64 ({ kind:=(6:Int),sku:=s,qty:=q,past:=p:Actn }.qty),.sl (List.map c3 { kind:=(6:Int),sku:=s,qty:=q,past:=p:Actn }.past.vec),.sl (List.map B1 { kind:=(6:Int),sku:=s,qty:=q,past:=p:Actn }.past.cloud)]⟩),(10,⟨0,36,.var [.nl,.nl,.nl,.nl]⟩)]⟩) ?_ ?_
 refine A4 (lim.lines <(1:Int)) (fun h_8=>?_) (fun h_8=>?_)
 refine rG cx [0,2,6,8,9,10,58] [6,8,9,10] (tT 2 (A3 h_8) (tD 17 true (lim.lines <(1:Int)∨(1000:Int) < lim.lines∨lim.count <(1:Int)∨(1000000000:Int) < lim.count) (by simp only [eq_true h_8,tsl]) z0)) ?_
 exact⟨rfl,by kernel_rfl⟩
 refine A4 ((1000:Int) < lim.lines) (fun h_9=>?_) (fun h_9=>?_)
 refine rG cx [0,2,6,8,9,10,58] [6,8,9,10] (tT 2 (A0 h_8) (tT 6 (A3 h_9) (tD 17 true (lim.lines <(1:Int)∨(1000:Int) < lim.lines∨lim.count <(1:Int)∨(1000000000:Int) < lim.count) (by simp only [eq_false h_8,eq_true h_9,tsl]) z0))) ?_
 exact⟨rfl,by kernel_rfl⟩
 refine A4 (lim.count <(1:Int)) (fun h_10=>?_) (fun h_10=>?_)
 refine rG cx [0,2,6,8,9,10,58] [6,8,9,10] (tT 2 (A0 h_8) (tT 6 (A0 h_9) (tT 11 (A3 h_10) (tD 17 true (lim.lines <(1:Int)∨(1000:Int) < lim.lines∨lim.count <(1:Int)∨(1000000000:Int) < lim.count) (by simp only [eq_false h_8,eq_false h_9,eq_true h_10,tsl]) z0)))) ?_
 exact⟨rfl,by kernel_rfl⟩
 refine rG cx [0,2,6,8,9,10,58] [6,8,9,10] (tT 2 (A0 h_8) (tT 6 (A0 h_9) (tT 11 (A0 h_10) (tB 16 ((1000000000:Int) < lim.count) (tD 17 (decide ((1000000000:Int) < lim.count)) (lim.lines <(1:Int)∨(1000:Int) < lim.lines∨lim.count <(1:Int)∨(1000000000:Int) < lim.count) (by simp only [eq_false h_8,eq_false h_9,eq_false h_10,tsl]) z0))))) ?_
 exact⟨rfl,by kernel_rfl⟩
 refine sn<|dC (lim.lines <(1:Int)∨(1000:Int) < lim.lines∨lim.count <(1:Int)∨(1000000000:Int) < lim.count) (fun h11=>?_) fun h11=>?_
 refine sq<|rG cx [10,11] [10] z0<|sn<|rT<|nR<|qR (.tup [.agg [.nl,.nl,.nl,.nl],.i .i64 ((2:Int))]) (A5.tup (ZLe.cons (A5.agg (ZLe.cons (A5.nl' (show List.map c46 (B4 { live:=live,seen:=seen,rep:=rep,lim:=lim,act:={ kind:=(6:Int),sku:=s,qty:=q,past:=p:Actn }:Wish }).1.adds=[]from(by rw[D0 (w:=⟨live,seen,rep,lim,⟨6,s,q,p⟩⟩) hh2 hh3 h6 h11];rfl))) (ZLe.cons (A5.nl' (show List.map c3 (B4 { live:=live,seen:=seen,rep:=rep,lim:=lim,act:={ kind:=(6:Int),sku:=s,qty:=q,past:=p:Actn }:Wish }).1.gone.vec=[]from(by rw[D0 (w:=⟨live,seen,rep,lim,⟨6,s,q,p⟩⟩) hh2 hh3 h6 h11];rfl))) (ZLe.cons (A5.nl' (show List.map B1 (B4 { live:=live,seen:=seen,rep:=rep,lim:=lim,act:={ kind:=(6:Int),sku:=s,qty:=q,past:=p:Actn }:Wish }).1.gone.cloud=[]from(by rw[D0 (w:=⟨live,seen,rep,lim,⟨6,s,q,p⟩⟩) hh2 hh3 h6 h11];rfl))) (ZLe.cons (A5.nl' (show List.map c54 (B4 { live:=live,seen:=seen,rep:=rep,lim:=lim,act:={ kind:=(6:Int),sku:=s,qty:=q,past:=p:Actn }:Wish }).1.recs=[]from(by rw[D0 (w:=⟨live,seen,rep,lim,⟨6,s,q,p⟩⟩) hh2 hh3 h6 h11];rfl))) ZLe.nil))))) (ZLe.cons (A5.eq (show AV.i .i64 2=AV.i .i64 (B4 { live:=live,seen:=seen,rep:=rep,lim:=lim,act:={ kind:=(6:Int),sku:=s,qty:=q,past:=p:Actn }:Wish }).2 from(by rw[D0 (w:=⟨live,seen,rep,lim,⟨6,s,q,p⟩⟩) hh2 hh3 h6 h11]))) ZLe.nil)))
 refine sK<|sn<|sq<|sq<|rG cx [0,2,6,8,9,10,14] [6,8,9,10] (fT (Aa7 ({ kind:=(6:Int),sku:={ kind:=(6:Int),sku:=s,qty:=q,past:=p:Actn }.sku,qty:={ kind:=(6:Int),sku:=s,qty:=q,past:=p:Actn }.qty,past:={ kind:=(6:Int),sku:=s,qty:=q,past:=p:Actn }.past:Actn }) (by(with_reducible assumption))) (oA 1 (.i .i64 (G8 { kind:=(6:Int),sku:={ kind:=(6:Int),sku:=s,qty:=q,past:=p:Actn }.sku,qty:={ kind:=(6:Int),sku:=s,qty:=q,past:=p:Actn }.qty,past:={ kind:=(6:Int),sku:=s,qty:=q,past:=p:Actn }.past:Actn })) z0))<|sn<|sq<|rG cx [0,2,6,8,9,10,14,63] [6,8,9,10] (tN 1 (G8 { kind:=(6:Int),sku:={ kind:=(6:Int),sku:=s,qty:=q,past:=p:Actn }.sku,qty:={ kind:=(6:Int),sku:=s,qty:=q,past:=p:Actn }.qty,past:={ kind:=(6:Int),sku:=s,qty:=q,past:=p:Actn }.past:Actn }) (0:Int) z0)<|sn<|dC (¬G8 { kind:=(6:Int),sku:={ kind:=(6:Int),sku:=s,qty:=q,past:=p:Actn }.sku,qty:={ kind:=(6:Int),sku:=s,qty:=q,past:=p:Actn }.qty,past:={ kind:=(6:Int),sku:=s,qty:=q,past:=p:Actn }.past:Actn }=(0:Int)) (fun h12=>?_) fun h12=>?_
 refine sq<|rG cx [10,11] [10] z0<|sn<|rT<|nR<|qR (.tup [.agg [.nl,.nl,.nl,.nl],.i .i64 (G8 { kind:=(6:Int),sku:={ kind:=(6:Int),sku:=s,qty:=q,past:=p:Actn }.sku,qty:={ kind:=(6:Int),sku:=s,qty:=q,past:=p:Actn }.qty,past:={ kind:=(6:Int),sku:=s,qty:=q,past:=p:Actn }.past:Actn })]) (A5.tup (ZLe.cons (A5.agg (ZLe.cons (A5.nl' (show List.map c46 (B4 { live:=live,seen:=seen,rep:=rep,lim:=lim,act:={ kind:=(6:Int),sku:=s,qty:=q,past:=p:Actn }:Wish }).1.adds=[]from(by rw[D3 (w:=⟨live,seen,rep,lim,⟨6,s,q,p⟩⟩) hh2 hh3 h6 h11 h12];rfl))) (ZLe.cons (A5.nl' (show List.map c3 (B4 { live:=live,seen:=seen,rep:=rep,lim:=lim,act:={ kind:=(6:Int),sku:=s,qty:=q,past:=p:Actn }:Wish }).1.gone.vec=[]from(by rw[D3 (w:=⟨live,seen,rep,lim,⟨6,s,q,p⟩⟩) hh2 hh3 h6 h11 h12];rfl))) (ZLe.cons (A5.nl' (show List.map B1 (B4 { live:=live,seen:=seen,rep:=rep,lim:=lim,act:={ kind:=(6:Int),sku:=s,qty:=q,past:=p:Actn }:Wish }).1.gone.cloud=[]from(by rw[D3 (w:=⟨live,seen,rep,lim,⟨6,s,q,p⟩⟩) hh2 hh3 h6 h11 h12];rfl))) (ZLe.cons (A5.nl' (show List.map c54 (B4 { live:=live,seen:=seen,rep:=rep,lim:=lim,act:={ kind:=(6:Int),sku:=s,qty:=q,past:=p:Actn }:Wish }).1.recs=[]from(by rw[D3 (w:=⟨live,seen,rep,lim,⟨6,s,q,p⟩⟩) hh2 hh3 h6 h11 h12];rfl))) ZLe.nil))))) (ZLe.cons (A5.eq (show AV.i .i64 (G8 { kind:=(6:Int),sku:={ kind:=(6:Int),sku:=s,qty:=q,past:=p:Actn }.sku,qty:={ kind:=(6:Int),sku:=s,qty:=q,past:=p:Actn }.qty,past:={ kind:=(6:Int),sku:=s,qty:=q,past:=p:Actn }.past:Actn })=AV.i .i64 (B4 { live:=live,seen:=seen,rep:=rep,lim:=lim,act:={ kind:=(6:Int),sku:=s,qty:=q,past:=p:Actn }:Wish }).2 from(by rw[D3 (w:=⟨live,seen,rep,lim,⟨6,s,q,p⟩⟩) hh2 hh3 h6 h11 h12]))) ZLe.nil)))
 refine sK<|sn<|sq<|rA cx [10,11] [10] (fT (A1w ) (fO ((0:Int)≤(6:Int)) (fR (some [AV.fn (Fn.func (159:FuncId)) [] []]) (fR 1 (fT (con159 ({ live:=live,seen:=seen,rep:=rep,lim:=lim,act:={ kind:=(6:Int),sku:={ kind:=(6:Int),sku:=s,qty:=q,past:=p:Actn }.sku,qty:={ kind:=(6:Int),sku:=s,qty:=q,past:=p:Actn }.qty,past:={ kind:=(6:Int),sku:=s,qty:=q,past:=p:Actn }.past:Actn }:Wish }) (by(with_reducible assumption))) (oA 0 (A95 (A1w )) (oR 3 [.fn (Fn.func (159:FuncId)) [] []] (oA 11 (.tup [.agg [.sl (List.map c46 (H2 E3 { live:=live,seen:=seen,rep:=rep,lim:=lim,act:={ kind:=(6:Int),sku:={ kind:=(6:Int),sku:=s,qty:=q,past:=p:Actn }.sku,qty:={ kind:=(6:Int),sku:=s,qty:=q,past:=p:Actn }.qty,past:={ kind:=(6:Int),sku:=s,qty:=q,past:=p:Actn }.past:Actn }:Wish }.act.past).adds),.sl (List.map c3 (H2 E3 { live:=live,seen:=seen,rep:=rep,lim:=lim,act:={ kind:=(6:Int),sku:={ kind:=(6:Int),sku:=s,qty:=q,past:=p:Actn }.sku,qty:={ kind:=(6:Int),sku:=s,qty:=q,past:=p:Actn }.qty,past:={ kind:=(6:Int),sku:=s,qty:=q,past:=p:Actn }.past:Actn }:Wish }.act.past).gone.vec),.sl (List.map B1 (H2 E3 { live:=live,seen:=seen,rep:=rep,lim:=lim,act:={ kind:=(6:Int),sku:={ kind:=(6:Int),sku:=s,qty:=q,past:=p:Actn }.sku,qty:={ kind:=(6:Int),sku:=s,qty:=q,past:=p:Actn }.qty,past:={ kind:=(6:Int),sku:=s,qty:=q,past:=p:Actn }.past:Actn }:Wish }.act.past).gone.cloud),.sl (List.map c54 (H2 E3 { live:=live,seen:=seen,rep:=rep,lim:=lim,act:={ kind:=(6:Int),sku:={ kind:=(6:Int),sku:=s,qty:=q,past:=p:Actn }.sku,qty:={ kind:=(6:Int),sku:=s,qty:=q,past:=p:Actn }.qty,past:={ kind:=(6:Int),sku:=s,qty:=q,past:=p:Actn }.past:Actn }:Wish }.act.past).recs)],.i .i64 ((0:Int))]) z0))))))))<|sn<|rT<|qR (.tup [.agg [.sl (List.map c46 (H2 E3 { live:=live,seen:=seen,rep:=rep,lim:=lim,act:={ kind:=(6:Int),sku:={ kind:=(6:Int),sku:=s,qty:=q,past:=p:Actn }.sku,qty:={ kind:=(6:Int),sku:=s,qty:=q,past:=p:Actn }.qty,past:={ kind:=(6:Int),sku:=s,qty:=q,past:=p:Actn }.past:Actn }:Wish }.act.past).adds),.sl (List.map c3 (H2 E3 { live:=live,seen:=seen,rep:=rep,lim:=lim,act:={ kind:=(6:Int),sku:={ kind:=(6:Int),sku:=s,qty:=q,past:=p:Actn }.sku,qty:={ kind:=(6:Int),sku:=s,qty:=q,past:=p:Actn }.qty,past:={ kind:=(6:Int),sku:=s,qty:=q,past:=p:Actn }.past:Actn }:Wish }.act.past).gone.vec),.sl (List.map B1 (H2 E3 { live:=live,seen:=seen,rep:=rep,lim:=lim,act:={ kind:=(6:Int),sku:={ kind:=(6:Int),sku:=s,qty:=q,past:=p:Actn }.sku,qty:={ kind:=(6:Int),sku:=s,qty:=q,past:=p:Actn }.qty,past:={ kind:=(6:Int),sku:=s,qty:=q,past:=p:Actn }.past:Actn }:Wish }.act.past).gone.cloud),.sl (List.map c54 (H2 E3 { live:=live,seen:=seen,rep:=rep,lim:=lim,act:={ kind:=(6:Int),sku:={ kind:=(6:Int),sku:=s,qty:=q,past:=p:Actn }.sku,qty:={ kind:=(6:Int),sku:=s,qty:=q,past:=p:Actn }.qty,past:={ kind:=(6:Int),sku:=s,qty:=q,past:=p:Actn }.past:Actn }:Wish }.act.past).recs)],.i .i64 ((0:Int))]) (A5.tup (ZLe.cons (A5.eq (show AV.agg [AV.sl (List.map c46 (H2 E3 { live:=live,seen:=seen,rep:=rep,lim:=lim,act:={ kind:=(6:Int),sku:={ kind:=(6:Int),sku:=s,qty:=q,past:=p:Actn }.sku,qty:={ kind:=(6:Int),sku:=s,qty:=q,past:=p:Actn }.qty,past:={ kind:=(6:Int),sku:=s,qty:=q,past:=p:Actn }.past:Actn }:Wish }.act.past).adds),AV.sl (List.map c3 (H2 E3 { live:=live,seen:=seen,rep:=rep,lim:=lim,act:={ kind:=(6:Int),sku:={ kind:=(6:Int),sku:=s,qty:=q,past:=p:Actn }.sku,qty:={ kind:=(6:Int),sku:=s,qty:=q,past:=p:Actn }.qty,past:={ kind:=(6:Int),sku:=s,qty:=q,past:=p:Actn }.past:Actn }:Wish }.act.past).gone.vec),AV.sl (List.map B1 (H2 E3 { live:=live,seen:=seen,rep:=rep,lim:=lim,act:={ kind:=(6:Int),sku:={ kind:=(6:Int),sku:=s,qty:=q,past:=p:Actn }.sku,qty:={ kind:=(6:Int),sku:=s,qty:=q,past:=p:Actn }.qty,past:={ kind:=(6:Int),sku:=s,qty:=q,past:=p:Actn }.past:Actn }:Wish }.act.past).gone.cloud),AV.sl (List.map c54 (H2 E3 { live:=live,seen:=seen,rep:=rep,lim:=lim,act:={ kind:=(6:Int),sku:={ kind:=(6:Int),sku:=s,qty:=q,past:=p:Actn }.sku,qty:={ kind:=(6:Int),sku:=s,qty:=q,past:=p:Actn }.qty,past:={ kind:=(6:Int),sku:=s,qty:=q,past:=p:Actn }.past:Actn }:Wish }.act.past).recs)]=AV.agg [AV.sl (List.map c46 (B4 { live:=live,seen:=seen,rep:=rep,lim:=lim,act:={ kind:=(6:Int),sku:=s,qty:=q,past:=p:Actn }:Wish }).1.adds),AV.sl (List.map c3 (B4 { live:=live,seen:=seen,rep:=rep,lim:=lim,act:={ kind:=(6:Int),sku:=s,qty:=q,past:=p:Actn }:Wish }).1.gone.vec),AV.sl (List.map B1 (B4 { live:=live,seen:=seen,rep:=rep,lim:=lim,act:={ kind:=(6:Int),sku:=s,qty:=q,past:=p:Actn }:Wish }).1.gone.cloud),AV.sl (List.map c54 (B4 { live:=live,seen:=seen,rep:=rep,lim:=lim,act:={ kind:=(6:Int),sku:=s,qty:=q,past:=p:Actn }:Wish }).1.recs)]from(by rw[D9 (w:=⟨live,seen,rep,lim,⟨6,s,q,p⟩⟩) hh2 hh3 h6 h11 h12,Ax3 (w:=⟨live,seen,rep,lim,⟨6,s,q,p⟩⟩) rfl]))) (ZLe.cons (A5.eq (show AV.i .i64 0=AV.i .i64 (B4 { live:=live,seen:=seen,rep:=rep,lim:=lim,act:={ kind:=(6:Int),sku:=s,qty:=q,past:=p:Actn }:Wish }).2 from(by rw[D9 (w:=⟨live,seen,rep,lim,⟨6,s,q,p⟩⟩) hh2 hh3 h6 h11 h12,Ax3 (w:=⟨live,seen,rep,lim,⟨6,s,q,p⟩⟩) rfl]))) ZLe.nil)))
theorem U2{a:Actn}(h:G8 a=0):a.kind=1∨a.kind=2∨a.kind=3∨a.kind=4∨a.kind=5∨a.kind=6:=by
 unfold G8 at h
 split at h
 ·omega
 ·omega
noncomputable def E5(live:List Entry)(seen:Past)(rep:Int)(lim:Limits)(a:Actn):Facts×Int:=B4 ⟨live,seen,rep,lim,a⟩
theorem con15(live:List Entry)(seen:Past)(rep:Int)(lim:Limits)(a:Actn)(hs:live.length*40≤140737488351232)(hb:szP seen)(hp:szP a.past):Con Tryz.prog 15 [.sl (live.map c46),.agg (c26 seen),.i .i64 rep,.agg (c28 lim),.agg (c30 a)] (.tup [.agg (c36 (E5 live seen rep lim a).1),.i .i64 (E5 live seen rep lim a).2]):=by
 by_cases h:G8 a=0
 ·have h:=U2 h
  obtain⟨k,s,q,p⟩:=a
  rcases h with h | h | h | h | h | h <;> cases h
  ·exact B2l live seen rep lim s q p hs hb hp
  ·exact B2m live seen rep lim s q p hs hb hp
  ·exact B2n live seen rep lim s q p hs hb hp
  ·exact B2o live seen rep lim s q p hs hb hp
  ·exact B2p live seen rep lim s q p hs hb hp
  ·exact B2q live seen rep lim s q p hs hb hp
 ·exact B2k live seen rep lim a hs hb hp h
end Go.Proofs.YtphcaholhacnpaaGreat
namespace Go.Proofs.YtphcaholhacnpaaGreat
open Go.E
set_option maxRecDepth 100000
set_option maxHeartbeats 4000000
def B6u(p:ByteArray×Int):List AV:=[.s p.1,.i .i64 p.2]
def Ab7(s:ByteArray)(r:Int)(e:Entry):Bool:=decide ((s=E3∨e.sku=s)∧(r < 0∨e.dot.rep=r))
def K2(s:ByteArray)(r:Int)(e:Entry):Bool:=decide (e.sku=s∧(r < 0∨e.dot.rep=r))
def Ab8(s:ByteArray)(r:Int)(es:List Entry)(i:Int)(l:List Dot):Prop:=l=((es.take i.toNat).filter (Ab7 s r)).map fun e=>e.dot
def A59(s:ByteArray)(r:Int)(es:List Entry)(i:Int)(l:List Dot):Prop:=0≤i∧i≤es.length∧(l.length:Int)≤i∧Ab8 s r es i l
def decSel(es:List Entry)(i:Int)(l:List Dot):Nat:=(es.length-i).toNat
def B2r(s:ByteArray)(r:Int)(es:List Entry)(m n i:Int):Prop:=0≤i∧i≤es.length∧m=K9 ((es.take i.toNat).filter (K2 s r))∧n=((es.take i.toNat).filter (K2 s r)).length
def decSu(es:List Entry)(m n i:Int):Nat:=(es.length-i).toNat
def Z5(es:List Entry):List (ByteArray×Int):=es.foldl (fun m e=>A06 e.sku 1 m) []
def B69(es:List Entry)(i:Int)(m:List (ByteArray×Int)):Prop:=0≤i∧i≤es.length∧(m.length:Int)≤i∧m=Z5 (es.take i.toNat)
def decNl(es:List Entry)(i:Int)(m:List (ByteArray×Int)):Nat:=(es.length-i).toNat
def G3(es:List Entry)(s:ByteArray)(r:Int):Past:=I4 (ofT ((es.filter (Ab7 s r)).map fun e=>e.dot))
def A12(live:List Entry)(lim:Limits)(a:Actn):Int:=if((live.filter (K2 a.sku (-1))).length:Int)=0∧lim.lines≤(Z5 live).length then 12 else if a.kind=2∧1000000 < K9 (live.filter (K2 a.sku (-1)))+a.qty then 13 else 0
theorem K8{p:Entry→Bool}{es:List Entry}{i:Int}(h0:0≤i)(h:i < es.length):(es.take (i+1).toNat).filter p=(es.take i.toNat).filter p++(if p es[i.toNat]! = true then[es[i.toNat]!]else[]):=by
 rw[← D6 h0 h,List.filter_append,List.filter_cons,List.filter_nil]
theorem U3{es:List Entry}(hE:C1 es=0){p:Entry→Bool}{i:Int}(h0:0≤i)(h1:i≤es.length):0≤K9 ((es.take i.toNat).filter p)∧K9 ((es.take i.toNat).filter p)≤1000000*i∧(((es.take i.toNat).filter p).length:Int)≤i:=by
 have h2:=R3 (l:=(es.take i.toNat).filter p) fun e he=>A1g hE e (List.mem_of_mem_take (List.mem_filter.1 he).1)
 have h3:=List.length_filter_le p (es.take i.toNat)
 rw[List.length_take]at h3
 omega
theorem Ax5{s:ByteArray}{r:Int}{e:Entry}:(s=E3∧(r < 0∨e.dot.rep=r)∨¬ s=E3∧e.sku=s∧(r < 0∨e.dot.rep=r))↔Ab7 s r e=true:=by
 unfold Ab7
 rw[decide_eq_true_iff]
 by_cases k:s=E3
 ·simp [k]
 ·simp [k]
theorem B6a{s:ByteArray}{r:Int}{es:List Entry}{i:Int}{l:List Dot}(h0:0≤i)(h:i < es.length)(hl:(l.length:Int)≤i)(hs:Ab8 s r es i l)(k:Ab7 s r es[i.toNat]! = true):A59 s r es (i+1) (l++[es[i.toNat]!.dot]):=by
 refine⟨by omega,by omega,by rw[List.length_append,List.length_cons,List.length_nil];omega,?_⟩
 unfold Ab8 at hs ⊢
 rw[K8 h0 h,if_pos k,List.map_append,← hs]
 rfl
theorem sel_no{s:ByteArray}{r:Int}{es:List Entry}{i:Int}{l:List Dot}(h0:0≤i)(h:i < es.length)(hl:(l.length:Int)≤i)(hs:Ab8 s r es i l)(k:¬ Ab7 s r es[i.toNat]! = true):A59 s r es (i+1) l:=by
 refine⟨by omega,by omega,by omega,?_⟩
 unfold Ab8 at hs ⊢
 rw[K8 h0 h,if_neg k,List.append_nil,← hs]
theorem Ax6(a:List Entry)(e:Entry):Z5 (a++[e])=A06 e.sku 1 (Z5 a):=by
 unfold Z5
 rw[List.foldl_append]
 rfl
theorem Al3(es:List Entry)(s:ByteArray)(r:Int)(hs:es.length*40≤140737488351232):Con Tryz.prog 45 [.sl (es.map c46),.s s,.i .i64 r] (.agg (c26 (G3 es s r))) :=
 by
 refine lN 0 c46 (es) Tryz.func45 fun hl_0=>sC B3 [.cell 6 26] 50 Tryz.func45 ?_
 intro e0 cx
 refine sq<|rG cx [0,1,2,6] [6] z0<|sn<|sq<|rG cx [0,1,2,6,7] [6] z0<|sn<|sq<|sq<|rG cx [0,1,2,6,7,8] [6] z0<|sn<|bL 0<|I7 7 1007 44 2 (σ':=⟨[(0,.sl (List.map c46 es)),(1,.s (s)),(2,.i .i64 (r)),(6,.ptr (6) (0) (0) (0)),(7,.own 1007 0),(8,.i .i64 ((0:Int)))],[(6,⟨0,26,.var [.nl,.nl]⟩),(1007,⟨0,44,.row 2 (List.map c44 [])⟩)]⟩) (by kernel_rfl)<|sL (X:=Int×List Dot) (fun x=>⟨[(0,.sl (List.map c46 es)),(1,.s (s)),(2,.i .i64 (r)),(6,.ptr (6) (0) (0) (0)),(7,.own 1007 0),(8,.i .i64 (x.1))],[(6,⟨0,26,.var [.nl,.nl]⟩),(1007,⟨0,44,.row 2 (List.map c44 x.2)⟩)]⟩) (fun x ↦ decSel es x.1 x.2) (fun x ↦ A59 s r es x.1 x.2) [0,1,2,6,7,8] [6,1007] (((0:Int),[])) (show A59 s r es (0:Int) []from(by exact⟨by omega,by omega,by simp,rfl⟩)) ?_
 rintro⟨i0,l1⟩ h_2
 obtain⟨hh3,hh4,hh5,h6⟩:0≤i0∧i0≤(↑es.length:Int)∧(↑l1.length:Int)≤i0∧Ab8 s r es i0 l1:=h_2
 refine sq<|rD cx [0,1,2,6,7,8,12] [6,1007] (tL 2 c46 es (zB 3 (i0 <(↑es.length:Int)))) (fun h7=>?_) fun h7=>?_
 refine sK<|sn<|sq<|bL 1<|sq<|A9 (σ':=⟨[(0,.sl (List.map c46 es)),(1,.s (s)),(2,.i .i64 (r)),(6,.ptr (6) (0) (0) (0)),(7,.own 1007 0),(8,.i .i64 (i0)),(39,.b (decide (s={ data:=#[]:ByteArray }∧(r <(0:Int)∨es[i0.toNat]!.dot.rep=r)∨¬s={ data:=#[]:ByteArray }∧es[i0.toNat]!.sku=s∧(r <(0:Int)∨es[i0.toNat]!.dot.rep=r))))],[(6,⟨0,26,.var [.nl,.nl]⟩),(1007,⟨0,44,.row 2 (List.map c44 l1)⟩)]⟩) ?_ ?_
 refine A4 (s={ data:=#[]:ByteArray }) (fun h_9=>?_) (fun h_9=>?_)
 refine A4 (r <(0:Int)) (fun h_10=>?_) (fun h_10=>?_)
 refine rG cx [0,1,2,6,7,8,39] [6,1007] (tT 1 (N4 h_9:AV.b (s.toList == { data:=#[]:ByteArray }.toList)=AV.b true) (tT 13 (A3 h_10) (tD 24 true (s={ data:=#[]:ByteArray }∧(r <(0:Int)∨es[i0.toNat]!.dot.rep=r)∨¬s={ data:=#[]:ByteArray }∧es[i0.toNat]!.sku=s∧(r <(0:Int)∨es[i0.toNat]!.dot.rep=r)) (by simp only [eq_true h_9,eq_true h_10,tsl]) z0))) ?_
 exact⟨rfl,by kernel_rfl⟩
 refine rG cx [0,1,2,6,7,8,39] [6,1007] (tT 1 (N4 h_9:AV.b (s.toList == { data:=#[]:ByteArray }.toList)=AV.b true) (tT 13 (A0 h_10) (fA (0≤i0) (fG c46 es i0.toNat (fR 4 (tB 22 (es[i0.toNat]!.dot.rep=r) (tD 24 (decide (es[i0.toNat]!.dot.rep=r)) (s={ data:=#[]:ByteArray }∧(r <(0:Int)∨es[i0.toNat]!.dot.rep=r)∨¬s={ data:=#[]:ByteArray }∧es[i0.toNat]!.sku=s∧(r <(0:Int)∨es[i0.toNat]!.dot.rep=r)) (by simp only [eq_true h_9,eq_false h_10,tsl]) (oR 17 (c46 es[i0.toNat]!) z0)))))))) ?_
 exact⟨rfl,by kernel_rfl⟩
 refine A4 (es[i0.toNat]!.sku=s) (fun h_11=>?_) (fun h_11=>?_)
 refine A4 (r <(0:Int)) (fun h_12=>?_) (fun h_12=>?_)
 refine rG cx [0,1,2,6,7,8,39] [6,1007] (tT 1 (Q0 h_9:AV.b (s.toList == { data:=#[]:ByteArray }.toList)=AV.b false) (fA (0≤i0) (fG c46 es i0.toNat (fR 4 (tT 9 (N4 h_11:AV.b (es[i0.toNat]!.sku.toList == s.toList)=AV.b true) (tT 13 (A3 h_12) (tD 24 true (s={ data:=#[]:ByteArray }∧(r <(0:Int)∨es[i0.toNat]!.dot.rep=r)∨¬s={ data:=#[]:ByteArray }∧es[i0.toNat]!.sku=s∧(r <(0:Int)∨es[i0.toNat]!.dot.rep=r)) (by simp only [eq_false h_9,eq_true h_11,eq_true h_12,tsl]) (oR 5 (c46 es[i0.toNat]!) z0)))))))) ?_
 exact⟨rfl,by kernel_rfl⟩
 refine rG cx [0,1,2,6,7,8,39] [6,1007] (tT 1 (Q0 h_9:AV.b (s.toList == { data:=#[]:ByteArray }.toList)=AV.b false) (fA (0≤i0) (fG c46 es i0.toNat (fR 4 (tT 9 (N4 h_11:AV.b (es[i0.toNat]!.sku.toList == s.toList)=AV.b true) (tT 13 (A0 h_12) (fA (0≤i0) (fG c46 es i0.toNat (fR 4 (tB 22 (es[i0.toNat]!.dot.rep=r) (tD 24 (decide (es[i0.toNat]!.dot.rep=r)) (s={ data:=#[]:ByteArray }∧(r <(0:Int)∨es[i0.toNat]!.dot.rep=r)∨¬s={ data:=#[]:ByteArray }∧es[i0.toNat]!.sku=s∧(r <(0:Int)∨es[i0.toNat]!.dot.rep=r)) (by simp only [eq_false h_9,eq_true h_11,eq_false h_12,tsl]) (oR 5 (c46 es[i0.toNat]!) (oR 17 (c46 es[i0.toNat]!) z0))))))))))))) ?_
 exact⟨rfl,by kernel_rfl⟩
 refine rG cx [0,1,2,6,7,8,39] [6,1007] (tT 1 (Q0 h_9:AV.b (s.toList == { data:=#[]:ByteArray }.toList)=AV.b false) (fA (0≤i0) (fG c46 es i0.toNat (fR 4 (tT 9 (Q0 h_11:AV.b (es[i0.toNat]!.sku.toList == s.toList)=AV.b false) (tD 24 false (s={ data:=#[]:ByteArray }∧(r <(0:Int)∨es[i0.toNat]!.dot.rep=r)∨¬s={ data:=#[]:ByteArray }∧es[i0.toNat]!.sku=s∧(r <(0:Int)∨es[i0.toNat]!.dot.rep=r)) (by simp only [eq_false h_9,eq_false h_11,tsl]) (oR 5 (c46 es[i0.toNat]!) z0))))))) ?_
 exact⟨rfl,by kernel_rfl⟩
 refine sn<|dC (s={ data:=#[]:ByteArray }∧(r <(0:Int)∨es[i0.toNat]!.dot.rep=r)∨¬s={ data:=#[]:ByteArray }∧es[i0.toNat]!.sku=s∧(r <(0:Int)∨es[i0.toNat]!.dot.rep=r)) (fun h13=>?_) fun h13=>?_
 refine rG cx [0,1,2,6,7,8] [6,1007] (fA (0≤i0) (fG c46 es i0.toNat (fR 4 (fN 2 4 (fR 44 (fR 2 (fR 2 (fX c44 [es[i0.toNat]!.dot] 2 (fS c44 l1 c44 [es[i0.toNat]!.dot] (fP (((List.map c44 l1).length+(List.map c44 [es[i0.toNat]!.dot]).length)*(16:Nat)≤(140737488355328:Nat)) (by(simp only [Go.maxLen,List.length_map,List.length_append,List.length_cons,List.length_nil];omega)) (fM c44 l1 [es[i0.toNat]!.dot] (oR 3 (c46 es[i0.toNat]!) (oV 7 { rows:=some (List.map c44 (l1++[es[i0.toNat]!.dot])) } z0)))))))))))))<|bN<|sn<|rG cx [0,1,2,6,7,8] [6,1007] (tW 1 (i0+1) z0)<|sn<|nX ((i0+1,l1++[es[i0.toNat]!.dot])) (show((↑es.length:Int)-(i0+1)).toNat <((↑es.length:Int)-i0).toNat from(by omega)) (show A59 s r es (i0+1) (l1++[es[i0.toNat]!.dot])from(by exact B6a hh3 h7 hh5 h6 (Ax5.1 h13)))
 refine sK<|bN<|sn<|rG cx [0,1,2,6,7,8] [6,1007] (tW 1 (i0+1) z0)<|sn<|nX ((i0+1,l1)) (show((↑es.length:Int)-(i0+1)).toNat <((↑es.length:Int)-i0).toNat from(by omega)) (show A59 s r es (i0+1) l1 from(by exact sel_no hh3 h7 hh5 h6 fun k=>h13 (Ax5.2 k)))
 refine eX 0<|nE<|nE<|bH<|sn<|sq<|rG cx [6] [6] (fT (con122 (l1) (by omega)) (oA 1 (.agg [.sl (List.map c3 (I4 (ofT l1)).vec),.sl (List.map B1 (I4 (ofT l1)).cloud)]) z0))<|sn<|rT<|qR (.agg [.sl (List.map c3 (I4 (ofT l1)).vec),.sl (List.map B1 (I4 (ofT l1)).cloud)]) (.eq ?g3);rotate_left
 case g3 =>
  unfold Ab8 at h6
  rw[List.take_of_length_le (by omega)]at h6
  rw[h6]
  rfl
theorem con78(es:List Entry)(s:ByteArray)(r:Int)(hs:es.length*40≤140737488351232)(hE:C1 es=0):Con Tryz.prog 78 [.sl (es.map c46),.s s,.i .i64 r] (.tup [.i .i64 (K9 (es.filter (K2 s r))),.i .i64 ((es.filter (K2 s r)).length)]) :=
 by
 refine lN 0 c46 (es) Tryz.func78 fun hl_0=>sC B3 [.tmp 6,.tmp 7] 49 Tryz.func78 ?_
 intro e0 cx
 refine sq<|rG cx [0,1,2] [] z0<|sn<|sq<|rG cx [0,1,2,8,9] [] z0<|sn<|sq<|sq<|rG cx [0,1,2,8,9,10] [] z0<|sn<|bL 0<|sL (X:=Int×Int×Int) (fun x=>⟨[(0,.sl (List.map c46 es)),(1,.s (s)),(2,.i .i64 (r)),(8,.i .i64 (x.1)),(9,.i .i64 (x.2.1)),(10,.i .i64 (x.2.2))],[]⟩) (fun x ↦ decSu es x.1 x.2.1 x.2.2) (fun x ↦ B2r s r es x.1 x.2.1 x.2.2) [0,1,2,8,9,10] [] (((0:Int),(0:Int),(0:Int))) (show B2r s r es (0:Int) (0:Int) (0:Int)from(by exact⟨by omega,by omega,rfl,rfl⟩)) ?_
 rintro⟨m0,n1,i2⟩ h_3
 obtain⟨hh4,hh5,h6,h7⟩:0≤i2∧i2≤(↑es.length:Int)∧m0=K9 (List.filter (K2 s r) (List.take i2.toNat es))∧n1=(↑(List.filter (K2 s r) (List.take i2.toNat es)).length:Int):=h_3
 refine sq<|rD cx [0,1,2,8,9,10,14] [] (tL 2 c46 es (zB 3 (i2 <(↑es.length:Int)))) (fun h8=>?_) fun h8=>?_
 refine sK<|sn<|sq<|bL 1<|sq<|A9 (σ':=⟨[(0,.sl (List.map c46 es)),(1,.s (s)),(2,.i .i64 (r)),(8,.i .i64 (m0)),(9,.i .i64 (n1)),(10,.i .i64 (i2)),(37,.b (decide (es[i2.toNat]!.sku=s∧(r <(0:Int)∨es[i2.toNat]!.dot.rep=r))))],[]⟩) ?_ ?_
 refine A4 (es[i2.toNat]!.sku=s) (fun h_10=>?_) (fun h_10=>?_)
 refine A4 (r <(0:Int)) (fun h_11=>?_) (fun h_11=>?_)
 refine rG cx [0,1,2,8,9,10,37] [] (fA (0≤i2) (fG c46 es i2.toNat (fR 4 (tT 6 (N4 h_10:AV.b (es[i2.toNat]!.sku.toList == s.toList)=AV.b true) (tT 9 (A3 h_11) (tD 20 true (es[i2.toNat]!.sku=s∧(r <(0:Int)∨es[i2.toNat]!.dot.rep=r)) (by simp only [eq_true h_10,eq_true h_11,tsl]) (oR 2 (c46 es[i2.toNat]!) z0))))))) ?_
 exact⟨rfl,by kernel_rfl⟩
 refine rG cx [0,1,2,8,9,10,37] [] (fA (0≤i2) (fG c46 es i2.toNat (fR 4 (tT 6 (N4 h_10:AV.b (es[i2.toNat]!.sku.toList == s.toList)=AV.b true) (tT 9 (A0 h_11) (fA (0≤i2) (fG c46 es i2.toNat (fR 4 (tB 18 (es[i2.toNat]!.dot.rep=r) (tD 20 (decide (es[i2.toNat]!.dot.rep=r)) (es[i2.toNat]!.sku=s∧(r <(0:Int)∨es[i2.toNat]!.dot.rep=r)) (by simp only [eq_true h_10,eq_false h_11,tsl]) (oR 2 (c46 es[i2.toNat]!) (oR 13 (c46 es[i2.toNat]!) z0)))))))))))) ?_
 exact⟨rfl,by kernel_rfl⟩
 refine rG cx [0,1,2,8,9,10,37] [] (fA (0≤i2) (fG c46 es i2.toNat (fR 4 (tT 6 (Q0 h_10:AV.b (es[i2.toNat]!.sku.toList == s.toList)=AV.b false) (tD 20 false (es[i2.toNat]!.sku=s∧(r <(0:Int)∨es[i2.toNat]!.dot.rep=r)) (by simp only [eq_false h_10,tsl]) (oR 2 (c46 es[i2.toNat]!) z0)))))) ?_
 exact⟨rfl,by kernel_rfl⟩
 refine sn<|dC (es[i2.toNat]!.sku=s∧(r <(0:Int)∨es[i2.toNat]!.dot.rep=r)) (fun h12=>?_) fun h12=>?_
 refine sq<|rG cx [0,1,2,8,9,10] [] (fA (0≤i2) (fG c46 es i2.toNat (fR 4 (tT 6 (B6 (by have:=U3 hE (p:=K2 s r) hh4 hh5;have:=A57 hE hh4 h8;omega) (by have:=U3 hE (p:=K2 s r) hh4 hh5;have:=A57 hE hh4 h8;omega):AV.i .i64 (IntKind.i64.wrap (m0+es[i2.toNat]!.qty))=AV.i .i64 (m0+es[i2.toNat]!.qty)) (oR 3 (c46 es[i2.toNat]!) z0))))) ?_
 refine sn<|rG cx [0,1,2,8,9,10] [] (tT 1 (B6 (by omega) (by have:=U3 hE (p:=K2 s r) hh4 hh5;omega):AV.i .i64 (IntKind.i64.wrap (n1+1))=AV.i .i64 (n1+1)) z0) ?_
 refine bN<|sn<|rG cx [0,1,2,8,9,10] [] (tW 1 (i2+1) z0)<|sn<|nX ((m0+es[i2.toNat]!.qty,n1+1,i2+1)) (show((↑es.length:Int)-(i2+1)).toNat <((↑es.length:Int)-i2).toNat from(by omega)) (show B2r s r es (m0+es[i2.toNat]!.qty) (n1+1) (i2+1)from ?g4);rotate_left
 refine sK<|bN<|sn<|rG cx [0,1,2,8,9,10] [] (tW 1 (i2+1) z0)<|sn<|nX ((m0,n1,i2+1)) (show((↑es.length:Int)-(i2+1)).toNat <((↑es.length:Int)-i2).toNat from(by omega)) (show B2r s r es m0 n1 (i2+1)from ?g5);rotate_left
 refine eX 0<|nE<|nE<|bH<|sn<|sq<|rG cx [6,7] [] z0<|sn<|rT<|qR (.tup [.i .i64 (m0),.i .i64 (n1)]) (A5.tup (ZLe.cons (A5.eq (show AV.i .i64 m0=AV.i .i64 (K9 (List.filter (K2 s r) es))from(by rw[h6,List.take_of_length_le (by omega)]))) (ZLe.cons (A5.eq (show AV.i .i64 n1=AV.i .i64 (↑(List.filter (K2 s r) es).length:Int)from(by rw[h7,List.take_of_length_le (by omega)]))) ZLe.nil)))
 case g4 =>
  have k:K2 s r es[i2.toNat]! = true:=decide_eq_true h12
  refine⟨by omega,by omega,?_,?_⟩
  ·rw[K8 hh4 h8,if_pos k,A6p,h6];simp [K9]
  ·rw[K8 hh4 h8,if_pos k,List.length_append,h7];simp
 case g5 =>
  have k:¬ K2 s r es[i2.toNat]! = true:=fun k=>h12 (of_decide_eq_true k)
  exact⟨by omega,by omega,by rw[K8 hh4 h8,if_neg k,List.append_nil,h6],by rw[K8 hh4 h8,if_neg k,List.append_nil,h7]⟩
theorem con150(es:List Entry)(hs:es.length*40≤140737488351232):Con Tryz.prog 150 [.sl (es.map c46)] (.i .i64 ((Z5 es).length)) :=
 by
 refine lN 0 c46 (es) Tryz.func150 fun hl_0=>sC B3 [.tmp 2] 20 Tryz.func150 ?_
 intro e0 cx
 refine sq<|rG cx [0] [] z0<|sn<|sq<|rG cx [0,3] [5] z0<|sn<|sq<|sq<|rG cx [0,3,4] [5] z0<|sn<|bL 0<|sL (X:=Int×List (ByteArray×Int)) (fun x=>⟨[(0,.sl (List.map c46 es)),(3,.own 5 0),(4,.i .i64 (x.1))],[(5,⟨0,231,.map (List.map B6u x.2)⟩)]⟩) (fun x ↦ decNl es x.1 x.2) (fun x ↦ B69 es x.1 x.2) [0,3,4] [5] (((0:Int),[])) (show B69 es (0:Int) []from(by exact⟨by omega,by omega,by simp,rfl⟩)) ?_
 rintro⟨i0,m1⟩ h_2
 obtain⟨hh3,hh4,h5,h6⟩:0≤i0∧i0≤(↑es.length:Int)∧(↑m1.length:Int)≤i0∧m1=Z5 (List.take i0.toNat es):=h_2
 refine sq<|rD cx [0,3,4,9] [5] (tL 2 c46 es (zB 3 (i0 <(↑es.length:Int)))) (fun h7=>?_) fun h7=>?_
 refine sK<|sn<|sq<|bL 1<|rG cx [0,3,4] [5] (fA (0≤i0) (fG c46 es i0.toNat (fR 4 (fP (Z9 es[i0.toNat]!.sku (AV.i .i64 (1:Int)) (List.map B6u m1)=List.map B6u (A06 es[i0.toNat]!.sku (1:Int) m1)) (A5o (enc:=B6u) (fun b ↦ AV.i .i64 b) (fun _=>rfl) (es[i0.toNat]!.sku) ((1:Int)) (m1)) (oR 3 (c46 es[i0.toNat]!) (oV 6 { rows:=some (List.map B6u (A06 es[i0.toNat]!.sku (1:Int) m1)) } z0))))))<|bN<|sn<|rG cx [0,3,4] [5] (tW 1 (i0+1) z0)<|sn<|nX ((i0+1,A06 es[i0.toNat]!.sku (1:Int) m1)) (show((↑es.length:Int)-(i0+1)).toNat <((↑es.length:Int)-i0).toNat from(by omega)) (show B69 es (i0+1) (A06 es[i0.toNat]!.sku (1:Int) m1)from ?g1);rotate_left
 refine eX 0<|nE<|nE<|bH<|sn<|sq<|rG cx [2] [] (tL 1 B6u m1 z0)<|sn<|rT<|qR (.i .i64 ((↑m1.length:Int))) (.eq (by rw[h6,List.take_of_length_le (by omega)]))
 case g1 =>
  have:=A6q es[i0.toNat]!.sku (1:Int) m1
  exact⟨by omega,by omega,by omega,by rw[← D6 hh3 h7,Ax6,h6]⟩
theorem con76(live:List Entry)(lim:Limits)(a:Actn)(hs:live.length*40≤140737488351232)(hE:C1 live=0)(hq:1≤a.qty∧a.qty≤1000000):Con Tryz.prog 76 [.sl (live.map c46),.agg (c28 lim),.agg (c30 a)] (.i .i64 (A12 live lim a)) :=
 by
 refine lN 0 c46 (live) Tryz.func76 fun hl_0=>sC B3 [.tmp 6] 35 Tryz.func76 ?_
 intro e0 cx
 refine sq<|rG cx [0,4,5] [4,5] z0<|sn<|sq<|rG cx [0,4,5,7,8] [4,5] (fT (con78 (live) (a.sku) ((-1:Int)) (by(with_reducible assumption)) (by with_reducible assumption)) (oA 3 (.tup [.i .i64 (K9 (List.filter (K2 a.sku (-1:Int)) live)),.i .i64 ((↑(List.filter (K2 a.sku (-1:Int)) live).length:Int))]) z0))<|sn<|sq<|sq<|A9 (σ':=⟨[(5,.ptr (5) (0) (0) (0)),(7,.i .i64 (K9 (List.filter (K2 a.sku (-1:Int)) live))),(24,.b (decide ((↑(List.filter (K2 a.sku (-1:Int)) live).length:Int)=0∧lim.lines≤(↑(Z5 live).length:Int))))],[(5,⟨0,30,.var [.i .i64 (a.kind),.s (a.sku),.i .i64 (a.qty),.sl (List.map c3 a.past.vec),.sl (List.map B1 a.past.cloud)]⟩)]⟩) ?_ ?_
 refine A4 ((↑(List.filter (K2 a.sku (-1:Int)) live).length:Int)=0) (fun h_1=>?_) (fun h_1=>?_)
 refine rA cx [5,7,24] [5] (tT 1 (A3 h_1) (fT (con150 (live) (by(with_reducible assumption))) (tB 7 (lim.lines≤(↑(Z5 live).length:Int)) (tD 8 (decide (lim.lines≤(↑(Z5 live).length:Int))) ((↑(List.filter (K2 a.sku (-1:Int)) live).length:Int)=0∧lim.lines≤(↑(Z5 live).length:Int)) (by simp only [eq_true h_1,tsl]) (oA 4 (.i .i64 ((↑(Z5 live).length:Int))) z0))))) ?_
 exact⟨rfl,by kernel_rfl⟩
 refine rA cx [5,7,24] [5] (tT 1 (A0 h_1) (tD 8 false ((↑(List.filter (K2 a.sku (-1:Int)) live).length:Int)=0∧lim.lines≤(↑(Z5 live).length:Int)) (by simp only [eq_false h_1,tsl]) z0)) ?_
 exact⟨rfl,by kernel_rfl⟩
 refine sn<|dC ((↑(List.filter (K2 a.sku (-1:Int)) live).length:Int)=0∧lim.lines≤(↑(Z5 live).length:Int)) (fun h2=>?_) fun h2=>?_
 refine sq<|rG cx [6] [] z0<|sn<|rT<|nR<|qR (.i .i64 ((12:Int))) (.eq (by unfold A12;rw[if_pos h2]))
 refine sK<|sn<|sq<|sq<|A9 (σ':=⟨[(34,.b (decide (a.kind=2∧(1000000:Int) < K9 (List.filter (K2 a.sku (-1:Int)) live)+a.qty)))],[]⟩) ?_ ?_
 refine A4 (a.kind=2) (fun h4=>?_) (fun h4=>?_)
 refine rG cx [34] [] (tT 2 (A3 h4) (tT 7 (B6 (by have:=U3 hE (p:=K2 a.sku (-1)) (i:=live.length) (by omega) (by omega);rw[List.take_of_length_le (by omega)]at this;omega) (by have:=U3 hE (p:=K2 a.sku (-1)) (i:=live.length) (by omega) (by omega);rw[List.take_of_length_le (by omega)]at this;omega):AV.i .i64 (IntKind.i64.wrap (K9 (List.filter (K2 a.sku (-1:Int)) live)+a.qty))=AV.i .i64 (K9 (List.filter (K2 a.sku (-1:Int)) live)+a.qty)) (tB 8 ((1000000:Int) < K9 (List.filter (K2 a.sku (-1:Int)) live)+a.qty) (tD 9 (decide ((1000000:Int) < K9 (List.filter (K2 a.sku (-1:Int)) live)+a.qty)) (a.kind=2∧(1000000:Int) < K9 (List.filter (K2 a.sku (-1:Int)) live)+a.qty) (by simp only [eq_true h4,tsl]) z0)))) ?_
 exact⟨rfl,by kernel_rfl⟩
 refine rG cx [34] [] (tT 2 (A0 h4) (tD 9 false (a.kind=2∧(1000000:Int) < K9 (List.filter (K2 a.sku (-1:Int)) live)+a.qty) (by simp only [eq_false h4,tsl]) z0)) ?_
 exact⟨rfl,by kernel_rfl⟩
 refine sn<|dC (a.kind=2∧(1000000:Int) < K9 (List.filter (K2 a.sku (-1:Int)) live)+a.qty) (fun h5=>?_) fun h5=>?_
 refine sq<|rG cx [6] [] z0<|sn<|rT<|nR<|qR (.i .i64 ((13:Int))) (.eq (by unfold A12;rw[if_neg h2,if_pos h5]))
 refine sK<|sn<|sq<|rG cx [6] [] z0<|sn<|rT<|qR (.i .i64 ((0:Int))) (.eq (by unfold A12;rw[if_neg h2,if_neg h5]))
end Go.Proofs.YtphcaholhacnpaaGreat
namespace Go.Proofs.YtphcaholhacnpaaGreat
open Go.E
set_option maxRecDepth 100000
set_option maxHeartbeats 4000000
theorem Ax7:¬ G2 E3=true:=by decide +kernel
theorem B6b{e:Entry}(h:U5 e=0):K3 e.dot=true:=(A3g.1 h).1
theorem A8r:∀(es:List Entry) (m:List (ByteArray×Line)) (n:List (ByteArray×Int)),m.map (·.1)=n.map (·.1) →
  (es.foldl (fun m e=>A06 e.sku (Av1 e (lkp e.sku m)) m) m).map (·.1)=(es.foldl (fun m e=>A06 e.sku 1 m) n).map (·.1)
 | [],m,n,h=>h
 | e :: es,m,n,h=>by
  refine A8r es _ _ ?_
  rcases V9 e.sku (Av1 e (lkp e.sku m)) m with⟨a,b⟩ | ⟨a,b⟩ <;> rcases V9 e.sku (1:Int) n with⟨c,d⟩ | ⟨c,d⟩
  ·rw[b,d,h]
  ·exact absurd (h ▸ a) c
  ·exact absurd (h.symm ▸ c) a
  ·rw[b,d,h]
theorem Ax8(es:List Entry):(Z5 es).length=(A3m es).length:=by
 have h:=congrArg List.length (A8r es [] [] rfl)
 rw[List.length_map,List.length_map]at h
 unfold A3m
 rw[(A0u _).length_eq,List.length_map]
 exact h.symm
theorem A1h{es:List Entry}(h:C1 es=0){p:Entry→Bool}{d:Dot}:H4 (I4 (ofT ((es.filter p).map fun e=>e.dot))) d=true↔∃ e∈es,p e=true∧e.dot=d:=by
 rw[has_of]
 constructor
 ·rintro⟨_,h2⟩
  obtain⟨e,he,rfl⟩:=List.mem_map.1 h2
  exact⟨e,(List.mem_filter.1 he).1,(List.mem_filter.1 he).2,rfl⟩
 ·rintro⟨e,he,hp,rfl⟩
  exact⟨B6b (A1g h e he),List.mem_map.2 ⟨e,List.mem_filter.2 ⟨he,hp⟩,rfl⟩⟩
theorem A3x{live:List Entry}{seen:Past}(h:C1 live=0)(hn:seen=A6 seen):C6 (E2 (G3 live E3 (-1)) seen)=0↔¬ 0 <((F0 live seen false).1.length:Int):=by
 rw[A6w h hn,M9]
 constructor
 ·intro k c
  obtain⟨e,he⟩:=List.exists_mem_of_length_pos (l:=live.filter fun e=>H4 seen e.dot == false) (by simp only at c;omega)
  have h2:=List.mem_filter.1 he
  have h3:=k e.dot
  rw[A9z]at h3
  have h4:H4 (G3 live E3 (-1)) e.dot=true:=(A1h h).2 ⟨e,h2.1,by unfold Ab7;simp,rfl⟩
  rw[h4]at h3
  have h5:H4 seen e.dot=false:=by simpa using h2.2
  rw[h5]at h3
  cases h3
 ·intro k d
  rw[A9z]
  cases h1:H4 (G3 live E3 (-1)) d with
  | false=>rfl
  | true =>
   obtain⟨e,he,_,rfl⟩:=(A1h h).1 h1
   cases h2:H4 seen e.dot with
   | true=>rfl
   | false =>
    refine absurd ?_ k
    have:e∈live.filter fun e=>H4 seen e.dot == false:=List.mem_filter.2 ⟨he,by rw[h2];rfl⟩
    have:=List.length_pos_of_mem this
    simp only
    omega
theorem A3y{w:Wish}(h:¬ C1 w.live=0∨¬ w.seen=A6 w.seen∨¬ C6 (E2 (G3 w.live E3 (-1)) w.seen)=0):B4 w=(default,1):=by
 by_cases a:¬ C1 w.live=0∨¬ w.seen=A6 w.seen
 ·exact C2 a
 ·have a1:=Classical.not_not.1 fun k=>a (.inl k)
  have a2:=Classical.not_not.1 fun k=>a (.inr k)
  refine C3 a (Classical.byContradiction fun k=>?_)
  rcases h with h | h | h
  ·exact h a1
  ·exact h a2
  ·exact h ((A3x a1 a2).2 k)
theorem B5{w:Wish}(h:¬(¬ C1 w.live=0∨¬ w.seen=A6 w.seen∨¬ C6 (E2 (G3 w.live E3 (-1)) w.seen)=0)):C1 w.live=0∧¬(¬ C1 w.live=0∨¬ w.seen=A6 w.seen)∧¬ 0 <((F0 w.live w.seen false).1.length:Int):=by
 have a1:=Classical.not_not.1 fun k=>h (.inl k)
 have a2:=Classical.not_not.1 fun k=>h (.inr (.inl k))
 have a3:=Classical.not_not.1 fun k=>h (.inr (.inr k))
 exact⟨a1,fun k=>k.elim (fun k=>k a1) fun k=>k a2,(A3x a1 a2).1 a3⟩
theorem J1{a:Actn}(h:¬ ¬ G8 a=0)(k:a.kind≤4):G2 a.sku=true:=by
 have h:=Classical.not_not.1 h
 unfold G8 at h
 split at h
 ·omega
 ·split at h
  ·omega
  ·split at h
   ·omega
   ·rename_i c
    cases g:G2 a.sku with
    | true=>rfl
    | false=>exact absurd ⟨k,g⟩ c
theorem A1s{a:Actn}(h:¬ ¬ G8 a=0)(k:a.kind=1∨a.kind=2):1≤a.qty∧a.qty≤1000000:=by
 obtain⟨x,s,q,p⟩:=a
 exact Aw8 h k
theorem B6c{s:ByteArray}(g:G2 s=true):¬ s=E3:=fun k=>Ax7 (k ▸ g)
theorem A8s{live:List Entry}{s:ByteArray}(h:C1 live=0)(g:G2 s=true):(ofV live s).1=live.filter (K2 s (-1)):=by
 rw[Av7 h g]
 exact congrArg (fun p=>live.filter p) (funext fun e=>by unfold K2;simp)
theorem A6x{live:List Entry}{s:ByteArray}{r:Int}(h:C1 live=0)(g:G2 s=true)(hr:¬(r < 0∨16≤r)):(I6 live r s).1=live.filter (K2 s r):=by
 rw[A6u h hr g]
 refine congrArg (fun p=>live.filter p) (funext fun e=>?_)
 unfold K2
 exact decide_eq_decide.2 ⟨fun k=>⟨k.1,.inr k.2⟩,fun k=>⟨k.1,k.2.elim (fun c=>absurd (.inl c) hr) id⟩⟩
theorem Ax9{s:ByteArray}{r:Int}(g:G2 s=true):Ab7 s r=K2 s r:=funext fun e=>by
 unfold Ab7 K2
 have:=B6c g
 exact decide_eq_decide.2 ⟨fun k=>⟨k.1.elim (fun c=>absurd c this) id,k.2⟩,fun k=>⟨.inr k.1,k.2⟩⟩
theorem U4{live:List Entry}(h:C1 live=0)(p:Entry→Bool):C1 (live.filter p)=0:=(Ab3 _).2 (Aw2 ((Ab3 _).1 h) List.filter_sublist)
theorem B44{live:List Entry}{s:ByteArray}(h:C1 live=0)(g:G2 s=true):G3 live s (-1)=(C8 (ofV live s).1).1:=by
 rw[A8s h g,T9 (U4 h _)]
 unfold G3
 rw[Ax9 g]
theorem B6d{live:List Entry}{s:ByteArray}{r:Int}(h:C1 live=0)(g:G2 s=true)(hr:¬(r < 0∨16≤r)):G3 live s r=(C8 (I6 live r s).1).1:=by
 rw[A6x h g hr,T9 (U4 h _)]
 unfold G3
 rw[Ax9 g]
theorem B6e{live:List Entry}(h:C1 live=0):G3 live E3 (-1)=(C8 live).1:=by
 rw[T9 h]
 unfold G3
 rw[show live.filter (Ab7 E3 (-1))=live from List.filter_eq_self.2 fun e _=>by unfold Ab7;simp]
theorem Ah6{live:List Entry}{s:ByteArray}(h:C1 live=0)(g:G2 s=true):C6 (G3 live s (-1))=0↔((ofV live s).1.length:Int)=0:=by
 rw[A8s h g,← Ax9 g,M9]
 constructor
 ·intro k
  refine Classical.byContradiction fun c=>?_
  obtain⟨e,he⟩:=List.exists_mem_of_length_pos (l:=live.filter (Ab7 s (-1))) (by omega)
  have:=k e.dot
  rw[show H4 (G3 live s (-1)) e.dot=true from(A1h h).2 ⟨e,(List.mem_filter.1 he).1,(List.mem_filter.1 he).2,rfl⟩]at this
  cases this
 ·intro k d
  have:live.filter (Ab7 s (-1))=[]:=List.eq_nil_of_length_eq_zero (by omega)
  cases c:H4 (G3 live s (-1)) d with
  | false=>rfl
  | true =>
   obtain⟨e,he,hp,_⟩:=(A1h h).1 c
   have:e∈live.filter (Ab7 s (-1)):=List.mem_filter.2 ⟨he,hp⟩
   simp_all
theorem A0z{w:Wish}(h:C1 w.live=0)(g:G2 w.act.sku=true):(A0w w=true∧A12 w.live w.lim w.act=12)∨(A0w w=false∧((w.act.kind=2∧1000000 <(O2 (ofV w.live w.act.sku).1).1+w.act.qty)∧A12 w.live w.lim w.act=13∨¬(w.act.kind=2∧1000000 <(O2 (ofV w.live w.act.sku).1).1+w.act.qty)∧A12 w.live w.lim w.act=0)):=by
 unfold A12 A0w
 rw[A8s h g,A3n h,Ax8,Z4 (U4 h _)]
 by_cases a:((w.live.filter (K2 w.act.sku (-1))).length:Int)=0∧w.lim.lines≤((A3m w.live).length:Int)
 ·rw[if_pos a]
  exact .inl ⟨decide_eq_true ⟨by omega,a.2⟩,rfl⟩
 ·rw[if_neg a]
  refine .inr ⟨decide_eq_false fun k=>a ⟨by omega,k.2⟩,?_⟩
  by_cases b:w.act.kind=2∧1000000 < K9 (w.live.filter (K2 w.act.sku (-1)))+w.act.qty
  ·rw[if_pos b];exact .inl ⟨b,rfl⟩
  ·rw[if_neg b];exact .inr ⟨b,rfl⟩
theorem A3z{w:Wish}(c:¬(¬ C1 w.live=0∨¬ w.seen=A6 w.seen∨¬ C6 (E2 (G3 w.live E3 (-1)) w.seen)=0))(h3:¬(w.rep < 0∨16≤w.rep))(h4:¬(w.lim.lines < 1∨1000 < w.lim.lines∨w.lim.count < 1∨1000000000 < w.lim.count))(h5:¬ ¬ G8 w.act=0)(k:w.act.kind=1)(e:¬ A12 w.live w.lim w.act=0):B4 w=(default,A12 w.live w.lim w.act):=by
 rw[D9 (B5 c).2.1 (B5 c).2.2 h3 h4 h5,Aw9 k]
 rcases A0z (B5 c).1 (J1 h5 (by omega))with⟨a,b⟩ | ⟨a,⟨b,b'⟩ | ⟨_,b⟩⟩
 ·unfold U0;rw[if_pos a,b]
 ·omega
 ·exact absurd b e
theorem Ay0{w:Wish}(c:¬(¬ C1 w.live=0∨¬ w.seen=A6 w.seen∨¬ C6 (E2 (G3 w.live E3 (-1)) w.seen)=0))(h3:¬(w.rep < 0∨16≤w.rep))(h4:¬(w.lim.lines < 1∨1000 < w.lim.lines∨w.lim.count < 1∨1000000000 < w.lim.count))(h5:¬ ¬ G8 w.act=0)(k:w.act.kind=1)(e:¬ ¬ A12 w.live w.lim w.act=0):B4 w=J9 w w.act.qty (ofV w.live w.act.sku).1:=by
 rw[D9 (B5 c).2.1 (B5 c).2.2 h3 h4 h5,Aw9 k]
 rcases A0z (B5 c).1 (J1 h5 (by omega))with⟨a,b⟩ | ⟨a,⟨b,b'⟩ | ⟨b',b⟩⟩
 ·omega
 ·omega
 ·unfold U0;rw[if_neg (by rw[a];decide)]
theorem A8t{w:Wish}(c:¬(¬ C1 w.live=0∨¬ w.seen=A6 w.seen∨¬ C6 (E2 (G3 w.live E3 (-1)) w.seen)=0))(h3:¬(w.rep < 0∨16≤w.rep))(h4:¬(w.lim.lines < 1∨1000 < w.lim.lines∨w.lim.count < 1∨1000000000 < w.lim.count))(h5:¬ ¬ G8 w.act=0)(k:w.act.kind=1)(e:¬ ¬ A12 w.live w.lim w.act=0)(n:¬(G4 w.seen w.rep w.lim.count).2=0):B4 w=(default,(G4 w.seen w.rep w.lim.count).2):=by
 rw[Ay0 c h3 h4 h5 k e];unfold J9;rw[if_pos n]
theorem A8u{w:Wish}(c:¬(¬ C1 w.live=0∨¬ w.seen=A6 w.seen∨¬ C6 (E2 (G3 w.live E3 (-1)) w.seen)=0))(h3:¬(w.rep < 0∨16≤w.rep))(h4:¬(w.lim.lines < 1∨1000 < w.lim.lines∨w.lim.count < 1∨1000000000 < w.lim.count))(h5:¬ ¬ G8 w.act=0)(k:w.act.kind=1)(e:¬ ¬ A12 w.live w.lim w.act=0)(n:¬ ¬(G4 w.seen w.rep w.lim.count).2=0):B4 w=(⟨[⟨(G4 w.seen w.rep w.lim.count).1,w.act.sku,0+w.act.qty⟩],G3 w.live w.act.sku (-1),[]⟩,0):=by
 have g:=J1 h5 (by omega)
 have h:=(B5 c).1
 rw[Ay0 c h3 h4 h5 k e];unfold J9;rw[if_neg n]
 rw[B44 h g,Int.zero_add]
theorem A40{w:Wish}(c:¬(¬ C1 w.live=0∨¬ w.seen=A6 w.seen∨¬ C6 (E2 (G3 w.live E3 (-1)) w.seen)=0))(h3:¬(w.rep < 0∨16≤w.rep))(h4:¬(w.lim.lines < 1∨1000 < w.lim.lines∨w.lim.count < 1∨1000000000 < w.lim.count))(h5:¬ ¬ G8 w.act=0)(k:w.act.kind=2)(e:¬ A12 w.live w.lim w.act=0):B4 w=(default,A12 w.live w.lim w.act):=by
 rw[D9 (B5 c).2.1 (B5 c).2.2 h3 h4 h5,Ax0 k]
 rcases A0z (B5 c).1 (J1 h5 (by omega))with⟨a,b⟩ | ⟨a,⟨b,b'⟩ | ⟨_,b⟩⟩
 ·unfold M1;rw[if_pos a,b]
 ·unfold M1;rw[if_neg (by rw[a];decide),if_pos b.2,b']
 ·exact absurd b e
theorem Ay1{w:Wish}(c:¬(¬ C1 w.live=0∨¬ w.seen=A6 w.seen∨¬ C6 (E2 (G3 w.live E3 (-1)) w.seen)=0))(h3:¬(w.rep < 0∨16≤w.rep))(h4:¬(w.lim.lines < 1∨1000 < w.lim.lines∨w.lim.count < 1∨1000000000 < w.lim.count))(h5:¬ ¬ G8 w.act=0)(k:w.act.kind=2)(e:¬ ¬ A12 w.live w.lim w.act=0):B4 w=J9 w (w.act.qty+(O2 (I6 w.live w.rep w.act.sku).1).1) (I6 w.live w.rep w.act.sku).1:=by
 rw[D9 (B5 c).2.1 (B5 c).2.2 h3 h4 h5,Ax0 k]
 rcases A0z (B5 c).1 (J1 h5 (by omega))with⟨a,b⟩ | ⟨a,⟨b,b'⟩ | ⟨b',b⟩⟩
 ·omega
 ·omega
 ·unfold M1;rw[if_neg (by rw[a];decide),if_neg fun q=>b' ⟨k,q⟩]
theorem A8v{w:Wish}(c:¬(¬ C1 w.live=0∨¬ w.seen=A6 w.seen∨¬ C6 (E2 (G3 w.live E3 (-1)) w.seen)=0))(h3:¬(w.rep < 0∨16≤w.rep))(h4:¬(w.lim.lines < 1∨1000 < w.lim.lines∨w.lim.count < 1∨1000000000 < w.lim.count))(h5:¬ ¬ G8 w.act=0)(k:w.act.kind=2)(e:¬ ¬ A12 w.live w.lim w.act=0)(n:¬(G4 w.seen w.rep w.lim.count).2=0):B4 w=(default,(G4 w.seen w.rep w.lim.count).2):=by
 rw[Ay1 c h3 h4 h5 k e];unfold J9;rw[if_pos n]
theorem A8w{w:Wish}(c:¬(¬ C1 w.live=0∨¬ w.seen=A6 w.seen∨¬ C6 (E2 (G3 w.live E3 (-1)) w.seen)=0))(h3:¬(w.rep < 0∨16≤w.rep))(h4:¬(w.lim.lines < 1∨1000 < w.lim.lines∨w.lim.count < 1∨1000000000 < w.lim.count))(h5:¬ ¬ G8 w.act=0)(k:w.act.kind=2)(e:¬ ¬ A12 w.live w.lim w.act=0)(n:¬ ¬(G4 w.seen w.rep w.lim.count).2=0):B4 w=(⟨[⟨(G4 w.seen w.rep w.lim.count).1,w.act.sku,K9 (w.live.filter (K2 w.act.sku w.rep))+w.act.qty⟩],G3 w.live w.act.sku w.rep,[]⟩,0):=by
 have g:=J1 h5 (by omega)
 have h:=(B5 c).1
 rw[Ay1 c h3 h4 h5 k e];unfold J9;rw[if_neg n]
 rw[B6d h g h3,A6x h g h3,Z4 (U4 h _),Int.add_comm]
theorem A8x{w:Wish}(c:¬(¬ C1 w.live=0∨¬ w.seen=A6 w.seen∨¬ C6 (E2 (G3 w.live E3 (-1)) w.seen)=0))(h3:¬(w.rep < 0∨16≤w.rep))(h4:¬(w.lim.lines < 1∨1000 < w.lim.lines∨w.lim.count < 1∨1000000000 < w.lim.count))(h5:¬ ¬ G8 w.act=0)(k:w.act.kind=3)(e:C6 (G3 w.live w.act.sku (-1))=0):B4 w=(default,11):=by
 rw[D9 (B5 c).2.1 (B5 c).2.2 h3 h4 h5,Ax1 k]
 unfold U1;rw[if_pos ((Ah6 (B5 c).1 (J1 h5 (by omega))).1 e)]
theorem A8y{w:Wish}(c:¬(¬ C1 w.live=0∨¬ w.seen=A6 w.seen∨¬ C6 (E2 (G3 w.live E3 (-1)) w.seen)=0))(h3:¬(w.rep < 0∨16≤w.rep))(h4:¬(w.lim.lines < 1∨1000 < w.lim.lines∨w.lim.count < 1∨1000000000 < w.lim.count))(h5:¬ ¬ G8 w.act=0)(k:w.act.kind=3)(e:¬ C6 (G3 w.live w.act.sku (-1))=0):B4 w=(⟨[],G3 w.live w.act.sku (-1),[]⟩,0):=by
 rw[D9 (B5 c).2.1 (B5 c).2.2 h3 h4 h5,Ax1 k]
 unfold U1;rw[if_neg fun q=>e ((Ah6 (B5 c).1 (J1 h5 (by omega))).2 q),B44 (B5 c).1 (J1 h5 (by omega))]
theorem A8z{w:Wish}(c:¬(¬ C1 w.live=0∨¬ w.seen=A6 w.seen∨¬ C6 (E2 (G3 w.live E3 (-1)) w.seen)=0))(h3:¬(w.rep < 0∨16≤w.rep))(h4:¬(w.lim.lines < 1∨1000 < w.lim.lines∨w.lim.count < 1∨1000000000 < w.lim.count))(h5:¬ ¬ G8 w.act=0)(k:w.act.kind=5):B4 w=(⟨[],G3 w.live E3 (-1),[]⟩,0):=by
 rw[D9 (B5 c).2.1 (B5 c).2.2 h3 h4 h5,B2j k]
 rw[B6e (B5 c).1]
theorem A90{w:Wish}(c:¬(¬ C1 w.live=0∨¬ w.seen=A6 w.seen∨¬ C6 (E2 (G3 w.live E3 (-1)) w.seen)=0))(h3:¬(w.rep < 0∨16≤w.rep))(h4:¬(w.lim.lines < 1∨1000 < w.lim.lines∨w.lim.count < 1∨1000000000 < w.lim.count))(h5:¬ ¬ G8 w.act=0)(k:w.act.kind=4)(e:¬ C6 w.act.past=0):B4 w=(⟨[],⟨[],[]⟩,[⟨w.act.sku,A6 w.act.past⟩]⟩,0):=by
 rw[D9 (B5 c).2.1 (B5 c).2.2 h3 h4 h5,Ax2 k]
 unfold H2;rw[if_neg e]
theorem A91{w:Wish}(c:¬(¬ C1 w.live=0∨¬ w.seen=A6 w.seen∨¬ C6 (E2 (G3 w.live E3 (-1)) w.seen)=0))(h3:¬(w.rep < 0∨16≤w.rep))(h4:¬(w.lim.lines < 1∨1000 < w.lim.lines∨w.lim.count < 1∨1000000000 < w.lim.count))(h5:¬ ¬ G8 w.act=0)(k:w.act.kind=4)(e:¬ ¬ C6 w.act.past=0):B4 w=(default,0):=by
 rw[D9 (B5 c).2.1 (B5 c).2.2 h3 h4 h5,Ax2 k]
 unfold H2;rw[if_pos (Classical.not_not.1 e)]
theorem A92{w:Wish}(c:¬(¬ C1 w.live=0∨¬ w.seen=A6 w.seen∨¬ C6 (E2 (G3 w.live E3 (-1)) w.seen)=0))(h3:¬(w.rep < 0∨16≤w.rep))(h4:¬(w.lim.lines < 1∨1000 < w.lim.lines∨w.lim.count < 1∨1000000000 < w.lim.count))(h5:¬ ¬ G8 w.act=0)(k:w.act.kind=6)(e:¬ C6 w.act.past=0):B4 w=(⟨[],⟨[],[]⟩,[⟨E3,A6 w.act.past⟩]⟩,0):=by
 rw[D9 (B5 c).2.1 (B5 c).2.2 h3 h4 h5,Ax3 k]
 unfold H2;rw[if_neg e]
theorem A93{w:Wish}(c:¬(¬ C1 w.live=0∨¬ w.seen=A6 w.seen∨¬ C6 (E2 (G3 w.live E3 (-1)) w.seen)=0))(h3:¬(w.rep < 0∨16≤w.rep))(h4:¬(w.lim.lines < 1∨1000 < w.lim.lines∨w.lim.count < 1∨1000000000 < w.lim.count))(h5:¬ ¬ G8 w.act=0)(k:w.act.kind=6)(e:¬ ¬ C6 w.act.past=0):B4 w=(default,0):=by
 rw[D9 (B5 c).2.1 (B5 c).2.2 h3 h4 h5,Ax3 k]
 unfold H2;rw[if_pos (Classical.not_not.1 e)]
end Go.Proofs.YtphcaholhacnpaaGreat
