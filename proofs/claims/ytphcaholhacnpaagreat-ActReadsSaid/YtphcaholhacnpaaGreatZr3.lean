/- Pc: span: Union and Norm. Conditions: sizes. EV: slices.Clone at any element type: it hands back a row of the caller's own. Conditions: how its body is laid; sizes. Pd: span: Norm, Lead, and the library's Clone at runs. Conditions: sizes. Pn: span: the canonical form in plain words. Conditions: none. Pe: past: what the sets come to. Conditions: sizes. Pf: past: dots, and the set of dots. Conditions: sizes. Pg: past: the sets that pasts mean. Conditions: sizes. Ph: past: Norm. Conditions: sizes. Pi: past: the library's Equal, IsNorm. Conditions: sizes. Pj: past: Has. Conditions: none. Rh: the past in plain words: what is in a set in form. Conditions: none. Pp: span: what is in both, what is in neither, in plain words. Conditions: none. Pq: the total order of contexts, in plain words. Conditions: none. Pr: past.Compare, with the library's cmp.Compare, cmp.Or and slices.CompareFunc. Conditions: sizes. Sa: texts: their order is total. Conditions: none. Ps: strings.Compare. Conditions: none. Pl: runs: how many numbers, the greatest. Conditions: none. Pu: how many dots; the greatest of a replica: in plain words. Conditions: none. Ga: goods: is a text a SKU. Conditions: none. Kp: records: their order and form, in plain words. Conditions: none. Pk: span.Size, span.Last, past.Size, Empty, Last, Next. Conditions: sizes. Ka: keep.CheckRecord, Compare, Check. Conditions: sizes. Rt: the document's turns, in plain words: a sweep over where runs begin and end. Conditions: none. Pm: span.Meet, others, Minus; past.Minus, Join. Conditions: sizes. La: lines: entries in form. Conditions: none. Kr: records in the documents. Conditions: sizes. Ta: the act layer's document: entries, records, facts in form. Conditions: sizes. Tb: act: Check, Next, Empty, Event; the laws of Check and of Event. Conditions: sizes. -/
import Derived.Below
import Derived.OwnWalk
import Derived.WalkKit
import Derived.KernelRfl
import Derived.Laws.MakeOwn
import Derived.Laws.OwnMore
import Derived.Laws.Slices
import Derived.Laws.CopyOwn
import Derived.Laws.AppendOwnNone
import Derived.Laws.Rows
import Derived.Orders
import Derived.Test.YtphcaholhacnpaaGreatProg
import Derived.DataReads
import Derived.ChangeOld
import Derived.DataElems
import Derived.SizedLaws
import Derived.ChangeKeysEq
import Derived.Sort.LotA
import Derived.Shelf.SlSortFuncK.RowK2
import Derived.Shelf.SlSortCmp.NoneTotal
import Derived.Lib.Walk
import Derived.Shelf.SlLaysE0
import Derived.Shelf.RegionOpenPlain
import Derived.Deep.LoopGhost
import Derived.Lib.SliceRun
import Derived.Lib.Bytealg
import Derived.Test.YtphcaholhacnpaaGreatZr2
set_option linter.unusedVariables false
set_option linter.unusedSimpArgs false
namespace Go.Proofs.YtphcaholhacnpaaGreat
open Go.E
set_option maxRecDepth 100000
set_option maxHeartbeats 4000000
def B4h(l:List Run):List AV:=[.sl (l.map c206)]
def P5(l:List Run):List Run:=(l.map D4).filter (fun r=>decide (r.lo≤r.hi))
def Am3(l:List Run):List Run:=l.foldl A26 []
def unR(ss:List (List Run)):List Run:=Am3 (Y5 (P5 ss.flatten))
def A21(ss:List (List Run))(i:Int)(all:List Run):Prop:=all=P5 (ss.take i.toNat).flatten
def L2(ss:List (List Run))(i j:Int)(all:List Run):Prop:=all=P5 ((ss.take i.toNat).flatten++(ss[i.toNat]!).take j.toNat)
def A54(l:List Run)(i:Int)(out:List Run):Prop:=out=Am3 (l.take i.toNat)
def Aa1(ss:List (List Run))(i:Int)(all:List Run):Prop:=0≤i∧i≤ss.length∧A21 ss i all
def B62(ss:List (List Run))(i:Int)(all:List Run):Nat:=(ss.length-i).toNat
def A6h(ss:List (List Run))(i:Int)(j:Int)(all:List Run):Prop:=0≤j∧j≤(ss[i.toNat]!).length∧L2 ss i j all
def B63(ss:List (List Run))(i:Int)(j:Int)(all:List Run):Nat:=((ss[i.toNat]!).length-j).toNat
def Aa2(s:List Run)(i:Int)(l out:List Run):Prop:=l=s∧0≤i∧i≤l.length∧(out.length:Int)≤i∧hiOk out∧A54 l i out
def B64(s:List Run)(i:Int)(l out:List Run):Nat:=(s.length-i).toNat
theorem Au0(a b:List Run):P5 (a++b)=P5 a++P5 b:=by simp [P5]
theorem V6(l:List Run):(P5 l).length≤l.length:=by
 unfold P5
 exact Nat.le_trans (List.length_filter_le _ _) (by simp)
def A3a(r:Run):Prop:=okR r∧r.lo≤r.hi∧r.hi≤1000000000
theorem N5{l:List Run}:∀ r∈P5 l,A3a r:=by
 intro r hr
 unfold P5 at hr
 obtain⟨h1,h2⟩:=List.mem_filter.1 hr
 obtain⟨x,_,rfl⟩:=List.mem_map.1 h1
 simp only [decide_eq_true_eq]at h2
 unfold A3a okR
 simp only [D4]at *
 omega
theorem B2c{α:Type}(ss:List (List α))(i:Nat):(ss.take i).flatten.length≤ss.flatten.length:=by
 have h:(ss.take i).flatten++(ss.drop i).flatten=ss.flatten:=by rw[← List.flatten_append,List.take_append_drop]
 rw[← h,List.length_append]
 omega
theorem A55{α:Type}{ss:List (List α)}{i:Int}(h0:0≤i)(h:i < ss.length):(ss.take (i+1).toNat).flatten=(ss.take i.toNat).flatten++ss[i.toNat]!:=by
 rw[← D1 h0 h,List.flatten_append]
 simp
theorem Au1{α:Type}{ss:List (List α)}{i:Int}(j:Nat)(h0:0≤i)(h:i < ss.length):((ss.take i.toNat).flatten++(ss[i.toNat]!).take j).length≤ss.flatten.length:=by
 have h1:=B2c ss (i+1).toNat
 rw[A55 h0 h,List.length_append]at h1
 rw[List.length_append,List.length_take]
 omega
theorem Au2{ss:List (List Run)}{i j:Int}{all:List Run}(h0:0≤i)(h:i < ss.length)(hk:L2 ss i j all):all.length≤((ss.take i.toNat).flatten++(ss[i.toNat]!).take j.toNat).length:=by
 unfold L2 at hk
 rw[hk]
 exact V6 _
theorem A83(r:Run):P5 [r]=if(D4 r).lo≤(D4 r).hi then[D4 r]else[]:=by
 unfold P5
 by_cases h:(D4 r).lo≤(D4 r).hi <;> simp [List.filter_cons,h]
theorem A56{ss:List (List Run)}{i j:Int}{all:List Run}(j0:0≤j)(jl:j <(ss[i.toNat]!).length)(hk:L2 ss i j all) :
  L2 ss i (j+1) (if(D4 (ss[i.toNat]!)[j.toNat]!).lo≤(D4 (ss[i.toNat]!)[j.toNat]!).hi then all++[D4 (ss[i.toNat]!)[j.toNat]!]else all):=by
 unfold L2 at *
 rw[← D1 j0 jl,← List.append_assoc,Au0,← hk]
 by_cases h:(D4 (ss[i.toNat]!)[j.toNat]!).lo≤(D4 (ss[i.toNat]!)[j.toNat]!).hi
 ·rw[if_pos h,A83,if_pos h]
 ·rw[if_neg h,A83,if_neg h,List.append_nil]
theorem X2{ss:List (List Run)}{i j:Int}{all:List Run}(hb:ss.flatten.length*16≤140737488351232)(h0:0≤i)(h:i < ss.length)(j0:0≤j)(jl:j <(ss[i.toNat]!).length)(hk:L2 ss i j all):(all.length+1)*16≤140737488351232∧j+1≤9223372036854775807:=by
 have h1:=Au2 h0 h hk
 have h2:=Au1 (j+1).toNat h0 h
 have h3:=Au1 (ss[i.toNat]!).length h0 h
 rw[List.length_append,List.length_take]at h1 h2 h3
 omega
theorem Am4{ss:List (List Run)}{i:Int}{all:List Run}(hk:A21 ss i all):L2 ss i 0 all:=by
 unfold A21 L2 at *
 simpa using hk
theorem Au3{ss:List (List Run)}{i j:Int}{all:List Run}(h0:0≤i)(h:i < ss.length)(jl:¬ j <(ss[i.toNat]!).length)(hk:L2 ss i j all):A21 ss (i+1) all:=by
 unfold A21 L2 at *
 rw[A55 h0 h,hk,List.take_of_length_le (l:=ss[i.toNat]!) (by omega)]
theorem S5{ss:List (List Run)}{i:Int}{all:List Run}(h:¬ i < ss.length)(hk:A21 ss i all):all=P5 ss.flatten:=by
 unfold A21 at hk
 rw[hk,List.take_of_length_le (by omega)]
theorem Ag0(out:List Run)(r:Run):(A26 out r).length≤out.length+1:=by
 unfold A26
 split <;> simp
theorem B65{out:List Run}{r:Run}(h:hiOk out)(h1:r.hi≤1000000000∧0≤r.hi):hiOk (A26 out r):=by
 unfold A26
 split
 ·rename_i hc
  intro x hx
  rcases List.mem_or_eq_of_mem_set hx with hx | rfl
  ·exact h x hx
  ·have:=h _ (H5 (l:=out) (i:=((out.length:Int)-1).toNat) (by omega))
   unfold A6g
   simp only
   omega
 ·intro x hx
  rcases List.mem_append.1 hx with hx | hx
  ·exact h x hx
  ·have:x=r:=by simpa using hx
   subst this
   exact h1
theorem Au4{l out:List Run}{i:Int}(h0:0≤i)(h:i < l.length)(hf:A54 l i out):A54 l (i+1) (A26 out l[i.toNat]!):=by
 unfold A54 Am3 at *
 rw[← D1 h0 h,List.foldl_append,← hf]
 rfl
theorem Z8{l:List Run}(hl:∀ r∈l,A3a r):∀ r∈Y5 l,A3a r:=fun r hr=>hl r ((Q6 fun r hr=>(hl r hr).1).subset hr)
theorem con239(ss:List (List Run))(hb:ss.flatten.length*16≤140737488351232):A4h Tryz.prog 239 [.sl (ss.map B4h)] 206 (.row 2 ((unR ss).map c206)) :=
 by
 refine A33 0 (B4h) (ss) (by kernel_rfl) Tryz.func239 (by kernel_rfl) fun hl_0=>A9w A6 (by kernel_rfl) (.tmp 2) 50 Tryz.func239 (by kernel_rfl) (by kernel_rfl) ?_
 intro e0 cx
 refine sq<|rG cx [0] [] z0<|sn<|sq<|rG cx [0,3] [] z0<|sn<|sq<|sq<|rG cx [3,13,14,15] [] (tL 1 B4h ss z0)<|sn<|bL 0<|G3 3 1003 206 2 (σ':=⟨[(3,.own 1003 0),(13,.sl (List.map B4h ss)),(14,.i .i64 ((↑ss.length:Int))),(15,.i .i64 ((0:Int)))],[(1003,⟨0,206,.row 2 (List.map c206 [])⟩)]⟩) (by kernel_rfl)<|sL (X:=Int×List Run) (fun x=>⟨[(3,.own 1003 0),(13,.sl (List.map B4h ss)),(14,.i .i64 ((↑ss.length:Int))),(15,.i .i64 (x.1))],[(1003,⟨0,206,.row 2 (List.map c206 x.2)⟩)]⟩) (fun x ↦ B62 ss x.1 x.2) (fun x ↦ Aa1 ss x.1 x.2) [3,13,14,15] [1003] (((0:Int),[])) (show Aa1 ss (0:Int) []from(by exact⟨by omega,by omega,rfl⟩)) ?_
 rintro⟨i0,a1⟩ h_2
 obtain⟨hh3,h4,hh5⟩:0≤i0∧i0≤(↑ss.length:Int)∧A21 ss i0 a1:=h_2
 refine rE cx [3,13,14,15,16] [1003] (zB 0 (i0 <(↑ss.length:Int))) (fun h6=>?_) fun h6=>?_
 refine sK<|sn<|sq<|bL 1<|sq<|rG cx [3,13,14,15,5] [1003] (fA (0≤i0) (fG B4h ss i0.toNat (fR 1 (oR 0 (B4h ss[i0.toNat]!) z0))))<|sn<|sq<|rG cx [3,13,14,15,19,20,21] [1003] (tL 1 c206 ss[i0.toNat]! z0)<|sn<|bL 2<|sL (X:=Int×List Run) (fun x=>⟨[(3,.own 1003 0),(13,.sl (List.map B4h ss)),(14,.i .i64 ((↑ss.length:Int))),(15,.i .i64 (i0)),(19,.sl (List.map c206 ss[i0.toNat]!)),(20,.i .i64 ((↑ss[i0.toNat]!.length:Int))),(21,.i .i64 (x.1))],[(1003,⟨0,206,.row 2 (List.map c206 x.2)⟩)]⟩) (fun x ↦ B63 ss i0 x.1 x.2) (fun x ↦ A6h ss i0 x.1 x.2) [3,13,14,15,19,20,21] [1003] (((0:Int),a1)) (show A6h ss i0 (0:Int) a1 from(by exact⟨by omega,by omega,Am4 hh5⟩)) ?_
 rintro⟨j7,a8⟩ h_9
 obtain⟨h10,h11,h12⟩:0≤j7∧j7≤(↑ss[i0.toNat]!.length:Int)∧L2 ss i0 j7 a8:=h_9
 refine rE cx [3,13,14,15,19,20,21,22] [1003] (zB 0 (j7 <(↑ss[i0.toNat]!.length:Int))) (fun h13=>?_) fun h13=>?_
 refine sK<|sn<|sq<|bL 3<|sq<|rG cx [3,13,14,15,19,20,21,7] [1003,7] (fA (0≤j7) (fG c206 ss[i0.toNat]! j7.toNat (fR 2 (fN 2 2 (oR 0 (c206 ss[i0.toNat]![j7.toNat]!) z0)))))<|sn<|sq<|rG cx [3,13,14,15,19,20,21,8,9] [1003,8] (fT (B4g (ss[i0.toNat]![j7.toNat]!)) (oA 1 (.tup [.agg [.i .i64 ((D4 ss[i0.toNat]![j7.toNat]!).lo),.i .i64 ((D4 ss[i0.toNat]![j7.toNat]!).hi)],.b (decide ((D4 ss[i0.toNat]![j7.toNat]!).lo≤(D4 ss[i0.toNat]![j7.toNat]!).hi))]) z0))<|sn<|sq<|rG cx [3,13,14,15,19,20,21,8,30] [1003,8] z0<|sn<|dC ((D4 ss[i0.toNat]![j7.toNat]!).lo≤(D4 ss[i0.toNat]![j7.toNat]!).hi) (fun h14=>?_) fun h14=>?_
 refine rG cx [3,13,14,15,19,20,21] [1003] (fR 206 (fR 2 (fR 2 (fX c206 [D4 ss[i0.toNat]![j7.toNat]!] 2 (fP ((List.map c206 a8).length+(List.map c206 [D4 ss[i0.toNat]![j7.toNat]!]).length≤maxLen) (by have:=X2 hb hh3 h6 h10 h13 h12;simp only [List.length_map,List.length_cons,List.length_nil,Go.maxLen];omega) (fP (((List.map c206 a8).length+(List.map c206 [D4 ss[i0.toNat]![j7.toNat]!]).length)*(16:Nat)≤(140737488355328:Nat)) (by have:=X2 hb hh3 h6 h10 h13 h12;simp only [List.length_map,List.length_cons,List.length_nil];omega) (fM c206 a8 [D4 ss[i0.toNat]![j7.toNat]!] (oV 3 { rows:=some (List.map c206 (a8++[D4 ss[i0.toNat]![j7.toNat]!])) } z0)))))))) ?_
 refine bN<|sn<|rG cx [3,13,14,15,19,20,21] [1003] (tT 0 (C1 (by omega) (by exact(X2 hb hh3 h6 h10 h13 h12).2):AV.i .i64 (IntKind.i64.wrap (j7+1))=AV.i .i64 (j7+1)) z0) ?_
 refine sn<|nX ((j7+1,a8++[D4 ss[i0.toNat]![j7.toNat]!])) (show((↑ss[i0.toNat]!.length:Int)-(j7+1)).toNat <((↑ss[i0.toNat]!.length:Int)-j7).toNat from(by omega)) (show A6h ss i0 (j7+1) (a8++[D4 ss[i0.toNat]![j7.toNat]!])from(by have:=A56 h10 h13 h12;rw[if_pos h14]at this;exact⟨by omega,by omega,this⟩))
 refine sK<|bN<|sn<|rG cx [3,13,14,15,19,20,21] [1003] (tT 0 (C1 (by omega) (by exact(X2 hb hh3 h6 h10 h13 h12).2):AV.i .i64 (IntKind.i64.wrap (j7+1))=AV.i .i64 (j7+1)) z0) ?_
 refine sn<|nX ((j7+1,a8)) (show((↑ss[i0.toNat]!.length:Int)-(j7+1)).toNat <((↑ss[i0.toNat]!.length:Int)-j7).toNat from(by omega)) (show A6h ss i0 (j7+1) a8 from(by have:=A56 h10 h13 h12;rw[if_neg h14]at this;exact⟨by omega,by omega,this⟩))
 refine eX 2<|nE<|nE<|bH<|bN<|sn<|rG cx [3,13,14,15] [1003] (tW 0 (i0+1) z0)<|sn<|nX ((i0+1,a8)) (show((↑ss.length:Int)-(i0+1)).toNat <((↑ss.length:Int)-i0).toNat from(by omega)) (show Aa1 ss (i0+1) a8 from(by exact⟨by omega,by omega,Au3 hh3 h6 h13 h12⟩))
 refine eX 0<|nE<|nE<|bH<|sn<|sq<|rG cx [3] [1003] (fP (U9 Tryz.prog (274:FuncId) (275:FuncId) none false (206:Nat) (2:Nat) (List.map c206 a1) (List.map c206 (Y5 a1))) (io274 (a1) ?g9 (by rw[S5 h6 hh5];have:=V6 ss.flatten;omega)) (oV 1 { rows:=some (List.map c206 (Y5 a1)) } z0)) ?_;rotate_left
 refine sn<|sq<|rG cx [3,10] [1003] z0<|sn<|sq<|sq<|rG cx [10,39,40,41] [1003] (tL 1 c206 (Y5 a1) z0)<|sn<|bL 4<|G3 10 1010 206 2 (σ':=⟨[(10,.own 1010 0),(39,.own 1003 0),(40,.i .i64 ((↑(Y5 a1).length:Int))),(41,.i .i64 ((0:Int)))],[(1003,⟨0,206,.row 2 (List.map c206 (Y5 a1))⟩),(1010,⟨0,206,.row 2 (List.map c206 [])⟩)]⟩) (by kernel_rfl)<|sL (X:=Int×List Run×List Run) (fun x=>⟨[(10,.own 1010 0),(39,.own 1003 0),(40,.i .i64 ((↑(Y5 a1).length:Int))),(41,.i .i64 (x.1))],[(1003,⟨0,206,.row 2 (List.map c206 x.2.1)⟩),(1010,⟨0,206,.row 2 (List.map c206 x.2.2)⟩)]⟩) (fun x ↦ B64 (Y5 a1) x.1 x.2.1 x.2.2) (fun x ↦ Aa2 (Y5 a1) x.1 x.2.1 x.2.2) [10,39,40,41] [1003,1010] (((0:Int),Y5 a1,[])) (show Aa2 (Y5 a1) (0:Int) (Y5 a1) []from(by exact⟨rfl,by omega,by omega,by simp,fun x hx=>by simp at hx,rfl⟩)) ?_
 rintro⟨i15,l16,o17⟩ h_18
 obtain⟨h19,h20,h21,h22,h23,h24⟩:l16=Y5 a1∧0≤i15∧i15≤(↑l16.length:Int)∧(↑o17.length:Int)≤i15∧hiOk o17∧A54 l16 i15 o17:=h_18
 refine rE cx [10,39,40,41,42] [1003,1010] (zB 0 (i15 <(↑(Y5 a1).length:Int))) (fun h25=>?_) fun h25=>?_
 refine sK<|sn<|sq<|bL 5<|sq<|rG cx [10,39,40,41,12] [1003,1010,12] (fA (0≤i15) (fP (i15.toNat <(List.map c206 l16).length) (by subst h19;simp only [List.length_map];omega) (fR 2 (fP (E.rowAt { ver:=0,ty:=206,k:=BK.row (2) (List.map c206 l16):Blk } i15.toNat (c206 l16[i15.toNat]!)) (by subst h19;exact P4 (by omega)) (fP (0+(2:Nat)≤(c206 l16[i15.toNat]!).length) (by exact Nat.le_of_ble_eq_true rfl) (oR 1 (c206 l16[i15.toNat]!) z0)))))) ?_
 refine sn<|rG cx [10,39,40,41] [1003,1010] (fT (con276 (o17) (l16[i15.toNat]!) (by(with_reducible assumption)) ?g15) (oV 2 { val:=some (.vw (0) (0) (0) (0)),rows:=some (List.map c206 (A26 o17 l16[i15.toNat]!)) } z0)) ?_;rotate_left
 refine bN<|sn<|rG cx [10,39,40,41] [1003,1010] (tT 0 (C1 (by omega) ?g16:AV.i .i64 (IntKind.i64.wrap (i15+1))=AV.i .i64 (i15+1)) z0) ?_;rotate_left
 refine sn<|nX ((i15+1,l16,A26 o17 l16[i15.toNat]!)) (show((↑(Y5 a1).length:Int)-(i15+1)).toNat <((↑(Y5 a1).length:Int)-i15).toNat from(by omega)) (show Aa2 (Y5 a1) (i15+1) l16 (A26 o17 l16[i15.toNat]!)from ?g17);rotate_left
 refine eX 4<|nE<|nE<|bH<|sn<|sq<|rG cx [2] [1010] z0<|sn<|rT<|Af3 (rows':=(List.map c206 o17)) .ret (.inr rfl) 2 1010 0 (by kernel_rfl) (by kernel_rfl) (by kernel_rfl) ?g18;rotate_left
 case g9=>revert i0 a1 hh3 h4 hh5 h6;intro i a h0 h1 h2 h3 r hr;rw[S5 h3 h2]at hr;exact(N5 r hr).1
 case g15 =>
  subst h19
  have e:=S5 h6 hh5
  have hg:∀ r∈a1,okR r:=fun r hr=>by rw[e]at hr;exact(N5 r hr).1
  have:=(Q6 hg).length_eq
  have h5:=V6 ss.flatten
  rw[← e]at h5
  omega
 case g16 =>
  subst h19
  have e:=S5 h6 hh5
  have hg:∀ r∈a1,okR r:=fun r hr=>by rw[e]at hr;exact(N5 r hr).1
  have:=(Q6 hg).length_eq
  have h5:=V6 ss.flatten
  rw[← e]at h5
  omega
 case g17 =>
  revert i0 a1 hh3 h4 hh5 h6 i15 l16 o17 h19 h20 h21 h22 h23 h24 h25
  intro i a h0 h1 h2 h3 j l o k0 k1 k2 k3 k4 k5 k6
  subst k0
  have e:=S5 h3 h2
  have hg:∀ r∈a,A3a r:=fun r hr=>by rw[e]at hr;exact N5 r hr
  have hr:=Z8 hg _ (H5 (l:=Y5 a) (i:=j.toNat) (by omega))
  have hlo:=Ag0 o (Y5 a)[j.toNat]!
  unfold A3a okR at hr
  exact⟨rfl,by omega,by omega,by omega,B65 k4 (by omega),Au4 k1 k6 k5⟩
 case g18 =>
  subst h19
  unfold A54 at h24
  rw[h24,S5 h6 hh5,List.take_of_length_le (by rw[← S5 h6 hh5];omega)]
  rfl
end Go.Proofs.YtphcaholhacnpaaGreat
namespace Go.E
open Go Go.Proofs Go.Shelf Go.RowKit Go.Lib
variable {P : Program} {ρ : Ren}
set_option maxHeartbeats 2000000 in
set_option maxRecDepth 100000 in
theorem Am5 (L:SlLaysE0.n41 P ρ) (i0:TypeInfo) (z:Value) (size bytes:Nat) (hi:P.info? (ρ.t 23)=some i0) (hz0:i0.zero=some z) (hz1:i0.size=size) (hz2:i0.bytes=bytes) (hzs:z.cells.size=size) (hsz:0 < size) (z23:∀ w,(Go.sizeOf (ρ.t 23)).run P w=.ok size w)
  (ad:Addr) (n c:Nat) (news:List Value) (w:World) (hl:news.length=n*size) (hn:n≤maxLen) (hbig:n*bytes≤140737488355328)
  (hc:∀ j u,news[j]?=some u→w.cell? (ad.add j)=some u) (h1:∀ u∈news,u.oneCell'=true) :
  Calls P (ρ.f 41) #[.slice (some ad) n c] w fun e w'=>∃ v',e=.returned v'∧w'.ownsRow w.heap.size (ρ.t 23) size v' n news∧Below w.heap.size w w':=by
 have mixed:=L.mixed;have t4:=L.t4;have a4:=L.a4;have z4:=L.z4;have v4:=L.v4;have t22:=L.t22;have a22:=L.a22;have z22:=L.z22;have v22:=L.v22
 have q22:∀(w:World) (a:Option Addr) (n c n' c':Nat),(binOp .eql (ρ.t 22) (.slice a n c) (.slice none n' c')).run P w=.ok (.bool a.isNone) w:=fun w a n c n' c'=>Lib.run_eql_slice_nil w _ _ a n c n' c' L.t22
 have u22:∀ w,Sem.run P (underlying (ρ.t 22)) w=.ok (TypeDesc.slice (ρ.t 23)) w:=run_underlying t22
 have A:Aside (∀ j u,news[j]?=some u→w.cell? (ad.add j)=some u):=hc
 clear hc
 obtain⟨_,_,FG⟩:=L.f41
 go_enter FG,SlBodyN.n41_ntmps ρ
 go_wp2_with (at_builtin;refine wpList_append_own _ rfl _ _ (ρ.t 22) rfl w.heap.size (ρ.t 23) i0 z size bytes t22 hi hz0 hz1 hz2 hzs hsz _ _ _ rfl (World.ownsRow_made w #[] 0 (Nat.le_refl _) (Nat.zero_le _) (by simp)) ad n c news rfl ?qc1 ?qc2 ?qc3 ?qc4 ?qc5 ?qc6 ?_)
 case qc1=>exact hl
 case qc2 =>
  intro j u hj
  exact Lib.cell?_alloc_some _ (A.out j u hj)
 case qc3=>exact h1
 case qc4=>rw[Nat.zero_add];exact hn
 case qc5=>rw[Nat.zero_add];exact hbig
 case qc6=>simp
 intro v' w1 hown hgrow hnil
 go_wp2
 go_ret
 refine⟨v',rfl,by simpa using hown,?_⟩
 exact((Below.refl _ w).alloc (Nat.le_refl _) _).grown hgrow (by simp) (by intro k hk;simp [Value.ownBlock]at hk;omega)
set_option maxHeartbeats 1000000 in
theorem Am6 (L:SlLaysE0.n41 P ρ) (n c:Nat) (w:World) :
  Calls P (ρ.f 41) #[.slice none n c] w fun e w'=>e=.returned (.slice none 0 0)∧w'=w:=by
 have mixed:=L.mixed;have t4:=L.t4;have a4:=L.a4;have z4:=L.z4;have v4:=L.v4;have t22:=L.t22;have a22:=L.a22;have z22:=L.z22;have v22:=L.v22
 have q22:∀(w:World) (a:Option Addr) (n c n' c':Nat),(binOp .eql (ρ.t 22) (.slice a n c) (.slice none n' c')).run P w=.ok (.bool a.isNone) w:=fun w a n c n' c'=>Lib.run_eql_slice_nil w _ _ a n c n' c' L.t22
 obtain⟨_,_,FG⟩:=L.f41
 go_enter FG,SlBodyN.n41_ntmps ρ
 go_wp2
 go_ret
 exact⟨rfl,rfl⟩
theorem A1k(L:SlLaysE0.n41 P ρ){T:Tab}(hT:TabOk P T){te:TI}(hte:look T (ρ.t 23)=some te)(hcl:D5 P (ρ.f 41))(hz:te.zero.length=te.size)(h0:0 < te.size){rows:List (List AV)}(hsz:∀ r∈rows,r.length=te.size)
  (hbig:rows.length*te.bytes≤140737488355328):A4h P (ρ.f 41) [.sl rows] (ρ.t 23) (.row te.size rows):=by
 refine⟨hcl,fun w S0 vs hS hl hv=>?_⟩
 obtain⟨v,rfl⟩:∃ v,vs=[v]:=by
  match vs,hl with
  | [v],_=>exact⟨v,rfl⟩
 have hr:=hv 0 _ v rfl rfl
 have hm:rows.length≤maxLen:=by cases hr with | sl _ A cap sz u hc hm=>exact hm
 obtain⟨i,zv,i1,i2,i3,i4,i5⟩:=inf hT hte
 rcases(Ad8 hr).flat hsz with⟨rfl,rfl⟩ | ⟨ad,cap,xs,rfl,x1,x2,x3,x4⟩
 ·refine(Am6 L 0 0 w).mono ?_
  rintro e w' ⟨rfl,rfl⟩
  exact⟨_,rfl,⟨fun r hr=>by simp at hr,[],World.ownsRow_nil _ _ _ _,fun u hu=>by simp at hu,fun j b u hb=>by simp at hb⟩,Below.refl _ _⟩
 ·have hzl:zv.cells.size=te.size:=by
   have:=congrArg List.length i5
   simpa [hz]using this
  refine(Am5 L i zv te.size te.bytes i1 i4 i2 i3 hzl h0 (A7b hT hte) ad rows.length cap xs w x1 hm hbig x2 x3).mono ?_
  rintro e w' ⟨v',rfl,ho,hb⟩
  refine⟨v',rfl,⟨hsz,xs,ho,x3,fun j b u hb' hu=>(x4 j b u hb' hu).mono (fun k hk=>⟨.inl hk,fun e=>?_⟩) (fun k hk=>hb.block k (hS k hk))⟩,hb⟩
  have:=hS k hk
  rcases ho.2 with⟨rfl,_⟩ | ⟨g,cap',cur,rfl,g1,_⟩
  ·simp [blkOf]at e
  ·simp [blkOf]at e;omega
end Go.E
namespace Go.Proofs.YtphcaholhacnpaaGreat
open Go.E
set_option maxRecDepth 100000
set_option maxHeartbeats 4000000
open Go Go.Shelf Go.Proofs
def renClR:Go.Shelf.Ren:=⟨fun | 41=>208 | n=>n,fun | 4=>4 | 22=>201 | 23=>206 | n=>n,fun n=>n⟩
theorem B66:Go.Proofs.SlLaysE0.n41 Tryz.prog renClR:={ mixed:=by kernel_rfl,f41:=⟨Tryz.f208.name,by decide,Tryz.func208.trans (congrArg some (by kernel_rfl))⟩,t4:=Tryz.underlying4,a4:=Tryz.isAgg4,z4:=Tryz.sizeOf4,v4:=Tryz.zeroValue4,t22:=Tryz.underlying201,a22:=Tryz.isAgg201,z22:=Tryz.sizeOf201,v22:=Tryz.zeroValue201 }
theorem con208(es:List Run)(hl:es.length*16≤140737488355328):A4h Tryz.prog 208 [.sl (es.map c206)] 206 (.row 2 (es.map c206)) :=
 A1k (T:=tab) B66 A6 (te:=_) rfl ⟨_,Tryz.func208,by kernel_rfl,by kernel_rfl⟩ (by kernel_rfl) (by decide +kernel) (fun r hr=>by obtain⟨x,_,rfl⟩:=List.mem_map.1 hr;kernel_rfl) (by rw[List.length_map];exact hl)
def renClI:Go.Shelf.Ren:=⟨fun | 41=>164 | n=>n,fun | 4=>4 | 22=>23 | 23=>3 | n=>n,fun n=>n⟩
theorem B67:Go.Proofs.SlLaysE0.n41 Tryz.prog renClI:={ mixed:=by kernel_rfl,f41:=⟨Tryz.f164.name,by decide,Tryz.func164.trans (congrArg some (by kernel_rfl))⟩,t4:=Tryz.underlying4,a4:=Tryz.isAgg4,z4:=Tryz.sizeOf4,v4:=Tryz.zeroValue4,t22:=Tryz.underlying23,a22:=Tryz.isAgg23,z22:=Tryz.sizeOf23,v22:=Tryz.zeroValue23 }
theorem con164(es:List Int)(hl:es.length*8≤140737488355328):A4h Tryz.prog 164 [.sl (es.map c3)] 3 (.row 1 (es.map c3)) :=
 A1k (T:=tab) B67 A6 (te:=_) rfl ⟨_,Tryz.func164,by kernel_rfl,by kernel_rfl⟩ (by kernel_rfl) (by decide +kernel) (fun r hr=>by obtain⟨x,_,rfl⟩:=List.mem_map.1 hr;kernel_rfl) (by rw[List.length_map];exact hl)
def nrm(a:List Run):List Run:=unR [a]
def B7(n:List Run):Int×List Run:=if n.length=0∨¬ n[0]!.lo=1 then(0,n)else(n[0]!.hi,n.drop 1)
theorem Au5(l:List Run):(Am3 l).length≤l.length:=by
 have:∀(l out:List Run),(l.foldl A26 out).length≤out.length+l.length:=by
  intro l
  induction l with
  | nil=>intro out;simp
  | cons r l ih =>
   intro out
   have h1:=ih (A26 out r)
   have h2:=Ag0 out r
   simp only [List.foldl_cons,List.length_cons]
   omega
 have h:=this l []
 simpa [Am3]using h
theorem V7(a:List Run):(nrm a).length≤a.length:=by
 have h1:=Au5 (Y5 (P5 [a].flatten))
 have h2:=(Q6 (l:=P5 [a].flatten) fun r hr=>(N5 r hr).1).length_eq
 have h3:=V6 [a].flatten
 unfold nrm unR
 simp only [List.flatten_cons,List.flatten_nil,List.append_nil]at *
 omega
theorem A84(a:List Run)(hb:a.length*16≤140737488351232):Con Tryz.prog 207 [.sl (a.map c206)] (.sl ((nrm a).map c206)) :=
 by
 refine lN 0 c206 (a) Tryz.func207 fun hl_0=>sC A6 [.tmp 2] 6 Tryz.func207 ?_
 intro e0 cx
 refine sq<|rG cx [0] [] z0<|sn<|sq<|rG cx [2] [5] (fT (con239 ([a]) ?g0) (oV 2 { val:=some (.own (206:Nat) (2:Nat)),rows:=some (List.map c206 (unR [a])) } z0)) ?_;rotate_left
 refine sn<|rT<|qR (.sl (((E.look [(2,{ val:=some (AV.own (206:Nat) (2:Nat)),rows:=some (List.map c206 (unR [a])):Ov })] (2)).getD {:Ov }).rows.getD [])) (.eq ?g1);rotate_left
 case g0=>exact(by simpa using hb)
 case g1=>exact rfl
theorem con163(a:List Run)(hb:a.length*16≤140737488351232):Con Tryz.prog 163 [.sl (a.map c206)] (.tup [.i .i64 (B7 (nrm a)).1,.sl ((B7 (nrm a)).2.map c206)]) :=
 by
 have hn:=V7 a
 refine lN 0 c206 (a) Tryz.func163 fun hl_0=>sC A6 [.tmp 2,.tmp 3] 25 Tryz.func163 ?_
 intro e0 cx
 refine sq<|rG cx [0] [] z0<|sn<|sq ?_
 have hl_0:=(V7 a)
 refine rG cx [4] [] (fT (A84 (a) (by(with_reducible assumption))) (oA 1 (.sl (List.map c206 (nrm a))) z0))<|sn<|sq<|sq<|A7 (σ':=⟨[(4,.sl (List.map c206 (nrm a))),(16,.b (decide ((↑(nrm a).length:Int)=0∨¬(nrm a)[(0:Nat)]!.lo=1)))],[]⟩) ?_ ?_
 refine A2 ((↑(nrm a).length:Int)=0) (fun h2=>?_) (fun h2=>?_)
 refine rG cx [4,16] [] (tL 1 c206 (nrm a) (tT 2 (A1 h2) (tD 9 true ((↑(nrm a).length:Int)=0∨¬(nrm a)[(0:Nat)]!.lo=1) (by simp only [eq_true h2,tsl]) z0))) ?_
 exact⟨rfl,by kernel_rfl⟩
 refine rG cx [4,16] [] (tL 1 c206 (nrm a) (tT 2 (A0 h2) (fO ((0:Int)≤(0:Int)) (fP ((List.map c206 (nrm a))[Int.toNat (0:Int)]?=some (c206 (nrm a)[(0:Nat)]!)) (by exact P4 (by omega)) (fR 2 (tN 8 ((nrm a)[(0:Nat)]!.lo) (1:Int) (tD 9 (decide ¬(nrm a)[(0:Nat)]!.lo=1) ((↑(nrm a).length:Int)=0∨¬(nrm a)[(0:Nat)]!.lo=1) (by simp only [eq_false h2,tsl]) (oR 5 (c206 (nrm a)[(0:Nat)]!) z0)))))))) ?_
 exact⟨rfl,by kernel_rfl⟩
 refine sn<|dC ((↑(nrm a).length:Int)=0∨¬(nrm a)[(0:Nat)]!.lo=1) (fun h3=>?_) fun h3=>?_
 refine sq<|rG cx [2,3] [] z0<|sn<|rT<|nR<|qR (.tup [.i .i64 ((0:Int)),.sl (List.map c206 (nrm a))]) (A3.tup (ZLe.cons (A3.eq (show AV.i .i64 0=AV.i .i64 (B7 (nrm a)).1 from(by unfold B7;rw[if_pos (h3.imp (fun k=>by omega) id)]))) (ZLe.cons (A3.eq (show AV.sl (List.map c206 (nrm a))=AV.sl (List.map c206 (B7 (nrm a)).2)from(by unfold B7;rw[if_pos (h3.imp (fun k=>by omega) id)]))) ZLe.nil)))
 refine sK<|sn<|sq<|rA cx [2,3] [24] (fO ((0:Int)≤(0:Int)) (fP ((List.map c206 (nrm a))[Int.toNat (0:Int)]?=some (c206 (nrm a)[(0:Nat)]!)) (by exact P4 (by omega)) (fR 2 (tT 5 (B24 c206 (nrm a) (Int.toNat (1:Int)):AV.sl (List.drop (Int.toNat (1:Int)) (List.take (none.getD (↑(List.map c206 (nrm a)).length:Int)).toNat (List.map c206 (nrm a))))=AV.sl (List.map c206 (List.drop (Int.toNat (1:Int)) (nrm a)))) (fO ((0:Int)≤(1:Int)) (fP (1≤none.getD (↑(List.map c206 (nrm a)).length:Int)) (by have:¬((nrm a).length:Int)=0:=fun k=>h3 (.inl k);simp only [Option.getD_none,List.length_map];omega) (fP (none.getD (↑(List.map c206 (nrm a)).length:Int)≤(↑(List.map c206 (nrm a)).length:Int)) (by exact Int.le_refl _) (fX c206 (nrm a) 2 (fT (con208 (List.drop (Int.toNat (1:Int)) (nrm a)) (by rw[List.length_drop];omega)) (oR 1 (c206 (nrm a)[(0:Nat)]!) (oV 6 { val:=some (.own (206:Nat) (2:Nat)),rows:=some (List.map c206 (List.drop (Int.toNat (1:Int)) (nrm a))) } z0))))))))))) ?_
 refine sn<|rT<|qR (.tup [.i .i64 ((nrm a)[(0:Nat)]!.hi),.sl (((E.look [(6,{ val:=some (AV.own (206:Nat) (2:Nat)),rows:=some (List.map c206 (List.drop (Int.toNat (1:Int)) (nrm a))):Ov })] (6)).getD {:Ov }).rows.getD [])]) (A3.tup (ZLe.cons (A3.eq (show AV.i .i64 (nrm a)[(0:Nat)]!.hi=AV.i .i64 (B7 (nrm a)).1 from(by unfold B7;rw[if_neg (fun k=>h3 (k.imp (fun k=>by omega) id))]))) (ZLe.cons (A3.eq (show AV.sl (((E.look [(6,{ val:=some (AV.own (206:Nat) (2:Nat)),rows:=some (List.map c206 (List.drop (Int.toNat (1:Int)) (nrm a))):Ov })] (6)).getD {:Ov }).rows.getD [])=AV.sl (List.map c206 (B7 (nrm a)).2)from(by show AV.sl (List.map c206 (List.drop 1 (nrm a)))=_;unfold B7;rw[if_neg (fun k=>h3 (k.imp (fun k=>by omega) id))]))) ZLe.nil)))
end Go.Proofs.YtphcaholhacnpaaGreat
namespace Go.Proofs.YtphcaholhacnpaaGreat
open Go.E
set_option maxRecDepth 100000
set_option maxHeartbeats 4000000
def U5(l:List Run):Prop:=l.Pairwise (fun x y=>x.hi+1 < y.lo)∧∀ r∈l,1≤r.lo∧r.lo≤r.hi∧r.hi≤1000000000
def inR(l:List Run)(n:Int):Prop:=∃ r∈l,r.lo≤n∧n≤r.hi
theorem Au6{α:Type}[Inhabited α]{l:List α}(h:0 <(l.length:Int)):∃ p,l=p++[l[((l.length:Int)-1).toNat]!]:=by
 refine⟨l.take (l.length-1),?_⟩
 have e:((l.length:Int)-1).toNat=l.length-1:=by omega
 rw[e]
 have h1:=List.take_succ_eq_append_getElem (l:=l) (i:=l.length-1) (by omega)
 rw[getElem!_pos l (l.length-1) (by omega),← h1,List.take_of_length_le (by omega)]
theorem A85(p:List Run)(x r:Run):A26 (p++[x]) r=if r.lo≤x.hi+1 then p++[⟨x.lo,max x.hi r.hi⟩]else p++[x]++[r]:=by
 have e:(((p++[x]).length:Int)-1).toNat=p.length:=by rw[List.length_append,List.length_singleton];omega
 have hx:A6g (p++[x])=x:=by unfold A6g;rw[e];simp
 unfold A26
 rw[hx,e]
 by_cases h:r.lo≤x.hi+1
 ·rw[if_pos ⟨by rw[List.length_append,List.length_singleton];omega,h⟩,if_pos h]
  simp
 ·rw[if_neg (fun k=>h k.2),if_neg h]
theorem Ag1(r:Run):A26 [] r=[r]:=by simp [A26]
theorem X3:U5 []:=⟨List.Pairwise.nil,fun r hr=>by cases hr⟩
theorem B2d {out : List Run} {r : Run} (h : U5 out) (hr : A3a r) : U5 (A26 out r) := by
  unfold A3a okR at hr
  by_cases h0:out=[]
  · subst h0
    rw[Ag1]
    exact ⟨by simp, fun x hx => by have : x = r := by simpa using hx
                                   subst this;omega⟩
  · obtain ⟨p, hp⟩ := Au6 (l := out) (by have := List.length_pos_iff.2 h0; omega)
    generalize out[((out.length:Int)-1).toNat]! = x at hp
    subst hp
    obtain⟨h1,h2⟩:=h
    rw[List.pairwise_append]at h1
    obtain⟨q1,_,q3⟩:=h1
    have hx:=h2 x (by simp)
    rw[A85]
    split
    · refine ⟨List.pairwise_append.2 ⟨q1, by simp, fun a ha b hb => ?_⟩, fun a ha => ?_⟩
      · have : b = ⟨x.lo, max x.hi r.hi⟩ := by simpa using hb
        subst this
        exact q3 a ha x (by simp)
      · rcases List.mem_append.1 ha with ha | ha
        · exact h2 a (by simp [ha])
        · have : a = ⟨x.lo, max x.hi r.hi⟩ := by simpa using ha
          subst this
          simp only
          omega
    · rename_i hn
      refine⟨List.pairwise_append.2 ⟨List.pairwise_append.2 ⟨q1,by simp,q3⟩,by simp,fun a ha b hb=>?_⟩,fun a ha=>?_⟩
      · have : b = r := by simpa using hb
        subst this
        rcases List.mem_append.1 ha with ha | ha
        · have:=q3 a ha x (by simp);omega
        · have : a = x := by simpa using ha
          subst this
          omega
      · rcases List.mem_append.1 ha with ha | ha
        · exact h2 a ha
        · have : a = r := by simpa using ha
          subst this
          omega
theorem B68{out:List Run}{r:Run}(hl:∀ x∈out,x.lo≤r.lo)(hs:U5 out)(n:Int):inR (A26 out r) n↔inR out n∨(r.lo≤n∧n≤r.hi):=by
 by_cases h0:out=[]
 ·subst h0
  rw[Ag1]
  simp [inR]
 ·obtain⟨p,hp⟩:=Au6 (l:=out) (by have:=List.length_pos_iff.2 h0;omega)
  generalize out[((out.length:Int)-1).toNat]! = x at hp
  subst hp
  have hx:=hs.2 x (by simp)
  have hlx:=hl x (by simp)
  rw[A85]
  have app:∀(a b:List Run),inR (a++b) n↔inR a n∨inR b n:=by
   intro a b
   unfold inR
   constructor
   ·rintro⟨y,hy,h⟩
    rcases List.mem_append.1 hy with hy | hy
    ·exact .inl ⟨y,hy,h⟩
    ·exact .inr ⟨y,hy,h⟩
   ·rintro(⟨y,hy,h⟩ | ⟨y,hy,h⟩)
    ·exact⟨y,List.mem_append.2 (.inl hy),h⟩
    ·exact⟨y,List.mem_append.2 (.inr hy),h⟩
  have one:∀ y:Run,inR [y] n↔(y.lo≤n∧n≤y.hi):=by intro y;simp [inR]
  split
  ·rw[app,app,one,one,or_assoc]
   refine or_congr_right ?_
   simp only
   omega
  ·rw[app,one]
theorem A57(l:List Run):∀(out:List Run),U5 out→(∀ r∈l,A3a r)→l.Pairwise (fun x y=>x.lo≤y.lo)→(∀ x∈out,∀ r∈l,x.lo≤r.lo) →
  U5 (l.foldl A26 out)∧∀ n,inR (l.foldl A26 out) n↔inR out n∨inR l n:=by
 induction l with
 | nil=>intro out h _ _ _;exact⟨h,fun n=>by simp [inR]⟩
 | cons r l ih =>
  intro out h hg hp hl
  rw[List.pairwise_cons]at hp
  have hlo:∀ x∈A26 out r,∀ y∈l,x.lo≤y.lo:=by
   intro x hx y hy
   have hy1:=hp.1 y hy
   unfold A26 at hx
   split at hx
   ·rename_i hc
    rcases List.mem_or_eq_of_mem_set hx with hx | rfl
    ·have:=hl x hx r (by simp);omega
    ·have:=hl _ (H5 (l:=out) (i:=((out.length:Int)-1).toNat) (by omega)) r (by simp)
     unfold A6g
     simp only
     omega
   ·rcases List.mem_append.1 hx with hx | hx
    ·have:=hl x hx r (by simp);omega
    ·have:x=r:=by simpa using hx
     subst this
     exact hy1
  obtain⟨g1,g2⟩:=ih (A26 out r) (B2d h (hg r (by simp))) (fun y hy=>hg y (by simp [hy])) hp.2 hlo
  refine⟨g1,fun n=>?_⟩
  rw[List.foldl_cons,g2 n,B68 (fun x hx=>hl x hx r (by simp)) h n,or_assoc]
  refine or_congr_right ?_
  simp [inR]
theorem B69(ss:List (List Run)):U5 (unR ss):=by
 have hg:∀ r∈P5 ss.flatten,A3a r:=N5
 exact(A57 _ [] X3 (Z8 hg) (A53 _) (fun x hx=>by cases hx)).1
theorem unR_in(ss:List (List Run))(n:Int):inR (unR ss) n↔1≤n∧n≤1000000000∧inR ss.flatten n:=by
 have hg:∀ r∈P5 ss.flatten,A3a r:=N5
 have h:=(A57 _ [] X3 (Z8 hg) (A53 _) (fun x hx=>by cases hx)).2 n
 unfold unR Am3
 rw[h]
 have hp:=Q6 (l:=P5 ss.flatten) fun r hr=>(hg r hr).1
 constructor
 ·rintro(⟨r,hr,_⟩ | ⟨r,hr,h1,h2⟩)
  ·cases hr
  ·have hr:=hp.subset hr
   unfold P5 at hr
   obtain⟨hr,_⟩:=List.mem_filter.1 hr
   obtain⟨x,hx,rfl⟩:=List.mem_map.1 hr
   simp only [D4]at h1 h2
   exact⟨by omega,by omega,x,hx,by omega,by omega⟩
 ·rintro⟨h1,h2,x,hx,h3,h4⟩
  refine .inr ⟨D4 x,hp.symm.subset ?_,?_,?_⟩
  ·unfold P5
   refine List.mem_filter.2 ⟨List.mem_map.2 ⟨x,hx,rfl⟩,?_⟩
   show decide ((D4 x).lo≤(D4 x).hi)=true
   rw[decide_eq_true_iff]
   show max x.lo 1≤min x.hi 1000000000
   omega
  ·simp only [D4];omega
  ·simp only [D4];omega
theorem Au7{l:List Run}(h:U5 l):∀ i:Nat,i < l.length→2*(i:Int)+1≤l[i]!.lo
 | 0,hi=>by have:=h.2 _ (H5 hi);omega
 | i+1,hi=>by
  have h1:=Au7 h i (by omega)
  have h2:=List.pairwise_iff_getElem.1 h.1 i (i+1) (by omega) hi (by omega)
  rw[← getElem!_pos l i (by omega),← getElem!_pos l (i+1) hi]at h2
  have h3:=h.2 _ (H5 (l:=l) (i:=i) (by omega))
  omega
theorem X4{l:List Run}(h:U5 l):l.length≤500000000:=by
 by_cases h0:l.length=0
 ·omega
 ·have h1:=Au7 h (l.length-1) (by omega)
  have h2:=h.2 _ (H5 (l:=l) (i:=l.length-1) (by omega))
  omega
theorem E5(a:List Run):U5 (nrm a):=B69 [a]
theorem V8(a:List Run)(n:Int):inR (nrm a) n↔1≤n∧n≤1000000000∧inR a n:=by
 have:=unR_in [a] n
 simpa [nrm]using this
theorem A1l:∀ {a b:List Run},U5 a→U5 b→(∀ n,inR a n↔inR b n)→a=b
 | [],[],_,_,_=>rfl
 | [],y :: b,_,hb,h=>by
  have:=hb.2 y (by simp)
  obtain⟨r,hr,_⟩:=(h y.lo).2 ⟨y,by simp,by omega,by omega⟩
  cases hr
 | x :: a,[],ha,_,h=>by
  have:=ha.2 x (by simp)
  obtain⟨r,hr,_⟩:=(h x.lo).1 ⟨x,by simp,by omega,by omega⟩
  cases hr
 | x :: a,y :: b,ha,hb,h=>by
  have hx:=ha.2 x (by simp)
  have hy:=hb.2 y (by simp)
  have pa:=List.pairwise_cons.1 ha.1
  have pb:=List.pairwise_cons.1 hb.1
  have la:∀ n,inR a n→x.hi+1 < n:=fun n ⟨r,hr,h1,_⟩=>by have:=pa.1 r hr;omega
  have lb:∀ n,inR b n→y.hi+1 < n:=fun n ⟨r,hr,h1,_⟩=>by have:=pb.1 r hr;omega
  have ca:∀ n,inR (x :: a) n↔(x.lo≤n∧n≤x.hi)∨inR a n:=fun n=>by simp [inR]
  have cb:∀ n,inR (y :: b) n↔(y.lo≤n∧n≤y.hi)∨inR b n:=fun n=>by simp [inR]
  have e1:x.lo=y.lo:=by
   have h1:=(cb x.lo).1 ((h x.lo).1 ((ca x.lo).2 (.inl (by omega))))
   have h2:=(ca y.lo).1 ((h y.lo).2 ((cb y.lo).2 (.inl (by omega))))
   rcases h1 with h1 | h1
   ·rcases h2 with h2 | h2
    ·omega
    ·have:=la _ h2;omega
   ·have:=lb _ h1
    rcases h2 with h2 | h2
    ·omega
    ·have:=la _ h2;omega
  have e2:x.hi=y.hi:=by
   have h1:=(cb x.hi).1 ((h x.hi).1 ((ca x.hi).2 (.inl (by omega))))
   have h2:=(ca y.hi).1 ((h y.hi).2 ((cb y.hi).2 (.inl (by omega))))
   have h3:¬ x.hi < y.hi:=fun k=>by
    have:=(ca (x.hi+1)).1 ((h (x.hi+1)).2 ((cb (x.hi+1)).2 (.inl (by omega))))
    rcases this with g | g
    ·omega
    ·have:=la _ g;omega
   have h4:¬ y.hi < x.hi:=fun k=>by
    have:=(cb (y.hi+1)).1 ((h (y.hi+1)).1 ((ca (y.hi+1)).2 (.inl (by omega))))
    rcases this with g | g
    ·omega
    ·have:=lb _ g;omega
   omega
  have e:x=y:=by cases x;cases y;simp only at e1 e2;rw[e1,e2]
  subst e
  rw[A1l (a:=a) (b:=b) ⟨pa.2,fun r hr=>ha.2 r (by simp [hr])⟩ ⟨pb.2,fun r hr=>hb.2 r (by simp [hr])⟩ fun n=>?_]
  have:=h n
  rw[ca,cb]at this
  constructor
  ·intro g
   have g1:=la n g
   rcases this.1 (.inr g)with k | k
   ·omega
   ·exact k
  ·intro g
   have g1:=lb n g
   rcases this.2 (.inr g)with k | k
   ·omega
   ·exact k
end Go.Proofs.YtphcaholhacnpaaGreat
namespace Go.Proofs.YtphcaholhacnpaaGreat
open Go.E
set_option maxRecDepth 100000
set_option maxHeartbeats 4000000
def Z9(T:Nat→List Run)(r:Nat):Int:=(B7 (nrm (T r))).1
def U3(T:Nat→List Run)(r:Nat):List Span:=(B7 (nrm (T r))).2.map fun x=>⟨r,x.lo,x.hi⟩
def szT(T:Nat→List Run):Nat→Int
 | 0=>0
 | n+1=>if 0 < Z9 T n then n+1 else szT T n
def H3(T:Nat→List Run):Nat→List Span
 | 0=>[]
 | n+1=>H3 T n++U3 T n
def A75(T:Nat→List Run)(n:Nat):List Int:=(List.range n).map (Z9 T)++List.replicate (16-n) 0
def I9(T:Nat→List Run):Past:=⟨(A75 T 16).take (szT T 16).toNat,H3 T 16⟩
def B6a(T:Nat→List Run)(r s:Int):Prop:=s=szT T r.toNat
def A86(T:Nat→List Run)(r:Int)(v:List Int):Prop:=v=A75 T r.toNat
def V9(T:Nat→List Run)(r:Int)(c:List Span):Prop:=c=H3 T r.toNat
def I4(T:Nat→List Run)(r j:Int)(c:List Span):Prop:=c=H3 T r.toNat++(U3 T r.toNat).take j.toNat
def Ag2(T:Nat→List Run)(s r:Int)(v:List Int)(c:List Span):Prop:=0≤r∧r≤16∧0≤s∧s≤r∧v.length=16∧B6a T r s∧A86 T r v∧V9 T r c
def dec81a(s r:Int)(v:List Int)(c:List Span):Nat:=(16-r).toNat
def A58(T:Nat→List Run)(r:Int)(w:List Int)(j:Int)(v:List Int)(c:List Span):Prop:=v=w∧0≤j∧j≤(B7 (nrm (T r.toNat))).2.length∧I4 T r j c
def B4i(T:Nat→List Run)(r:Int)(j:Int)(v:List Int)(c:List Span):Nat:=((B7 (nrm (T r.toNat))).2.length-j).toNat
theorem A2g(T:Nat→List Run)(r:Nat):(B7 (nrm (T r))).2.length≤500000000:=by
 have h:=X4 (E5 (T r))
 unfold B7
 split
 ·exact h
 ·simp only [List.length_drop];omega
theorem A3b(T:Nat→List Run):∀ n:Nat,(H3 T n).length≤n*500000000
 | 0=>by simp [H3]
 | n+1=>by
  have h1:=A3b T n
  have h2:=A2g T n
  rw[H3,List.length_append,U3,List.length_map]
  omega
theorem X5{T:Nat→List Run}{r j:Int}{c:List Span}(h0:0≤r)(h1:r < 16)(hc:I4 T r j c):c.length≤8000000000:=by
 unfold I4 at hc
 have h2:=A3b T r.toNat
 have h3:=A2g T r.toNat
 rw[hc,List.length_append,List.length_take,U3,List.length_map]
 omega
theorem A22{T:Nat→List Run}{r:Int}{c:List Span}(hc:V9 T r c):I4 T r 0 c:=by
 unfold V9 I4 at *
 simpa using hc
theorem A3c{T:Nat→List Run}{r j:Int}{c:List Span}(h0:0≤r)(j0:0≤j)(jl:j <(B7 (nrm (T r.toNat))).2.length)(hc:I4 T r j c) :
  I4 T r (j+1) (c++[⟨r,((B7 (nrm (T r.toNat))).2[j.toNat]!).lo,((B7 (nrm (T r.toNat))).2[j.toNat]!).hi⟩]):=by
 unfold I4 at *
 have hl:(j:Int) <(U3 T r.toNat).length:=by rw[U3,List.length_map];exact jl
 rw[← D1 j0 hl,← List.append_assoc,← hc]
 have e:(U3 T r.toNat)[j.toNat]! =⟨r,((B7 (nrm (T r.toNat))).2[j.toNat]!).lo,((B7 (nrm (T r.toNat))).2[j.toNat]!).hi⟩:=by
  have hj:j.toNat <(B7 (nrm (T r.toNat))).2.length:=by omega
  rw[getElem!_pos (U3 T r.toNat) j.toNat (by omega),getElem!_pos (B7 (nrm (T r.toNat))).2 j.toNat hj]
  simp only [U3,List.getElem_map]
  congr 1
  omega
 rw[e]
theorem A59{T:Nat→List Run}{r j:Int}{c:List Span}(h0:0≤r)(jl:¬ j <(B7 (nrm (T r.toNat))).2.length)(hc:I4 T r j c):V9 T (r+1) c:=by
 unfold I4 V9 at *
 rw[hc,show(r+1).toNat=r.toNat+1 by omega,H3,List.take_of_length_le (by rw[U3,List.length_map];omega)]
theorem Ag3{T:Nat→List Run}{r:Int}{v:List Int}(h0:0≤r)(h1:r < 16)(hv:A86 T r v):A86 T (r+1) (v.set r.toNat (B7 (nrm (T r.toNat))).1):=by
 unfold A86 at *
 rw[hv,show(r+1).toNat=r.toNat+1 by omega]
 unfold A75
 generalize hn:r.toNat=n
 have hn':n < 16:=by omega
 rw[List.set_append_right _ _ (by simp),List.length_map,List.length_range,Nat.sub_self,show 16-n=(16-(n+1))+1 by omega,List.replicate_succ,List.set_cons_zero,List.range_succ,List.map_append,List.append_assoc]
 rfl
theorem Au8{T:Nat→List Run}{r s:Int}(h0:0≤r)(hs:B6a T r s):B6a T (r+1) (if 0 <(B7 (nrm (T r.toNat))).1 then r+1 else s):=by
 unfold B6a at *
 rw[show(r+1).toNat=r.toNat+1 by omega,szT,Z9,hs]
 split
 ·omega
 ·rfl
theorem Aa3{T:Nat→List Run}{r s:Int}{v:List Int}{c:List Span}(h1:r≤16)(h:¬ r < 16)(hs:B6a T r s)(hv:A86 T r v)(hc:V9 T r c):I9 T=⟨v.take s.toNat,c⟩:=by
 unfold B6a A86 V9 at *
 have:r.toNat=16:=by omega
 rw[this]at hs hv hc
 unfold I9
 rw[hs,hv,hc]
theorem B2e(t:Nat→List Run)(hb:∀ r:Nat,r < 16→(t r).length*16≤140737488351232):Con Tryz.prog 93 [.eptr (Q3 c206 16 t)] (.agg (c26 (I9 t))) :=
 by
 refine sC A6 [.cell 2 26] 59 Tryz.func93 ?_
 intro e0 cx
 refine sq<|rG cx [0,2] [2] z0<|sn<|sq<|rG cx [0,2,3] [2,3] z0<|sn<|sq<|rG cx [0,2,3,4] [2,3,11] (fR (↑(16:Nat):Int) (fR (↑(16:Nat):Int) (fO ((8:Nat)*(16:Nat)≤(281474976710656:Nat)) (fP ((16:Nat)≤maxLen) (by(simp only [Go.maxLen];omega)) (fR 1 (fP (ZLe [AV.i .i64 (0:Int)] [AV.i .i64 (0:Int)]) (by(with_reducible exact ZLe.refl _)) (fP (List.replicate (16:Nat) [AV.i .i64 (0:Int)]=List.map c3 (List.replicate (16:Nat) (0:Int))) (by(with_reducible refine As5 ?_;kernel_rfl)) (oV 0 { row:=[.i .i64 ((0:Int))],rows:=some (List.map c3 (List.replicate (16:Nat) (0:Int))),n:=(16:Nat) } z0)))))))) ?_
 refine sn<|sq<|rG cx [0,2,3,4,5] [2,3,11] z0<|sn<|sq<|sq<|rG cx [0,2,3,4,5,12] [2,3,11] z0<|sn<|bL 0<|Al9 3 141 3 1 5301 (σ':=⟨[(0,.eptr (Q3 c206 16 t)),(2,.ptr (2) (0) (0) (0)),(3,.ptr (3) (0) (0) (0)),(4,.own 11 0),(5,.i .i64 ((0:Int))),(12,.i .i64 ((0:Int)))],[(2,⟨0,26,.var [.nl,.nl]⟩),(3,⟨0,26,.var [.nl,.own 5301 0]⟩),(11,⟨0,3,.row 1 (List.map c3 (List.replicate (16:Nat) (0:Int)))⟩),(5301,⟨0,141,.row 3 (List.map A9 [])⟩)]⟩) (by kernel_rfl)<|sL (X:=Int×Int×List Int×List Span) (fun x=>⟨[(0,.eptr (Q3 c206 16 t)),(2,.ptr (2) (0) (0) (0)),(3,.ptr (3) (0) (0) (0)),(4,.own 11 0),(5,.i .i64 (x.1)),(12,.i .i64 (x.2.1))],[(2,⟨0,26,.var [.nl,.nl]⟩),(3,⟨0,26,.var [.nl,.own 5301 0]⟩),(11,⟨0,3,.row 1 (List.map c3 x.2.2.1)⟩),(5301,⟨0,141,.row 3 (List.map A9 x.2.2.2)⟩)]⟩) (fun x ↦ dec81a x.1 x.2.1 x.2.2.1 x.2.2.2) (fun x ↦ Ag2 t x.1 x.2.1 x.2.2.1 x.2.2.2) [0,2,3,4,5,12] [2,3,11,5301] (((0:Int),(0:Int),List.replicate (16:Nat) (0:Int),[])) (show Ag2 t (0:Int) (0:Int) (List.replicate (16:Nat) (0:Int)) []from ?g0) ?_;rotate_left
 rintro⟨s0,r1,v2,cc3⟩ h_4
 obtain⟨hh5,hh6,hh7,hh8,hh9,h10,h11,h12⟩:0≤r1∧r1≤16∧0≤s0∧s0≤r1∧v2.length=(16:Nat)∧B6a t r1 s0∧A86 t r1 v2∧V9 t r1 cc3:=h_4
 refine rE cx [0,2,3,4,5,12,13] [2,3,11,5301] (zB 0 (r1 <(16:Int))) (fun h13=>?_) fun h13=>?_
 refine sK<|sn<|sq<|bL 1<|sq<|rG cx [0,2,3,4,5,12,6] [2,3,11,5301] z0<|sn<|sq ?_
 have hl_14:=(V7 (t r1.toNat))
 refine rG cx [0,2,3,4,5,12,6,7,8] [2,3,11,5301] (fA (0≤r1) (fO (r1 <(↑(16:Nat):Int)) (fP ((List.drop (r1.toNat*(1:Nat)) (Q3 c206 16 t))[(0:Nat)]?=some (AV.sl (List.map c206 (t r1.toNat)))) (by(exact A68 (by omega))) (fT (con163 (t r1.toNat) ?g1) (oR 4 [.sl (List.map c206 (t r1.toNat))] (oA 5 (.tup [.i .i64 ((B7 (nrm (t r1.toNat))).1),.sl (List.map c206 (B7 (nrm (t r1.toNat))).2)]) z0)))))) ?_;rotate_left
 refine sn<|sq<|rG cx [0,2,3,4,5,12,6,7,8] [2,3,11,5301] (fA (0≤r1) (fP (r1.toNat <(List.map c3 v2).length) (by(first | omega | (simp only [List.length_map];omega))) (fR 1 (fG c3 v2 r1.toNat (fR 1 (fP (0+(1:Nat)≤1) (by(first | omega | (simp only [List.length_map];omega))) (fP ((List.map c3 v2).set r1.toNat (List.take (0) (c3 v2[r1.toNat]!)++D9 (AV.i .i64 (B7 (nrm (t r1.toNat))).1)++List.drop (0+(1:Nat)) (c3 v2[r1.toNat]!))=List.map c3 (v2.set r1.toNat (B7 (nrm (t r1.toNat))).1)) (by(with_reducible refine A65 ?_;kernel_rfl)) (oV 4 { row:=(c3 v2[r1.toNat]!),rows:=some (List.map c3 (v2.set r1.toNat (B7 (nrm (t r1.toNat))).1)) } z0)))))))) ?_
 refine sn<|sq<|rD cx [0,2,3,4,5,12,6,8,29] [2,3,11,5301] (zB 1 ((0:Int) <(B7 (nrm (t r1.toNat))).1)) (fun h_15=>?_) fun h_15=>?_
 refine rG cx [0,2,3,4,5,12,6,8] [2,3,11,5301] (tW 1 (r1+1) z0)<|sn<|sq<|rG cx [0,2,3,4,5,12,6,32,33,34] [2,3,11,5301] (tL 1 c206 ((B7 (nrm (t r1.toNat))).2) z0)<|sn<|bL 2<|sL (X:=Int×List Int×List Span) (fun x=>⟨[(0,.eptr (Q3 c206 16 t)),(2,.ptr (2) (0) (0) (0)),(3,.ptr (3) (0) (0) (0)),(4,.own 11 0),(5,.i .i64 (r1+1)),(12,.i .i64 (r1)),(6,.i .i64 (r1)),(32,.sl (List.map c206 (B7 (nrm (t r1.toNat))).2)),(33,.i .i64 ((↑(B7 (nrm (t r1.toNat))).2.length:Int))),(34,.i .i64 (x.1))],[(2,⟨0,26,.var [.nl,.nl]⟩),(3,⟨0,26,.var [.nl,.own 5301 0]⟩),(11,⟨0,3,.row 1 (List.map c3 x.2.1)⟩),(5301,⟨0,141,.row 3 (List.map A9 x.2.2)⟩)]⟩) (fun x ↦ B4i t r1 x.1 x.2.1 x.2.2) (fun x ↦ A58 t r1 (v2.set r1.toNat (B7 (nrm (t r1.toNat))).1) x.1 x.2.1 x.2.2) [0,2,3,4,5,12,6,32,33,34] [2,3,11,5301] (((0:Int),v2.set r1.toNat (B7 (nrm (t r1.toNat))).1,cc3)) (show A58 t r1 (v2.set r1.toNat (B7 (nrm (t r1.toNat))).1) (0:Int) (v2.set r1.toNat (B7 (nrm (t r1.toNat))).1) cc3 from ?g2) ?_;rotate_left
 rintro⟨j_16,v_17,c_18⟩ h_19
 obtain⟨h_20,h_21,h_22,h_23⟩:v_17=v2.set r1.toNat (B7 (nrm (t r1.toNat))).1∧0≤j_16∧j_16≤(↑(B7 (nrm (t r1.toNat))).2.length:Int)∧I4 t r1 j_16 c_18:=h_19
 refine rE cx [0,2,3,4,5,12,6,32,33,34,35] [2,3,11,5301] (zB 0 (j_16 <(↑(B7 (nrm (t r1.toNat))).2.length:Int))) (fun h_24=>?_) fun h_24=>?_
 refine sK<|sn<|sq<|bL 3<|sq<|rG cx [0,2,3,4,5,12,6,32,33,34,10] [2,3,11,5301,10] (fA (0≤j_16) (fG c206 ((B7 (nrm (t r1.toNat))).2) j_16.toNat (fR 2 (fN 2 2 (oR 0 (c206 (B7 (nrm (t r1.toNat))).2[j_16.toNat]!) z0)))))<|sn<|rG cx [0,2,3,4,5,12,6,32,33,34] [2,3,11,5301] (fR 141 (fR 3 (fR 3 (fX A9 [{ rep:=r1,lo:=(B7 (nrm (t r1.toNat))).2[j_16.toNat]!.lo,hi:=(B7 (nrm (t r1.toNat))).2[j_16.toNat]!.hi:Span }] 3 (fP ((List.map A9 c_18).length+(List.map A9 [{ rep:=r1,lo:=(B7 (nrm (t r1.toNat))).2[j_16.toNat]!.lo,hi:=(B7 (nrm (t r1.toNat))).2[j_16.toNat]!.hi:Span }]).length≤maxLen) ?g3 (fP (((List.map A9 c_18).length+(List.map A9 [{ rep:=r1,lo:=(B7 (nrm (t r1.toNat))).2[j_16.toNat]!.lo,hi:=(B7 (nrm (t r1.toNat))).2[j_16.toNat]!.hi:Span }]).length)*(24:Nat)≤(140737488355328:Nat)) ?g4 (fM A9 c_18 [{ rep:=r1,lo:=(B7 (nrm (t r1.toNat))).2[j_16.toNat]!.lo,hi:=(B7 (nrm (t r1.toNat))).2[j_16.toNat]!.hi:Span }] (oV 9 { rows:=some (List.map A9 (c_18++[{ rep:=r1,lo:=(B7 (nrm (t r1.toNat))).2[j_16.toNat]!.lo,hi:=(B7 (nrm (t r1.toNat))).2[j_16.toNat]!.hi:Span }])) } z0)))))))) ?_;rotate_left 2
 refine bN<|sn<|rG cx [0,2,3,4,5,12,6,32,33,34] [2,3,11,5301] (tT 0 (C1 (by omega) ?g5:AV.i .i64 (IntKind.i64.wrap (j_16+1))=AV.i .i64 (j_16+1)) z0) ?_;rotate_left
 refine sn<|nX ((j_16+1,v_17,c_18++[{ rep:=r1,lo:=(B7 (nrm (t r1.toNat))).2[j_16.toNat]!.lo,hi:=(B7 (nrm (t r1.toNat))).2[j_16.toNat]!.hi:Span }])) (show((↑(B7 (nrm (t r1.toNat))).2.length:Int)-(j_16+1)).toNat <((↑(B7 (nrm (t r1.toNat))).2.length:Int)-j_16).toNat from(by omega)) (show A58 t r1 (v2.set r1.toNat (B7 (nrm (t r1.toNat))).1) (j_16+1) v_17 (c_18++[{ rep:=r1,lo:=(B7 (nrm (t r1.toNat))).2[j_16.toNat]!.lo,hi:=(B7 (nrm (t r1.toNat))).2[j_16.toNat]!.hi:Span }])from ?g6);rotate_left
 refine eX 2<|nE<|nE<|bH<|bN<|sn<|rG cx [0,2,3,4,5,12] [2,3,11,5301] (tW 0 (r1+1) z0)<|sn<|nX ((r1+1,r1+1,v_17,c_18)) (show(16-(r1+1)).toNat <(16-r1).toNat from(by omega)) (show Ag2 t (r1+1) (r1+1) v_17 c_18 from ?g7);rotate_left
 refine sK<|sn<|sq<|rG cx [0,2,3,4,5,12,6,32,33,34] [2,3,11,5301] (tL 1 c206 ((B7 (nrm (t r1.toNat))).2) z0)<|sn<|bL 2<|sL (X:=Int×List Int×List Span) (fun x=>⟨[(0,.eptr (Q3 c206 16 t)),(2,.ptr (2) (0) (0) (0)),(3,.ptr (3) (0) (0) (0)),(4,.own 11 0),(5,.i .i64 (s0)),(12,.i .i64 (r1)),(6,.i .i64 (r1)),(32,.sl (List.map c206 (B7 (nrm (t r1.toNat))).2)),(33,.i .i64 ((↑(B7 (nrm (t r1.toNat))).2.length:Int))),(34,.i .i64 (x.1))],[(2,⟨0,26,.var [.nl,.nl]⟩),(3,⟨0,26,.var [.nl,.own 5301 0]⟩),(11,⟨0,3,.row 1 (List.map c3 x.2.1)⟩),(5301,⟨0,141,.row 3 (List.map A9 x.2.2)⟩)]⟩) (fun x ↦ B4i t r1 x.1 x.2.1 x.2.2) (fun x ↦ A58 t r1 (v2.set r1.toNat (B7 (nrm (t r1.toNat))).1) x.1 x.2.1 x.2.2) [0,2,3,4,5,12,6,32,33,34] [2,3,11,5301] (((0:Int),v2.set r1.toNat (B7 (nrm (t r1.toNat))).1,cc3)) (show A58 t r1 (v2.set r1.toNat (B7 (nrm (t r1.toNat))).1) (0:Int) (v2.set r1.toNat (B7 (nrm (t r1.toNat))).1) cc3 from ?g8) ?_;rotate_left
 rintro⟨j_25,v_26,c_27⟩ h_28
 obtain⟨h_29,h_30,h_31,h_32⟩:v_26=v2.set r1.toNat (B7 (nrm (t r1.toNat))).1∧0≤j_25∧j_25≤(↑(B7 (nrm (t r1.toNat))).2.length:Int)∧I4 t r1 j_25 c_27:=h_28
 refine rE cx [0,2,3,4,5,12,6,32,33,34,35] [2,3,11,5301] (zB 0 (j_25 <(↑(B7 (nrm (t r1.toNat))).2.length:Int))) (fun h_33=>?_) fun h_33=>?_
 refine sK<|sn<|sq<|bL 3<|sq<|rG cx [0,2,3,4,5,12,6,32,33,34,10] [2,3,11,5301,10] (fA (0≤j_25) (fG c206 ((B7 (nrm (t r1.toNat))).2) j_25.toNat (fR 2 (fN 2 2 (oR 0 (c206 (B7 (nrm (t r1.toNat))).2[j_25.toNat]!) z0)))))<|sn<|rG cx [0,2,3,4,5,12,6,32,33,34] [2,3,11,5301] (fR 141 (fR 3 (fR 3 (fX A9 [{ rep:=r1,lo:=(B7 (nrm (t r1.toNat))).2[j_25.toNat]!.lo,hi:=(B7 (nrm (t r1.toNat))).2[j_25.toNat]!.hi:Span }] 3 (fP ((List.map A9 c_27).length+(List.map A9 [{ rep:=r1,lo:=(B7 (nrm (t r1.toNat))).2[j_25.toNat]!.lo,hi:=(B7 (nrm (t r1.toNat))).2[j_25.toNat]!.hi:Span }]).length≤maxLen) ?g9 (fP (((List.map A9 c_27).length+(List.map A9 [{ rep:=r1,lo:=(B7 (nrm (t r1.toNat))).2[j_25.toNat]!.lo,hi:=(B7 (nrm (t r1.toNat))).2[j_25.toNat]!.hi:Span }]).length)*(24:Nat)≤(140737488355328:Nat)) ?g10 (fM A9 c_27 [{ rep:=r1,lo:=(B7 (nrm (t r1.toNat))).2[j_25.toNat]!.lo,hi:=(B7 (nrm (t r1.toNat))).2[j_25.toNat]!.hi:Span }] (oV 9 { rows:=some (List.map A9 (c_27++[{ rep:=r1,lo:=(B7 (nrm (t r1.toNat))).2[j_25.toNat]!.lo,hi:=(B7 (nrm (t r1.toNat))).2[j_25.toNat]!.hi:Span }])) } z0)))))))) ?_;rotate_left 2
 refine bN<|sn<|rG cx [0,2,3,4,5,12,6,32,33,34] [2,3,11,5301] (tT 0 (C1 (by omega) ?g11:AV.i .i64 (IntKind.i64.wrap (j_25+1))=AV.i .i64 (j_25+1)) z0) ?_;rotate_left
 refine sn<|nX ((j_25+1,v_26,c_27++[{ rep:=r1,lo:=(B7 (nrm (t r1.toNat))).2[j_25.toNat]!.lo,hi:=(B7 (nrm (t r1.toNat))).2[j_25.toNat]!.hi:Span }])) (show((↑(B7 (nrm (t r1.toNat))).2.length:Int)-(j_25+1)).toNat <((↑(B7 (nrm (t r1.toNat))).2.length:Int)-j_25).toNat from(by omega)) (show A58 t r1 (v2.set r1.toNat (B7 (nrm (t r1.toNat))).1) (j_25+1) v_26 (c_27++[{ rep:=r1,lo:=(B7 (nrm (t r1.toNat))).2[j_25.toNat]!.lo,hi:=(B7 (nrm (t r1.toNat))).2[j_25.toNat]!.hi:Span }])from ?g12);rotate_left
 refine eX 2<|nE<|nE<|bH<|bN<|sn<|rG cx [0,2,3,4,5,12] [2,3,11,5301] (tW 0 (r1+1) z0)<|sn<|nX ((s0,r1+1,v_26,c_27)) (show(16-(r1+1)).toNat <(16-r1).toNat from(by omega)) (show Ag2 t s0 (r1+1) v_26 c_27 from ?g13);rotate_left
 refine eX 0<|nE<|nE<|bH<|sn<|sq<|rD cx [2,3,4,5,52] [2,3,11,5301] (zB 1 ((0:Int) < s0)) (fun h34=>?_) fun h34=>?_
 refine rG cx [2,3] [2,3,5301,56] (fO ((0:Int)≤(0:Int)) (fA (0≤s0) (fP (s0≤(↑(List.map c3 v2).length:Int)) (by(first | omega | (simp only [List.length_map];omega))) (fP ((0:Int) <(↑(List.map c3 v2).length:Int)) (by(first | omega | (simp only [List.length_map];omega))) (fR (some (1)) (fP (A4h Tryz.prog (164:Nat) [AV.sl (List.take (s0-0).toNat (List.drop (0) (List.map c3 v2)))] (3:Nat) (BK.row (1:Nat) (List.map c3 (List.take (s0-0).toNat (List.drop (0) v2))))) (A4h.le (con164 (List.take (s0-0).toNat (List.drop (0) v2)) ?g14) (ZLe.cons (A3.eq (by simp only [List.map_take,List.map_drop])) ZLe.nil)) (oV 3 { val:=some (.own (3:Nat) (1:Nat)),rows:=some (List.map c3 (List.take (s0-0).toNat (List.drop (0) v2))) } z0))))))) ?_;rotate_left
 refine sn<|sq<|W9 [56,5301] [2,3] [2,3] (σ':=⟨[(2,.ptr (2) (0) (0) (0)),(3,.ptr (3) (0) (0) (0))],[(2,⟨0,26,.var [.nl,.nl]⟩),(3,⟨0,26,.var [.sl (((E.look [(3,{ val:=some (AV.own (3:Nat) (1:Nat)),rows:=some (List.map c3 (List.take (s0-0).toNat (List.drop (0) v2))):Ov })] (3)).getD {:Ov }).rows.getD []),.sl (List.map A9 cc3)]⟩)]⟩) (by kernel_rfl)<|rG cx [2] [2,3] z0<|sn<|rT<|qR (.agg [.sl (((E.look [(3,{ val:=some (AV.own (3:Nat) (1:Nat)),rows:=some (List.map c3 (List.take (s0-0).toNat (List.drop (0) v2))):Ov })] (3)).getD {:Ov }).rows.getD []),.sl (List.map A9 cc3)]) (.eq ?g15);rotate_left
 refine sK<|sn<|sq<|W9 [5301] [2,3,4,5,52] [2,3,11] (σ':=⟨[(2,.ptr (2) (0) (0) (0)),(3,.ptr (3) (0) (0) (0)),(4,.own 11 0),(5,.i .i64 (s0)),(52,.b (decide ((0:Int) < s0)))],[(2,⟨0,26,.var [.nl,.nl]⟩),(3,⟨0,26,.var [.nl,.sl (List.map A9 cc3)]⟩),(11,⟨0,3,.row 1 (List.map c3 v2)⟩)]⟩) (by kernel_rfl)<|rG cx [2] [2] z0<|sn<|rT<|qR (.agg [.nl,.sl (List.map A9 cc3)]) (A3.agg (ZLe.cons (A3.nl' (show List.map c3 (I9 t).vec=[]from ?g17)) (ZLe.cons (A3.eq (show AV.sl (List.map A9 cc3)=AV.sl (List.map A9 (I9 t).cloud)from ?g16)) ZLe.nil)));rotate_left 2
 rotate_left
 clear hl_14;revert s0 r1 v2 cc3 hh5 hh6 hh7 hh8 hh9 h10 h11 h12 h13;rotate_left
 clear hl_14;revert s0 r1 v2 cc3 hh5 hh6 hh7 hh8 hh9 h10 h11 h12 h13 h_15;rotate_left
 clear hl_14;revert s0 r1 v2 cc3 hh5 hh6 hh7 hh8 hh9 h10 h11 h12 h13 h_15 j_16 v_17 c_18 h_20 h_21 h_22 h_23 h_24;rotate_left
 clear hl_14;revert s0 r1 v2 cc3 hh5 hh6 hh7 hh8 hh9 h10 h11 h12 h13 h_15 j_16 v_17 c_18 h_20 h_21 h_22 h_23 h_24;rotate_left
 clear hl_14;revert s0 r1 v2 cc3 hh5 hh6 hh7 hh8 hh9 h10 h11 h12 h13 h_15 j_16 v_17 c_18 h_20 h_21 h_22 h_23 h_24;rotate_left
 clear hl_14;revert s0 r1 v2 cc3 hh5 hh6 hh7 hh8 hh9 h10 h11 h12 h13 h_15 j_16 v_17 c_18 h_20 h_21 h_22 h_23 h_24;rotate_left
 clear hl_14;revert s0 r1 v2 cc3 hh5 hh6 hh7 hh8 hh9 h10 h11 h12 h13 h_15 j_16 v_17 c_18 h_20 h_21 h_22 h_23 h_24;rotate_left
 clear hl_14;revert s0 r1 v2 cc3 hh5 hh6 hh7 hh8 hh9 h10 h11 h12 h13 h_15;rotate_left
 clear hl_14;revert s0 r1 v2 cc3 hh5 hh6 hh7 hh8 hh9 h10 h11 h12 h13 h_15 j_25 v_26 c_27 h_29 h_30 h_31 h_32 h_33;rotate_left
 clear hl_14;revert s0 r1 v2 cc3 hh5 hh6 hh7 hh8 hh9 h10 h11 h12 h13 h_15 j_25 v_26 c_27 h_29 h_30 h_31 h_32 h_33;rotate_left
 clear hl_14;revert s0 r1 v2 cc3 hh5 hh6 hh7 hh8 hh9 h10 h11 h12 h13 h_15 j_25 v_26 c_27 h_29 h_30 h_31 h_32 h_33;rotate_left
 clear hl_14;revert s0 r1 v2 cc3 hh5 hh6 hh7 hh8 hh9 h10 h11 h12 h13 h_15 j_25 v_26 c_27 h_29 h_30 h_31 h_32 h_33;rotate_left
 clear hl_14;revert s0 r1 v2 cc3 hh5 hh6 hh7 hh8 hh9 h10 h11 h12 h13 h_15 j_25 v_26 c_27 h_29 h_30 h_31 h_32 h_33;rotate_left
 revert s0 r1 v2 cc3 hh5 hh6 hh7 hh8 hh9 h10 h11 h12 h13 h34;rotate_left
 revert s0 r1 v2 cc3 hh5 hh6 hh7 hh8 hh9 h10 h11 h12 h13 h34;rotate_left
 revert s0 r1 v2 cc3 hh5 hh6 hh7 hh8 hh9 h10 h11 h12 h13 h34;rotate_left
 revert s0 r1 v2 cc3 hh5 hh6 hh7 hh8 hh9 h10 h11 h12 h13 h34;rotate_left
 case g0=>exact⟨by omega,by omega,by omega,by omega,by simp,rfl,by simp [A86,A75],rfl⟩
 case g1=>intro s r v c h0 h1 h2 h3 h4 h5 h6 h7 h8;exact hb _ (by omega)
 case g2=>intro s r v c h0 h1 h2 h3 h4 h5 h6 h7 h8 h9;exact⟨rfl,by omega,by omega,A22 h7⟩
 case g8=>intro s r v c h0 h1 h2 h3 h4 h5 h6 h7 h8 h9;exact⟨rfl,by omega,by omega,A22 h7⟩
 case g3=>intro s r v c h0 h1 h2 h3 h4 h5 h6 h7 h8 h9 j w d k0 k1 k2 k3 k4;have:=X5 h0 h8 k3;simp only [List.length_map,List.length_cons,List.length_nil,Go.maxLen];omega
 case g9=>intro s r v c h0 h1 h2 h3 h4 h5 h6 h7 h8 h9 j w d k0 k1 k2 k3 k4;have:=X5 h0 h8 k3;simp only [List.length_map,List.length_cons,List.length_nil,Go.maxLen];omega
 case g4=>intro s r v c h0 h1 h2 h3 h4 h5 h6 h7 h8 h9 j w d k0 k1 k2 k3 k4;have:=X5 h0 h8 k3;simp only [List.length_map,List.length_cons,List.length_nil];omega
 case g10=>intro s r v c h0 h1 h2 h3 h4 h5 h6 h7 h8 h9 j w d k0 k1 k2 k3 k4;have:=X5 h0 h8 k3;simp only [List.length_map,List.length_cons,List.length_nil];omega
 case g5=>intro s r v c h0 h1 h2 h3 h4 h5 h6 h7 h8 h9 j w d k0 k1 k2 k3 k4;have:=A2g t r.toNat;omega
 case g11=>intro s r v c h0 h1 h2 h3 h4 h5 h6 h7 h8 h9 j w d k0 k1 k2 k3 k4;have:=A2g t r.toNat;omega
 case g6=>intro s r v c h0 h1 h2 h3 h4 h5 h6 h7 h8 h9 j w d k0 k1 k2 k3 k4;exact⟨k0,by omega,by omega,A3c h0 k1 k4 k3⟩
 case g12=>intro s r v c h0 h1 h2 h3 h4 h5 h6 h7 h8 h9 j w d k0 k1 k2 k3 k4;exact⟨k0,by omega,by omega,A3c h0 k1 k4 k3⟩
 case g7 =>
  intro s r v c h0 h1 h2 h3 h4 h5 h6 h7 h8 h9 j w d k0 k1 k2 k3 k4
  have hs:=Au8 h0 h5
  rw[if_pos h9]at hs
  subst k0
  exact⟨by omega,by omega,by omega,by omega,by simpa using h4,hs,Ag3 h0 h8 h6,A59 h0 k4 k3⟩
 case g13 =>
  intro s r v c h0 h1 h2 h3 h4 h5 h6 h7 h8 h9 j w d k0 k1 k2 k3 k4
  have hs:=Au8 h0 h5
  rw[if_neg h9]at hs
  subst k0
  exact⟨by omega,by omega,by omega,by omega,by simpa using h4,hs,Ag3 h0 h8 h6,A59 h0 k4 k3⟩
 case g14=>intro s r v c h0 h1 h2 h3 h4 h5 h6 h7 h8 h9;rw[List.drop_zero,List.length_take];omega
 case g15 =>
  intro s r v c h0 h1 h2 h3 h4 h5 h6 h7 h8 h9
  rw[Aa3 h1 h8 h5 h6 h7]
  show AV.agg [AV.sl (List.map c3 (List.take (s-0).toNat (List.drop 0 v))),AV.sl (List.map A9 c)]=_
  rw[List.drop_zero,Int.sub_zero]
  rfl
 case g16=>intro s r v c h0 h1 h2 h3 h4 h5 h6 h7 h8 h9;rw[Aa3 h1 h8 h5 h6 h7]
 case g17=>intro s r v c h0 h1 h2 h3 h4 h5 h6 h7 h8 h9;rw[Aa3 h1 h8 h5 h6 h7,show s.toNat=0 by omega];rfl
end Go.Proofs.YtphcaholhacnpaaGreat
namespace Go.Proofs.YtphcaholhacnpaaGreat
open Go.E
set_option maxRecDepth 100000
set_option maxHeartbeats 4000000
def U6(d:Dot):Bool:=decide (0≤d.rep∧d.rep < 16∧1≤d.num∧d.num≤1000000000)
def ofT(dots:List Dot)(r:Nat):List Run:=(dots.filter fun d=>U6 d && decide (d.rep=r)).map fun d=>⟨d.num,d.num⟩
def Aa4(dots:List Dot)(i:Int)(T:Nat→List Run):Prop:=∀ r:Nat,r < 16→T r=ofT (dots.take i.toNat) r
def B2f(dots:List Dot)(i:Int)(T:Nat→List Run):Prop:=0≤i∧i≤dots.length∧Aa4 dots i T
def dec62(dots:List Dot)(i:Int)(T:Nat→List Run):Nat:=(dots.length-i).toNat
theorem X6{T U:Nat→List Run}(h:∀ r:Nat,r < 16→T r=U r):I9 T=I9 U:=by
 have hl:∀ n:Nat,n≤16→szT T n=szT U n∧H3 T n=H3 U n:=by
  intro n
  induction n with
  | zero=>intro _;exact⟨rfl,rfl⟩
  | succ n ih =>
   intro hn
   obtain⟨h1,h2⟩:=ih (by omega)
   have e:=h n (by omega)
   exact⟨by rw[szT,szT,h1,Z9,Z9,e],by rw[H3,H3,h2,U3,U3,e]⟩
 have hv:A75 T 16=A75 U 16:=by
  unfold A75
  congr 1
  refine List.map_congr_left fun r hr=>?_
  have hr:r < 16:=by simpa using hr
  rw[Z9,Z9,h r hr]
 unfold I9
 rw[(hl 16 (Nat.le_refl _)).1,(hl 16 (Nat.le_refl _)).2,hv]
theorem B6b(dots:List Dot)(r:Nat):(ofT dots r).length≤dots.length:=by
 unfold ofT
 rw[List.length_map]
 exact List.length_filter_le _ _
theorem Au9(a:List Dot)(d:Dot)(r:Nat):ofT (a++[d]) r=ofT a r++if U6 d=true∧d.rep=(r:Int)then[⟨d.num,d.num⟩]else[]:=by
 unfold ofT
 rw[List.filter_append,List.map_append]
 congr 1
 by_cases h:U6 d=true∧d.rep=(r:Int)
 ·rw[if_pos h];simp [List.filter_cons,h.1,h.2]
 ·rw[if_neg h]
  have:(U6 d && decide (d.rep=(r:Int)))=false:=by
   rw[Bool.and_eq_false_iff]
   by_cases h1:U6 d=true
   ·exact .inr (by simpa using fun h2=>h ⟨h1,h2⟩)
   ·exact .inl (by simpa using h1)
  simp [List.filter_cons,this]
theorem F9{d:Dot}(h:U6 d=true):0≤d.rep∧d.rep < 16∧1≤d.num∧d.num≤1000000000:=by
 unfold U6 at h
 simpa using h
theorem Aa5{dots:List Dot}{i:Int}{T:Nat→List Run}(h1:i≤dots.length)(ht:Aa4 dots i T){r:Nat}(hr:r < 16):((T r).length:Int)≤i∨(T r).length=0:=by
 rw[ht r hr]
 have:=B6b (dots.take i.toNat) r
 rw[List.length_take]at this
 omega
theorem tab_in{dots:List Dot}{i:Int}{T:Nat→List Run}(h0:0≤i)(h1:i < dots.length)(ht:Aa4 dots i T)(hd:U6 dots[i.toNat]! = true) :
  Aa4 dots (i+1) (A1z T dots[i.toNat]!.rep.toNat (T dots[i.toNat]!.rep.toNat++[⟨dots[i.toNat]!.num,dots[i.toNat]!.num⟩])):=by
 intro r hr
 have hb:=F9 hd
 rw[← D1 h0 h1,Au9]
 unfold A1z
 by_cases e:r=dots[i.toNat]!.rep.toNat
 ·rw[if_pos e,if_pos ⟨hd,by omega⟩,← e,ht r hr]
 ·rw[if_neg e,if_neg (fun k=>e (by omega)),List.append_nil,ht r hr]
theorem B6c{dots:List Dot}{i:Int}{T:Nat→List Run}(h0:0≤i)(h1:i < dots.length)(ht:Aa4 dots i T)(hd:U6 dots[i.toNat]! = false):Aa4 dots (i+1) T:=by
 intro r hr
 rw[← D1 h0 h1,Au9,if_neg (fun k=>by rw[hd]at k;cases k.1),List.append_nil,ht r hr]
theorem B4j(d:Dot):Con Tryz.prog 172 [.agg (c44 d)] (.b (U6 d)) :=
 by
 refine sC A6 [.tmp 2] 21 Tryz.func172 ?_
 intro e0 cx
 refine sq<|rG cx [1] [1] z0<|sn<|sq<|A7 (σ':=⟨[(2,.b (decide (0≤d.rep∧d.rep <(16:Int)∧1≤d.num∧d.num≤1000000000)))],[]⟩) ?_ ?_
 refine A2 (0≤d.rep) (fun h_1=>?_) (fun h_1=>?_)
 refine A2 (d.rep <(16:Int)) (fun h_2=>?_) (fun h_2=>?_)
 refine A2 (1≤d.num) (fun h_3=>?_) (fun h_3=>?_)
 refine rG cx [2] [] (tT 2 (A1 h_1) (tT 6 (A1 h_2) (tT 11 (A1 h_3) (tB 16 (d.num≤1000000000) (tD 18 (decide (d.num≤1000000000)) (0≤d.rep∧d.rep <(16:Int)∧1≤d.num∧d.num≤1000000000) (by simp only [eq_true h_1,eq_true h_2,eq_true h_3,tsl]) z0))))) ?_
 exact⟨rfl,by kernel_rfl⟩
 refine rG cx [2] [] (tT 2 (A1 h_1) (tT 6 (A1 h_2) (tT 11 (A0 h_3) (tD 18 false (0≤d.rep∧d.rep <(16:Int)∧1≤d.num∧d.num≤1000000000) (by simp only [eq_true h_1,eq_true h_2,eq_false h_3,tsl]) z0)))) ?_
 exact⟨rfl,by kernel_rfl⟩
 refine rG cx [2] [] (tT 2 (A1 h_1) (tT 6 (A0 h_2) (tD 18 false (0≤d.rep∧d.rep <(16:Int)∧1≤d.num∧d.num≤1000000000) (by simp only [eq_true h_1,eq_false h_2,tsl]) z0))) ?_
 exact⟨rfl,by kernel_rfl⟩
 refine rG cx [2] [] (tT 2 (A0 h_1) (tD 18 false (0≤d.rep∧d.rep <(16:Int)∧1≤d.num∧d.num≤1000000000) (by simp only [eq_false h_1,tsl]) z0)) ?_
 exact⟨rfl,by kernel_rfl⟩
 refine sn<|rT<|qR (.b (decide (0≤d.rep∧d.rep <(16:Int)∧1≤d.num∧d.num≤1000000000))) (.eq ?g0);rotate_left
 case g0=>exact rfl
theorem con108(dots:List Dot)(hb:dots.length*16≤140737488351232):Con Tryz.prog 108 [.sl (dots.map c44)] (.agg (c26 (I9 (ofT dots)))) :=
 by
 refine lN 0 c44 (dots) Tryz.func108 fun hl_0=>sC A6 [.cell 2 26] 37 Tryz.func108 ?_
 intro e0 cx
 refine sq<|rG cx [0,2] [2] z0<|sn<|sq<|rG cx [0,2,3] [2,7] z0<|sn<|sq<|sq<|rG cx [2,3,8,9,10] [2,7] (tL 1 c44 dots z0)<|sn<|bL 0<|A7z 7 206 2 100700 16 (σ':=⟨[(2,.ptr (2) (0) (0) (0)),(3,.ptr (7) (0) (0) (0)),(8,.sl (List.map c44 dots)),(9,.i .i64 ((↑dots.length:Int))),(10,.i .i64 ((0:Int)))],[(2,⟨0,26,.var [.nl,.nl]⟩),(7,⟨0,204,.var (A1j 100700 16)⟩)]++K5 100700 206 2 16 (c206) (fun x ↦ [])⟩) (by kernel_rfl)<|sL (X:=Int×(Nat→List Run)) (fun x=>⟨[(2,.ptr (2) (0) (0) (0)),(3,.ptr (7) (0) (0) (0)),(8,.sl (List.map c44 dots)),(9,.i .i64 ((↑dots.length:Int))),(10,.i .i64 (x.1))],[(2,⟨0,26,.var [.nl,.nl]⟩),(7,⟨0,204,.var (A1j 100700 16)⟩)]++K5 100700 206 2 16 (c206) (x.2)⟩) (fun x ↦ dec62 dots x.1 x.2) (fun x ↦ B2f dots x.1 x.2) [2,3,8,9,10] ([2,7]++List.range' 100700 16) (((0:Int),fun x ↦ [])) (show B2f dots (0:Int) fun x ↦ []from(by exact⟨by omega,by omega,fun r _=>by simp [ofT]⟩)) ?_
 rintro⟨i0,T1⟩ h_2
 obtain⟨hh3,hh4,h5⟩:0≤i0∧i0≤(↑dots.length:Int)∧Aa4 dots i0 T1:=h_2
 refine rE cx [2,3,8,9,10,11] ([2,7]++List.range' 100700 16) (zB 0 (i0 <(↑dots.length:Int))) (fun h6=>?_) fun h6=>?_
 refine sK<|sn<|sq<|bL 1<|sq<|rG cx [2,3,8,9,10,5] ([2,7]++List.range' 100700 16++[5]) (fA (0≤i0) (fG c44 dots i0.toNat (fR 2 (fN 2 2 (oR 0 (c44 dots[i0.toNat]!) z0)))))<|sn<|sq<|rG cx [2,3,8,9,10,5,15] ([2,7]++List.range' 100700 16++[5]) (fT (B4j (dots[i0.toNat]!)) (oA 1 (.b (U6 dots[i0.toNat]!)) z0))<|sn<|Z7 (U6 dots[i0.toNat]!) (by kernel_rfl) (by kernel_rfl) (fun h7=>?_) (fun h7=>?_)
 refine A69 (F:=fun kx=>⟨[(2,.ptr (2) (0) (0) (0)),(3,.ptr (7) (0) (0) (0)),(8,.sl (List.map c44 dots)),(9,.i .i64 ((↑dots.length:Int))),(10,.i .i64 (i0)),(5,.ptr (5) (0) (0) (0)),(15,.b (U6 dots[i0.toNat]!))],[(2,⟨0,26,.var [.nl,.nl]⟩),(7,⟨0,204,.var (A1j 100700 16)⟩)]++K5 100700 206 2 16 (c206) (T1)++[(5,⟨0,44,.var [.i .i64 (kx),.i .i64 (dots[i0.toNat]!.num)]⟩)]⟩) (G:=fun kx=>⟨[(2,.ptr (2) (0) (0) (0)),(3,.ptr (7) (0) (0) (0)),(8,.sl (List.map c44 dots)),(9,.i .i64 ((↑dots.length:Int))),(10,.i .i64 (i0))],[(2,⟨0,26,.var [.nl,.nl]⟩),(7,⟨0,204,.var (A1j 100700 16)⟩)]++K5 100700 206 2 16 (c206) (A1z T1 kx.toNat (T1 kx.toNat++[{ lo:=dots[i0.toNat]!.num,hi:=dots[i0.toNat]!.num:Run }]))⟩) (A:=fun kx=>(0≤kx)∧(kx <(↑(16:Nat):Int))∧(206=(206:Nat))∧((2:Nat)=2)∧([AV.i .i64 (0:Int),AV.i .i64 (0:Int)].length=(2:Nat))∧(∀(r:List AV),r∈List.map c206 [{ lo:=dots[i0.toNat]!.num,hi:=dots[i0.toNat]!.num:Run }]→r.length=2)∧((List.map c206 (T1 kx.toNat)).length+(List.map c206 [{ lo:=dots[i0.toNat]!.num,hi:=dots[i0.toNat]!.num:Run }]).length≤maxLen)∧(((List.map c206 (T1 kx.toNat)).length+(List.map c206 [{ lo:=dots[i0.toNat]!.num,hi:=dots[i0.toNat]!.num:Run }]).length)*(16:Nat)≤(140737488355328:Nat))∧(List.map c206 (T1 kx.toNat)++List.map c206 [{ lo:=dots[i0.toNat]!.num,hi:=dots[i0.toNat]!.num:Run }]=List.map c206 (T1 kx.toNat++[{ lo:=dots[i0.toNat]!.num,hi:=dots[i0.toNat]!.num:Run }]))∧(0≤kx)∧(kx <(↑(16:Nat):Int))) cx (fun kx=>[(15,{ rows:=some (List.map c206 (T1 kx.toNat++[{ lo:=dots[i0.toNat]!.num,hi:=dots[i0.toNat]!.num:Run }])) })]) [2,3,8,9,10] ([2,7]++List.range' 100700 16) (dots[i0.toNat]!.rep) (by exact(F9 h7).1) (by exact(F9 h7).2.1) (by kernel_rfl) (by kernel_rfl) ⟨(by show _=_;kernel_rfl),(by show _=_;kernel_rfl),(by show _=_;kernel_rfl),(by show _=_;kernel_rfl),(by show _=_;kernel_rfl),(by show _=_;kernel_rfl),(by show _=_;kernel_rfl),(by show _=_;kernel_rfl),(by show _=_;kernel_rfl),(by show _=_;kernel_rfl),(by show _=_;kernel_rfl),(by show _=_;kernel_rfl),(by show _=_;kernel_rfl),(by show _=_;kernel_rfl),(by show _=_;kernel_rfl),(by show _=_;kernel_rfl)⟩ ⟨(by exact(F9 h7).1),(by exact(F9 h7).2.1),(by kernel_rfl),(by kernel_rfl),(by kernel_rfl),(by(with_reducible refine A1i (fun _=>?_) _;kernel_rfl)),(by have hd:=F9 h7;have:=Aa5 hh4 h5 (r:=dots[i0.toNat]!.rep.toNat) (by omega);simp only [List.length_map,List.length_cons,List.length_nil,Go.maxLen];omega),(by have hd:=F9 h7;have:=Aa5 hh4 h5 (r:=dots[i0.toNat]!.rep.toNat) (by omega);simp only [List.length_map,List.length_cons,List.length_nil];omega),(by(with_reducible refine A66 ?_;kernel_rfl)),(by exact(F9 h7).1),(by exact(F9 h7).2.1)⟩ ?_
 refine bN<|sn<|rG cx [2,3,8,9,10] ([2,7]++List.range' 100700 16) (tW 0 (i0+1) z0)<|sn<|nX ((i0+1,A1z T1 dots[i0.toNat]!.rep.toNat (T1 dots[i0.toNat]!.rep.toNat++[{ lo:=dots[i0.toNat]!.num,hi:=dots[i0.toNat]!.num:Run }]))) (show((↑dots.length:Int)-(i0+1)).toNat <((↑dots.length:Int)-i0).toNat from(by omega)) (show B2f dots (i0+1) (A1z T1 dots[i0.toNat]!.rep.toNat (T1 dots[i0.toNat]!.rep.toNat++[{ lo:=dots[i0.toNat]!.num,hi:=dots[i0.toNat]!.num:Run }]))from(by exact⟨by omega,by omega,tab_in hh3 h6 h5 h7⟩))
 refine sK<|bN<|sn<|rG cx [2,3,8,9,10] ([2,7]++List.range' 100700 16) (tW 0 (i0+1) z0)<|sn<|nX ((i0+1,T1)) (show((↑dots.length:Int)-(i0+1)).toNat <((↑dots.length:Int)-i0).toNat from(by omega)) (show B2f dots (i0+1) T1 from(by exact⟨by omega,by omega,B6c hh3 h6 h5 h7⟩))
 refine eX 0<|nE<|nE<|bH<|sn<|sq<|W9 (List.range' 100700 16) [2,3,8,9,10,11] [2,7] (σ':=⟨[(2,.ptr (2) (0) (0) (0)),(3,.ptr (7) (0) (0) (0)),(8,.sl (List.map c44 dots)),(9,.i .i64 ((↑dots.length:Int))),(10,.i .i64 (i0)),(11,.b (decide (i0 <(↑dots.length:Int))))],[(2,⟨0,26,.var [.nl,.nl]⟩),(7,⟨0,204,.var [.sl (List.map c206 (T1 (0))),.sl (List.map c206 (T1 (1))),.sl (List.map c206 (T1 (2))),.sl (List.map c206 (T1 (3))),.sl (List.map c206 (T1 (4))),.sl (List.map c206 (T1 (5))),.sl (List.map c206 (T1 (6))),.sl (List.map c206 (T1 (7))),.sl (List.map c206 (T1 (8))),.sl (List.map c206 (T1 (9))),.sl (List.map c206 (T1 (10))),.sl (List.map c206 (T1 (11))),.sl (List.map c206 (T1 (12))),.sl (List.map c206 (T1 (13))),.sl (List.map c206 (T1 (14))),.sl (List.map c206 (T1 (15)))]⟩)]⟩) (by kernel_rfl)<|A4z 7 ⟨0,204,.var [.sl (List.map c206 (T1 (0))),.sl (List.map c206 (T1 (1))),.sl (List.map c206 (T1 (2))),.sl (List.map c206 (T1 (3))),.sl (List.map c206 (T1 (4))),.sl (List.map c206 (T1 (5))),.sl (List.map c206 (T1 (6))),.sl (List.map c206 (T1 (7))),.sl (List.map c206 (T1 (8))),.sl (List.map c206 (T1 (9))),.sl (List.map c206 (T1 (10))),.sl (List.map c206 (T1 (11))),.sl (List.map c206 (T1 (12))),.sl (List.map c206 (T1 (13))),.sl (List.map c206 (T1 (14))),.sl (List.map c206 (T1 (15)))]⟩ [.sl (List.map c206 (T1 (0))),.sl (List.map c206 (T1 (1))),.sl (List.map c206 (T1 (2))),.sl (List.map c206 (T1 (3))),.sl (List.map c206 (T1 (4))),.sl (List.map c206 (T1 (5))),.sl (List.map c206 (T1 (6))),.sl (List.map c206 (T1 (7))),.sl (List.map c206 (T1 (8))),.sl (List.map c206 (T1 (9))),.sl (List.map c206 (T1 (10))),.sl (List.map c206 (T1 (11))),.sl (List.map c206 (T1 (12))),.sl (List.map c206 (T1 (13))),.sl (List.map c206 (T1 (14))),.sl (List.map c206 (T1 (15)))] (Q3 c206 16 T1) (σ':=⟨[(2,.ptr (2) (0) (0) (0)),(3,.ptr (7) (0) (0) (0)),(8,.sl (List.map c44 dots)),(9,.i .i64 ((↑dots.length:Int))),(10,.i .i64 (i0)),(11,.b (decide (i0 <(↑dots.length:Int))))],[(2,⟨0,26,.var [.nl,.nl]⟩),(7,⟨0,204,.arr (Q3 c206 16 T1)⟩)]⟩) (by kernel_rfl) (by kernel_rfl) (by kernel_rfl) (by kernel_rfl) (ZLe.of_eq (by kernel_rfl)) (by kernel_rfl)<|rG cx [2] [2] (fT (B2e (T1) ?g11) (oA 1 (.agg [.sl (List.map c3 (I9 T1).vec),.sl (List.map A9 (I9 T1).cloud)]) z0)) ?_;rotate_left
 refine sn<|rT<|qR (.agg [.sl (List.map c3 (I9 T1).vec),.sl (List.map A9 (I9 T1).cloud)]) (.eq ?g12);rotate_left
 case g11=>revert i0 T1 hh3 hh4 h5 h6;intro i T h0 h1 h2 h3 r hr;have:=Aa5 h1 h2 hr;omega
 case g12 =>
  have e:I9 T1=I9 (ofT dots):=X6 fun r hr=>by rw[h5 r hr,List.take_of_length_le (by omega)]
  rw[e]
  rfl
end Go.Proofs.YtphcaholhacnpaaGreat
namespace Go.Proofs.YtphcaholhacnpaaGreat
open Go.E
set_option maxRecDepth 100000
set_option maxHeartbeats 4000000
def Am7(v:List Int)(r:Nat):List Run:=if r < v.length then[⟨1,v[r]!⟩]else[]
def O9(c:List Span)(r:Nat):List Run:=(c.filter fun(s:Span)=>decide (s.rep=(r:Int))).map fun s=>⟨s.lo,s.hi⟩
def C4(ps:List Past)(r:Nat):List Run:=(ps.map fun p=>Am7 p.vec r++O9 p.cloud r).flatten
def Ag4(ps:List Past)(i:Int)(T:Nat→List Run):Prop:=∀ r:Nat,r < 16→T r=C4 (ps.take i.toNat) r
def A00(ps:List Past)(i j:Int)(T:Nat→List Run):Prop:=∀ r:Nat,r < 16→T r=C4 (ps.take i.toNat) r++if(r:Int) < j then Am7 (ps[i.toNat]!).vec r else[]
def S6(ps:List Past)(i j:Int)(T:Nat→List Run):Prop:=∀ r:Nat,r < 16→T r=C4 (ps.take i.toNat) r++Am7 (ps[i.toNat]!).vec r++O9 ((ps[i.toNat]!).cloud.take j.toNat) r
def Aa6(ps:List Past)(i:Int)(T:Nat→List Run):Prop:=0≤i∧i≤ps.length∧Ag4 ps i T
def B6d(ps:List Past)(i:Int)(T:Nat→List Run):Nat:=(ps.length-i).toNat
def Aa7(ps:List Past)(i:Int)(n:Int)(j:Int)(T:Nat→List Run)(v:List Int)(c:List Span):Prop:=v=(ps[i.toNat]!).vec∧c=(ps[i.toNat]!).cloud∧0≤j∧j≤n∧A00 ps i j T
def B6e(n:Int)(j:Int)(T:Nat→List Run)(v:List Int)(c:List Span):Nat:=(n-j).toNat
def A6i(ps:List Past)(i:Int)(j:Int)(T:Nat→List Run):Prop:=0≤j∧j≤(ps[i.toNat]!).cloud.length∧S6 ps i j T
def B6f(ps:List Past)(i:Int)(j:Int)(T:Nat→List Run):Nat:=((ps[i.toNat]!).cloud.length-j).toNat
def A3d(ps:List Past):Nat:=(ps.map fun p=>p.cloud.length+1).sum
theorem Av0(a:List Past)(p:Past)(r:Nat):C4 (a++[p]) r=C4 a r++(Am7 p.vec r++O9 p.cloud r):=by simp [C4]
theorem Ag5(v:List Int)(r:Nat):(Am7 v r).length≤1:=by unfold Am7;split <;> simp
theorem A5a(c:List Span)(r:Nat):(O9 c r).length≤c.length:=by
 unfold O9
 rw[List.length_map]
 exact List.length_filter_le _ _
theorem Q7(r:Nat):∀ ps:List Past,(C4 ps r).length≤A3d ps
 | []=>by simp [C4]
 | p :: ps=>by
  have h1:=Q7 r ps
  have h2:=Ag5 p.vec r
  have h3:=A5a p.cloud r
  simp only [C4,A3d,List.map_cons,List.flatten_cons,List.length_append,List.sum_cons]at *
  omega
theorem B2g(a b:List Past):A3d (a++b)=A3d a+A3d b:=by simp [A3d]
theorem A87{ps:List Past}{i:Int}(h0:0≤i)(h:i < ps.length):A3d (ps.take i.toNat)+(ps[i.toNat]!).cloud.length+1≤A3d ps:=by
 have e:A3d ps=A3d (ps.take (i+1).toNat)+A3d (ps.drop (i+1).toNat):=by
  rw[← B2g,List.take_append_drop]
 rw[← D1 h0 h]at e
 simp only [A3d,List.map_append,List.sum_append,List.map_cons,List.map_nil,List.sum_cons,List.sum_nil]at *
 omega
theorem Aa8{ps:List Past}{i:Int}{T:Nat→List Run}(h:Ag4 ps i T):A00 ps i 0 T:=fun r hr=>by
 rw[h r hr,if_neg (by omega),List.append_nil]
theorem Am8{ps:List Past}{i j:Int}{T:Nat→List Run}(j0:0≤j)(jl:j <(ps[i.toNat]!).vec.length)(h:A00 ps i j T) :
  A00 ps i (j+1) (A1z T j.toNat (T j.toNat++[⟨1,(ps[i.toNat]!).vec[j.toNat]!⟩])):=by
 intro r hr
 unfold A1z
 by_cases e:r=j.toNat
 ·rw[if_pos e,← e,h r hr,if_neg (by omega),if_pos (by omega),List.append_nil,Am7,if_pos (by omega)]
 ·rw[if_neg e,h r hr]
  by_cases k:(r:Int) < j
  ·rw[if_pos k,if_pos (by omega)]
  ·rw[if_neg k,if_neg (by omega)]
theorem Aa9{ps:List Past}{i j:Int}{T:Nat→List Run}(j1:j≤min ((ps[i.toNat]!).vec.length:Int) 16)(jl:¬ j < min ((ps[i.toNat]!).vec.length:Int) 16)(h:A00 ps i j T):S6 ps i 0 T:=by
 intro r hr
 rw[h r hr,show(0:Int).toNat=0 from rfl,List.take_zero,show O9 [] r=[]from rfl,List.append_nil]
 by_cases k:(r:Int) < j
 ·rw[if_pos k]
 ·rw[if_neg k,Am7,if_neg (by omega)]
theorem A5b(c:List Span)(s:Span)(r:Nat):O9 (c++[s]) r=O9 c r++if s.rep=(r:Int)then[⟨s.lo,s.hi⟩]else[]:=by
 unfold O9
 rw[List.filter_append,List.map_append]
 congr 1
 by_cases h:s.rep=(r:Int)
 ·rw[if_pos h];simp [List.filter_cons,h]
 ·rw[if_neg h];simp [List.filter_cons,h]
theorem B2h{ps:List Past}{i j:Int}{T:Nat→List Run}(j0:0≤j)(jl:j <(ps[i.toNat]!).cloud.length)(hr:0≤((ps[i.toNat]!).cloud[j.toNat]!).rep∧((ps[i.toNat]!).cloud[j.toNat]!).rep < 16)(h:S6 ps i j T) :
  S6 ps i (j+1) (A1z T ((ps[i.toNat]!).cloud[j.toNat]!).rep.toNat (T ((ps[i.toNat]!).cloud[j.toNat]!).rep.toNat++[⟨((ps[i.toNat]!).cloud[j.toNat]!).lo,((ps[i.toNat]!).cloud[j.toNat]!).hi⟩])):=by
 intro r hr'
 rw[← D1 j0 jl,A5b]
 unfold A1z
 by_cases e:r=((ps[i.toNat]!).cloud[j.toNat]!).rep.toNat
 ·rw[if_pos e,if_pos (by omega),← e,h r hr',List.append_assoc,List.append_assoc]
 ·rw[if_neg e,if_neg (by omega),List.append_nil,h r hr']
theorem Av1{ps:List Past}{i j:Int}{T:Nat→List Run}(j0:0≤j)(jl:j <(ps[i.toNat]!).cloud.length)(hr:¬(0≤((ps[i.toNat]!).cloud[j.toNat]!).rep∧((ps[i.toNat]!).cloud[j.toNat]!).rep < 16))(h:S6 ps i j T):S6 ps i (j+1) T:=by
 intro r hr'
 rw[← D1 j0 jl,A5b,if_neg (by omega),List.append_nil,h r hr']
theorem Av2{ps:List Past}{i j:Int}{T:Nat→List Run}(h0:0≤i)(h1:i < ps.length)(jl:¬ j <(ps[i.toNat]!).cloud.length)(h:S6 ps i j T):Ag4 ps (i+1) T:=by
 intro r hr
 rw[← D1 h0 h1,Av0,h r hr,List.take_of_length_le (l:=(ps[i.toNat]!).cloud) (by omega),List.append_assoc]
theorem A88{ps:List Past}{i j:Int}{T:Nat→List Run}(h0:0≤i)(h1:i < ps.length)(h:A00 ps i j T){r:Nat}(hr:r < 16)(k:¬(r:Int) < j):(T r).length+1≤A3d ps:=by
 rw[h r hr,if_neg k,List.append_nil]
 have:=Q7 r (ps.take i.toNat)
 have:=A87 h0 h1
 omega
theorem A0l{ps:List Past}{i j:Int}{T:Nat→List Run}(h0:0≤i)(h1:i < ps.length)(j0:0≤j)(jl:j <(ps[i.toNat]!).cloud.length)(h:S6 ps i j T){r:Nat}(hr:r < 16):(T r).length+1≤A3d ps+1∧j+1≤A3d ps:=by
 rw[h r hr,List.length_append,List.length_append]
 have:=Q7 r (ps.take i.toNat)
 have:=A87 h0 h1
 have:=Ag5 (ps[i.toNat]!).vec r
 have:=A5a ((ps[i.toNat]!).cloud.take j.toNat) r
 rw[List.length_take]at this
 omega
theorem Am9(ps:List Past)(hb:A3d ps*16≤140737488351232):A4h Tryz.prog 92 [.sl (ps.map c26)] 204 (.arr (Q3 c206 16 (C4 ps))) :=
 by
 refine A33 0 (c26) (ps) (by kernel_rfl) Tryz.func92 (by kernel_rfl) fun hl_0=>A9w A6 (by kernel_rfl) (.tmp 2) 78 Tryz.func92 (by kernel_rfl) (by kernel_rfl) ?_
 intro e0 cx
 refine sq<|rG cx [0] [] z0<|sn<|sq<|rG cx [0,3] [10] z0<|sn<|sq<|sq<|rG cx [3,11,12,13] [10] (tL 1 c26 ps z0)<|sn<|bL 0<|A7z 10 206 2 101000 16 (σ':=⟨[(3,.ptr (10) (0) (0) (0)),(11,.sl (List.map c26 ps)),(12,.i .i64 ((↑ps.length:Int))),(13,.i .i64 ((0:Int)))],[(10,⟨0,204,.var (A1j 101000 16)⟩)]++K5 101000 206 2 16 (c206) (fun x ↦ [])⟩) (by kernel_rfl)<|sL (X:=Int×(Nat→List Run)) (fun x=>⟨[(3,.ptr (10) (0) (0) (0)),(11,.sl (List.map c26 ps)),(12,.i .i64 ((↑ps.length:Int))),(13,.i .i64 (x.1))],[(10,⟨0,204,.var (A1j 101000 16)⟩)]++K5 101000 206 2 16 (c206) (x.2)⟩) (fun x ↦ B6d ps x.1 x.2) (fun x ↦ Aa6 ps x.1 x.2) [3,11,12,13] ([10]++List.range' 101000 16) (((0:Int),fun x ↦ [])) (show Aa6 ps (0:Int) fun x ↦ []from(by exact⟨by omega,by omega,fun r _=>rfl⟩)) ?_
 rintro⟨i0,T1⟩ h_2
 obtain⟨hh3,h4,h5⟩:0≤i0∧i0≤(↑ps.length:Int)∧Ag4 ps i0 T1:=h_2
 refine rE cx [3,11,12,13,14] ([10]++List.range' 101000 16) (zB 0 (i0 <(↑ps.length:Int))) (fun h6=>?_) fun h6=>?_
 refine sK<|sn<|sq<|bL 1<|sq<|rG cx [3,11,12,13,5] ([10]++List.range' 101000 16++[5]) (fA (0≤i0) (fG c26 ps i0.toNat (fR 2 (fN 2 2 (oR 0 (c26 ps[i0.toNat]!) z0)))))<|sn<|sq<|sq<|rG cx [3,11,12,13,5,20,21] ([10]++List.range' 101000 16++[5]) (tL 2 c3 ps[i0.toNat]!.vec (tT 3 (A2f:AV.i .i64 (if(16:Int) <(↑ps[i0.toNat]!.vec.length:Int)then(16:Int)else(↑ps[i0.toNat]!.vec.length:Int))=AV.i .i64 (min (↑ps[i0.toNat]!.vec.length:Int) (16:Int))) z0))<|sn<|bL 2<|sL (X:=Int×(Nat→List Run)×List Int×List Span) (fun x=>⟨[(3,.ptr (10) (0) (0) (0)),(11,.sl (List.map c26 ps)),(12,.i .i64 ((↑ps.length:Int))),(13,.i .i64 (i0)),(5,.ptr (5) (0) (0) (0)),(20,.i .i64 (min (↑ps[i0.toNat]!.vec.length:Int) (16:Int))),(21,.i .i64 (x.1))],[(10,⟨0,204,.var (A1j 101000 16)⟩)]++K5 101000 206 2 16 (c206) (x.2.1)++[(5,⟨0,26,.var [.sl (List.map c3 x.2.2.1),.sl (List.map A9 x.2.2.2)]⟩)]⟩) (fun x ↦ B6e (min (↑ps[i0.toNat]!.vec.length:Int) (16:Int)) x.1 x.2.1 x.2.2.1 x.2.2.2) (fun x ↦ Aa7 ps i0 (min (↑ps[i0.toNat]!.vec.length:Int) (16:Int)) x.1 x.2.1 x.2.2.1 x.2.2.2) [3,11,12,13,5,20,21] ([10]++List.range' 101000 16++[5]) (((0:Int),T1,ps[i0.toNat]!.vec,ps[i0.toNat]!.cloud)) (show Aa7 ps i0 (min (↑ps[i0.toNat]!.vec.length:Int) (16:Int)) (0:Int) T1 ps[i0.toNat]!.vec ps[i0.toNat]!.cloud from(by exact⟨rfl,rfl,by omega,by omega,Aa8 h5⟩)) ?_
 rintro⟨j7,T8,v9,c10⟩ h_11
 obtain⟨h12,h13,h14,h15,h16⟩:v9=ps[i0.toNat]!.vec∧c10=ps[i0.toNat]!.cloud∧0≤j7∧j7≤min (↑ps[i0.toNat]!.vec.length:Int) (16:Int)∧A00 ps i0 j7 T8:=h_11
 refine rE cx [3,11,12,13,5,20,21,22] ([10]++List.range' 101000 16++[5]) (zB 0 (j7 < min (↑ps[i0.toNat]!.vec.length:Int) (16:Int))) (fun h17=>?_) fun h17=>?_
 refine sK<|sn<|sq<|bL 3<|sq<|rG cx [3,11,12,13,5,20,21,6] ([10]++List.range' 101000 16++[5]) z0<|sn<|A69 (F:=fun kx=>⟨[(3,.ptr (10) (0) (0) (0)),(11,.sl (List.map c26 ps)),(12,.i .i64 ((↑ps.length:Int))),(13,.i .i64 (i0)),(5,.ptr (5) (0) (0) (0)),(20,.i .i64 (min (↑ps[i0.toNat]!.vec.length:Int) (16:Int))),(21,.i .i64 (kx)),(6,.i .i64 (kx))],[(10,⟨0,204,.var (A1j 101000 16)⟩)]++K5 101000 206 2 16 (c206) (T8)++[(5,⟨0,26,.var [.sl (List.map c3 v9),.sl (List.map A9 c10)]⟩)]⟩) (G:=fun kx=>⟨[(3,.ptr (10) (0) (0) (0)),(11,.sl (List.map c26 ps)),(12,.i .i64 ((↑ps.length:Int))),(13,.i .i64 (i0)),(5,.ptr (5) (0) (0) (0)),(20,.i .i64 (min (↑ps[i0.toNat]!.vec.length:Int) (16:Int))),(21,.i .i64 (kx))],[(10,⟨0,204,.var (A1j 101000 16)⟩)]++K5 101000 206 2 16 (c206) (A1z T8 kx.toNat (T8 kx.toNat++[{ lo:=(1:Int),hi:=v9[kx.toNat]!:Run }]))++[(5,⟨0,26,.var [.sl (List.map c3 v9),.sl (List.map A9 c10)]⟩)]⟩) (A:=fun kx=>(0≤kx)∧(kx <(↑(16:Nat):Int))∧(0≤kx)∧((List.map c3 v9)[kx.toNat]?=some (c3 v9[kx.toNat]!))∧((c3 v9[kx.toNat]!).length=(1:Nat))∧(206=(206:Nat))∧((2:Nat)=2)∧([AV.i .i64 (0:Int),AV.i .i64 (0:Int)].length=(2:Nat))∧(∀(r:List AV),r∈List.map c206 [{ lo:=(1:Int),hi:=v9[kx.toNat]!:Run }]→r.length=2)∧((List.map c206 (T8 kx.toNat)).length+(List.map c206 [{ lo:=(1:Int),hi:=v9[kx.toNat]!:Run }]).length≤maxLen)∧(((List.map c206 (T8 kx.toNat)).length+(List.map c206 [{ lo:=(1:Int),hi:=v9[kx.toNat]!:Run }]).length)*(16:Nat)≤(140737488355328:Nat))∧(List.map c206 (T8 kx.toNat)++List.map c206 [{ lo:=(1:Int),hi:=v9[kx.toNat]!:Run }]=List.map c206 (T8 kx.toNat++[{ lo:=(1:Int),hi:=v9[kx.toNat]!:Run }]))∧(0≤kx)∧(kx <(↑(16:Nat):Int))) cx (fun kx=>[(10,{ row:=(c3 v9[kx.toNat]!) }),(14,{ rows:=some (List.map c206 (T8 kx.toNat++[{ lo:=(1:Int),hi:=v9[kx.toNat]!:Run }])) })]) [3,11,12,13,5,20,21] ([10]++List.range' 101000 16++[5]) (j7) (by(with_reducible assumption)) (by omega) (by kernel_rfl) (by kernel_rfl) ⟨(by show _=_;kernel_rfl),(by show _=_;kernel_rfl),(by show _=_;kernel_rfl),(by show _=_;kernel_rfl),(by show _=_;kernel_rfl),(by show _=_;kernel_rfl),(by show _=_;kernel_rfl),(by show _=_;kernel_rfl),(by show _=_;kernel_rfl),(by show _=_;kernel_rfl),(by show _=_;kernel_rfl),(by show _=_;kernel_rfl),(by show _=_;kernel_rfl),(by show _=_;kernel_rfl),(by show _=_;kernel_rfl),(by show _=_;kernel_rfl)⟩ ⟨(by(with_reducible assumption)),(by omega),(by(with_reducible assumption)),(by subst_vars;exact P4 (by omega)),(by kernel_rfl),(by kernel_rfl),(by kernel_rfl),(by kernel_rfl),(by(with_reducible refine A1i (fun _=>?_) _;kernel_rfl)),(by have:=A88 hh3 h6 h16 (r:=j7.toNat) (by omega) (by omega);simp only [List.length_map,List.length_cons,List.length_nil,Go.maxLen];omega),(by have:=A88 hh3 h6 h16 (r:=j7.toNat) (by omega) (by omega);simp only [List.length_map,List.length_cons,List.length_nil];omega),(by(with_reducible refine A66 ?_;kernel_rfl)),(by(with_reducible assumption)),(by omega)⟩ ?_
 refine bN<|sn<|rG cx [3,11,12,13,5,20,21] ([10]++List.range' 101000 16++[5]) (tW 0 (j7+1) z0)<|sn<|nX ((j7+1,A1z T8 j7.toNat (T8 j7.toNat++[{ lo:=(1:Int),hi:=v9[j7.toNat]!:Run }]),v9,c10)) (show(min (↑ps[i0.toNat]!.vec.length:Int) 16-(j7+1)).toNat <(min (↑ps[i0.toNat]!.vec.length:Int) 16-j7).toNat from(by omega)) (show Aa7 ps i0 (min (↑ps[i0.toNat]!.vec.length:Int) (16:Int)) (j7+1) (A1z T8 j7.toNat (T8 j7.toNat++[{ lo:=(1:Int),hi:=v9[j7.toNat]!:Run }])) v9 c10 from(by subst h12 h13;exact⟨rfl,rfl,by omega,by omega,Am8 h14 (by omega) h16⟩))
 refine eX 2<|nE<|nE<|bH<|sn<|sq<|rG cx [3,11,12,13,43,44,45] ([10]++List.range' 101000 16) (tL 2 A9 c10 z0)<|sn<|bL 4<|sL (X:=Int×(Nat→List Run)) (fun x=>⟨[(3,.ptr (10) (0) (0) (0)),(11,.sl (List.map c26 ps)),(12,.i .i64 ((↑ps.length:Int))),(13,.i .i64 (i0)),(43,.sl (List.map A9 c10)),(44,.i .i64 ((↑c10.length:Int))),(45,.i .i64 (x.1))],[(10,⟨0,204,.var (A1j 101000 16)⟩)]++K5 101000 206 2 16 (c206) (x.2)⟩) (fun x ↦ B6f ps i0 x.1 x.2) (fun x ↦ A6i ps i0 x.1 x.2) [3,11,12,13,43,44,45] ([10]++List.range' 101000 16) (((0:Int),T8)) (show A6i ps i0 (0:Int) T8 from(by exact⟨by omega,by omega,Aa9 h15 h17 h16⟩)) ?_
 rintro⟨j18,T19⟩ h_20
 obtain⟨h21,h22,h23⟩:0≤j18∧j18≤(↑ps[i0.toNat]!.cloud.length:Int)∧S6 ps i0 j18 T19:=h_20
 refine rE cx [3,11,12,13,43,44,45,46] ([10]++List.range' 101000 16) (zB 0 (j18 <(↑c10.length:Int))) (fun h24=>?_) fun h24=>?_
 refine sK<|sn<|sq<|bL 5<|sq<|rG cx [3,11,12,13,43,44,45,8] ([10]++List.range' 101000 16++[8]) (fA (0≤j18) (fG A9 c10 j18.toNat (fR 3 (fN 3 3 (oR 0 (A9 c10[j18.toNat]!) z0)))))<|sn<|sq<|A7 (σ':=⟨[(3,.ptr (10) (0) (0) (0)),(11,.sl (List.map c26 ps)),(12,.i .i64 ((↑ps.length:Int))),(13,.i .i64 (i0)),(43,.sl (List.map A9 c10)),(44,.i .i64 ((↑c10.length:Int))),(45,.i .i64 (j18)),(8,.ptr (8) (0) (0) (0)),(56,.b (decide (0≤c10[j18.toNat]!.rep∧c10[j18.toNat]!.rep <(16:Int))))],[(10,⟨0,204,.var (A1j 101000 16)⟩)]++K5 101000 206 2 16 (c206) (T19)++[(8,⟨0,141,.var [.i .i64 (c10[j18.toNat]!.rep),.i .i64 (c10[j18.toNat]!.lo),.i .i64 (c10[j18.toNat]!.hi)]⟩)]⟩) ?_ ?_
 refine A2 (0≤c10[j18.toNat]!.rep) (fun h_26=>?_) (fun h_26=>?_)
 refine rG cx [3,11,12,13,43,44,45,8,56] ([10]++List.range' 101000 16++[8]) (tT 2 (A1 h_26) (tB 6 (c10[j18.toNat]!.rep <(16:Int)) (tD 7 (decide (c10[j18.toNat]!.rep <(16:Int))) (0≤c10[j18.toNat]!.rep∧c10[j18.toNat]!.rep <(16:Int)) (by simp only [eq_true h_26,tsl]) z0))) ?_
 exact⟨rfl,by kernel_rfl⟩
 refine rG cx [3,11,12,13,43,44,45,8,56] ([10]++List.range' 101000 16++[8]) (tT 2 (A0 h_26) (tD 7 false (0≤c10[j18.toNat]!.rep∧c10[j18.toNat]!.rep <(16:Int)) (by simp only [eq_false h_26,tsl]) z0)) ?_
 exact⟨rfl,by kernel_rfl⟩
 refine sn<|dC (0≤c10[j18.toNat]!.rep∧c10[j18.toNat]!.rep <(16:Int)) (fun h27=>?_) fun h27=>?_
 refine A69 (F:=fun kx=>⟨[(3,.ptr (10) (0) (0) (0)),(11,.sl (List.map c26 ps)),(12,.i .i64 ((↑ps.length:Int))),(13,.i .i64 (i0)),(43,.sl (List.map A9 c10)),(44,.i .i64 ((↑c10.length:Int))),(45,.i .i64 (j18)),(8,.ptr (8) (0) (0) (0)),(56,.b (decide (0≤kx∧kx <(16:Int))))],[(10,⟨0,204,.var (A1j 101000 16)⟩)]++K5 101000 206 2 16 (c206) (T19)++[(8,⟨0,141,.var [.i .i64 (kx),.i .i64 (c10[j18.toNat]!.lo),.i .i64 (c10[j18.toNat]!.hi)]⟩)]⟩) (G:=fun kx=>⟨[(3,.ptr (10) (0) (0) (0)),(11,.sl (List.map c26 ps)),(12,.i .i64 ((↑ps.length:Int))),(13,.i .i64 (i0)),(43,.sl (List.map A9 c10)),(44,.i .i64 ((↑c10.length:Int))),(45,.i .i64 (j18))],[(10,⟨0,204,.var (A1j 101000 16)⟩)]++K5 101000 206 2 16 (c206) (A1z T19 kx.toNat (T19 kx.toNat++[{ lo:=c10[j18.toNat]!.lo,hi:=c10[j18.toNat]!.hi:Run }]))⟩) (A:=fun kx=>(0≤kx)∧(kx <(↑(16:Nat):Int))∧(206=(206:Nat))∧((2:Nat)=2)∧([AV.i .i64 (0:Int),AV.i .i64 (0:Int)].length=(2:Nat))∧(∀(r:List AV),r∈List.map c206 [{ lo:=c10[j18.toNat]!.lo,hi:=c10[j18.toNat]!.hi:Run }]→r.length=2)∧((List.map c206 (T19 kx.toNat)).length+(List.map c206 [{ lo:=c10[j18.toNat]!.lo,hi:=c10[j18.toNat]!.hi:Run }]).length≤maxLen)∧(((List.map c206 (T19 kx.toNat)).length+(List.map c206 [{ lo:=c10[j18.toNat]!.lo,hi:=c10[j18.toNat]!.hi:Run }]).length)*(16:Nat)≤(140737488355328:Nat))∧(List.map c206 (T19 kx.toNat)++List.map c206 [{ lo:=c10[j18.toNat]!.lo,hi:=c10[j18.toNat]!.hi:Run }]=List.map c206 (T19 kx.toNat++[{ lo:=c10[j18.toNat]!.lo,hi:=c10[j18.toNat]!.hi:Run }]))∧(0≤kx)∧(kx <(↑(16:Nat):Int))) cx (fun kx=>[(15,{ rows:=some (List.map c206 (T19 kx.toNat++[{ lo:=c10[j18.toNat]!.lo,hi:=c10[j18.toNat]!.hi:Run }])) })]) [3,11,12,13,43,44,45] ([10]++List.range' 101000 16) (c10[j18.toNat]!.rep) (by omega) (by omega) (by kernel_rfl) (by kernel_rfl) ⟨(by show _=_;kernel_rfl),(by show _=_;kernel_rfl),(by show _=_;kernel_rfl),(by show _=_;kernel_rfl),(by show _=_;kernel_rfl),(by show _=_;kernel_rfl),(by show _=_;kernel_rfl),(by show _=_;kernel_rfl),(by show _=_;kernel_rfl),(by show _=_;kernel_rfl),(by show _=_;kernel_rfl),(by show _=_;kernel_rfl),(by show _=_;kernel_rfl),(by show _=_;kernel_rfl),(by show _=_;kernel_rfl),(by show _=_;kernel_rfl)⟩ ⟨(by omega),(by omega),(by kernel_rfl),(by kernel_rfl),(by kernel_rfl),(by(with_reducible refine A1i (fun _=>?_) _;kernel_rfl)),(by subst h12 h13;have:=A0l hh3 h6 h21 h24 h23 (r:=((ps[i0.toNat]!).cloud[j18.toNat]!).rep.toNat) (by omega);simp only [List.length_map,List.length_cons,List.length_nil,Go.maxLen];omega),(by subst h12 h13;have:=A0l hh3 h6 h21 h24 h23 (r:=((ps[i0.toNat]!).cloud[j18.toNat]!).rep.toNat) (by omega);simp only [List.length_map,List.length_cons,List.length_nil];omega),(by(with_reducible refine A66 ?_;kernel_rfl)),(by omega),(by omega)⟩ ?_
 refine bN<|sn<|rG cx [3,11,12,13,43,44,45] ([10]++List.range' 101000 16) (tT 0 (C1 (by omega) (by subst h12 h13;have:=A0l hh3 h6 h21 h24 h23 (r:=0) (by omega);omega):AV.i .i64 (IntKind.i64.wrap (j18+1))=AV.i .i64 (j18+1)) z0) ?_
 refine sn<|nX ((j18+1,A1z T19 c10[j18.toNat]!.rep.toNat (T19 c10[j18.toNat]!.rep.toNat++[{ lo:=c10[j18.toNat]!.lo,hi:=c10[j18.toNat]!.hi:Run }]))) (show((↑ps[i0.toNat]!.cloud.length:Int)-(j18+1)).toNat <((↑ps[i0.toNat]!.cloud.length:Int)-j18).toNat from(by subst h12 h13;omega)) (show A6i ps i0 (j18+1) (A1z T19 c10[j18.toNat]!.rep.toNat (T19 c10[j18.toNat]!.rep.toNat++[{ lo:=c10[j18.toNat]!.lo,hi:=c10[j18.toNat]!.hi:Run }]))from(by subst h12 h13;exact⟨by omega,by omega,B2h h21 h24 h27 h23⟩))
 refine sK<|bN<|sn<|rG cx [3,11,12,13,43,44,45] ([10]++List.range' 101000 16) (tT 0 (C1 (by omega) (by subst h12 h13;have:=A0l hh3 h6 h21 h24 h23 (r:=0) (by omega);omega):AV.i .i64 (IntKind.i64.wrap (j18+1))=AV.i .i64 (j18+1)) z0) ?_
 refine sn<|nX ((j18+1,T19)) (show((↑ps[i0.toNat]!.cloud.length:Int)-(j18+1)).toNat <((↑ps[i0.toNat]!.cloud.length:Int)-j18).toNat from(by subst h12 h13;omega)) (show A6i ps i0 (j18+1) T19 from(by subst h12 h13;exact⟨by omega,by omega,Av1 h21 h24 h27 h23⟩))
 refine eX 4<|nE<|nE<|bH<|bN<|sn<|rG cx [3,11,12,13] ([10]++List.range' 101000 16) (tW 0 (i0+1) z0)<|sn<|nX ((i0+1,T19)) (show((↑ps.length:Int)-(i0+1)).toNat <((↑ps.length:Int)-i0).toNat from(by omega)) (show Aa6 ps (i0+1) T19 from(by subst h12 h13;exact⟨by omega,by omega,Av2 hh3 h6 h24 h23⟩))
 refine eX 0<|nE<|nE<|bH<|sn<|sq<|W9 (List.range' 101000 16) [3,11,12,13,14] [10] (σ':=⟨[(3,.ptr (10) (0) (0) (0)),(11,.sl (List.map c26 ps)),(12,.i .i64 ((↑ps.length:Int))),(13,.i .i64 (i0)),(14,.b (decide (i0 <(↑ps.length:Int))))],[(10,⟨0,204,.var [.sl (List.map c206 (T1 (0))),.sl (List.map c206 (T1 (1))),.sl (List.map c206 (T1 (2))),.sl (List.map c206 (T1 (3))),.sl (List.map c206 (T1 (4))),.sl (List.map c206 (T1 (5))),.sl (List.map c206 (T1 (6))),.sl (List.map c206 (T1 (7))),.sl (List.map c206 (T1 (8))),.sl (List.map c206 (T1 (9))),.sl (List.map c206 (T1 (10))),.sl (List.map c206 (T1 (11))),.sl (List.map c206 (T1 (12))),.sl (List.map c206 (T1 (13))),.sl (List.map c206 (T1 (14))),.sl (List.map c206 (T1 (15)))]⟩)]⟩) (by kernel_rfl)<|A4z 10 ⟨0,204,.var [.sl (List.map c206 (T1 (0))),.sl (List.map c206 (T1 (1))),.sl (List.map c206 (T1 (2))),.sl (List.map c206 (T1 (3))),.sl (List.map c206 (T1 (4))),.sl (List.map c206 (T1 (5))),.sl (List.map c206 (T1 (6))),.sl (List.map c206 (T1 (7))),.sl (List.map c206 (T1 (8))),.sl (List.map c206 (T1 (9))),.sl (List.map c206 (T1 (10))),.sl (List.map c206 (T1 (11))),.sl (List.map c206 (T1 (12))),.sl (List.map c206 (T1 (13))),.sl (List.map c206 (T1 (14))),.sl (List.map c206 (T1 (15)))]⟩ [.sl (List.map c206 (T1 (0))),.sl (List.map c206 (T1 (1))),.sl (List.map c206 (T1 (2))),.sl (List.map c206 (T1 (3))),.sl (List.map c206 (T1 (4))),.sl (List.map c206 (T1 (5))),.sl (List.map c206 (T1 (6))),.sl (List.map c206 (T1 (7))),.sl (List.map c206 (T1 (8))),.sl (List.map c206 (T1 (9))),.sl (List.map c206 (T1 (10))),.sl (List.map c206 (T1 (11))),.sl (List.map c206 (T1 (12))),.sl (List.map c206 (T1 (13))),.sl (List.map c206 (T1 (14))),.sl (List.map c206 (T1 (15)))] (Q3 c206 16 T1) (σ':=⟨[(3,.ptr (10) (0) (0) (0)),(11,.sl (List.map c26 ps)),(12,.i .i64 ((↑ps.length:Int))),(13,.i .i64 (i0)),(14,.b (decide (i0 <(↑ps.length:Int))))],[(10,⟨0,204,.arr (Q3 c206 16 T1)⟩)]⟩) (by kernel_rfl) (by kernel_rfl) (by kernel_rfl) (by kernel_rfl) (ZLe.of_eq (by kernel_rfl)) (by kernel_rfl)<|rG cx [2] [10] z0<|sn<|rT<|qb_ptr (cells':=(Q3 c206 16 T1)) .ret (.inr rfl) 2 10 0 (by kernel_rfl) (by kernel_rfl) (by kernel_rfl) ?g16;rotate_left
 case g16 =>
  unfold Q3
  refine List.map_congr_left fun r hr=>?_
  rw[h5 r (by simpa using hr),List.take_of_length_le (by omega)]
end Go.Proofs.YtphcaholhacnpaaGreat
namespace Go.Proofs.YtphcaholhacnpaaGreat
open Go.E
set_option maxRecDepth 100000
set_option maxHeartbeats 4000000
def A4(p:Past):Past:=I9 (C4 [p])
theorem Av3(p:Past):A3d [p]=p.cloud.length+1:=by simp [A3d]
theorem A89(p:Past)(hb:p.cloud.length*16≤140737488350000):Con Tryz.prog 116 [.agg (c26 p)] (.agg (c26 (A4 p))) :=
 by
 have h1:=Av3 p
 have h2:=fun r=>Q7 r [p]
 refine sC A6 [.cell 2 26] 7 Tryz.func116 ?_
 intro e0 cx
 refine sq<|rG cx [1,2] [1,2] z0<|sn<|sq<|rG cx [2] [2] (fT (Am9 ([p]) ?g0) (fT (B2e (C4 [p]) ?g1) (oV 2 { val:=some (.ptr ((204:Nat)) (0) (0) (0)),row:=(Q3 c206 16 (C4 [p])) } (oA 3 (.agg [.sl (List.map c3 (I9 (C4 [p])).vec),.sl (List.map A9 (I9 (C4 [p])).cloud)]) z0)))) ?_;rotate_left 2
 refine sn<|rT<|qR (.agg [.sl (List.map c3 (I9 (C4 [p])).vec),.sl (List.map A9 (I9 (C4 [p])).cloud)]) (.eq ?g2);rotate_left
 all_goals
  ( intros <;> first
  | omega
  | exact rfl
  | (have:=h2 ‹Nat›;omega))
end Go.Proofs.YtphcaholhacnpaaGreat
namespace Go.Proofs.YtphcaholhacnpaaGreat
open Go.E
set_option maxRecDepth 100000
set_option maxHeartbeats 4000000
def B86{α:Type}[Inhabited α](a b:List α)(i:Int):Prop:=0≤i∧i≤a.length∧a.length=b.length∧∀ j:Nat,(j:Int) < i→a[j]! = b[j]!
def decE{α:Type}(a b:List α)(i:Int):Nat:=(a.length-i).toNat
theorem A8a{α:Type}[Inhabited α]{a b:List α}(hl:a.length=b.length)(h:∀ j:Nat,j < a.length→a[j]! = b[j]!):a=b:=by
 apply List.ext_getElem hl
 intro j h1 h2
 have:=h j h1
 rwa [getElem!_pos a j h1,getElem!_pos b j h2]at this
theorem B4k(a b:List Int):Con Tryz.prog 151 [.sl (a.map c3),.sl (b.map c3)] (.b (decide (a=b))) :=
 by
 refine lN 0 c3 (a) Tryz.func151 fun hl_0=>lN 1 c3 (b) Tryz.func151 fun hl_1=>sC A6 [.tmp 4] 26 Tryz.func151 ?_
 intro e0 cx
 refine sq<|rG cx [0,1] [] z0<|sn<|sq<|sq<|rG cx [0,1,10] [] (tL 1 c3 a (tL 3 c3 b (tN 4 (↑a.length:Int) (↑b.length:Int) z0)))<|sn<|dC (¬(↑a.length:Int)=(↑b.length:Int)) (fun hh0=>?_) fun hh0=>?_
 refine sq<|rG cx [4] [] z0<|sn<|rT<|nR<|qR (.b (false)) (.eq (by exact(by rw[decide_eq_false (fun k=>hh0 (by rw[k]))])))
 refine sK<|sn<|sq<|sq<|rG cx [0,1,12,13] [] (tL 1 c3 a z0)<|sn<|bL 0<|sL (X:=Int) (fun x=>⟨[(0,.sl (List.map c3 a)),(1,.sl (List.map c3 b)),(12,.i .i64 ((↑a.length:Int))),(13,.i .i64 (x))],[]⟩) (fun x ↦ decE a b x) (fun x ↦ B86 a b x) [0,1,12,13] [] ((0:Int)) (show B86 a b (0:Int)from(by exact⟨by omega,by omega,by omega,fun j hj=>by omega⟩)) ?_
 intro i1 h_2
 obtain⟨hh3,hh4,hh5,h6⟩:0≤i1∧i1≤(↑a.length:Int)∧a.length=b.length∧∀(j:Nat),(↑j:Int) < i1→a[j]! = b[j]!:=h_2
 refine rE cx [0,1,12,13,14] [] (zB 0 (i1 <(↑a.length:Int))) (fun h7=>?_) fun h7=>?_
 refine sK<|sn<|sq<|bL 1<|sq<|rG cx [0,1,12,13,5] [] z0<|sn<|sq<|rA cx [0,1,12,13,24] [] (fA (0≤i1) (fG c3 a i1.toNat (fR 1 (fA (0≤i1) (fG c3 b i1.toNat (fR 1 (tN 8 a[i1.toNat]! b[i1.toNat]! (oR 2 (c3 a[i1.toNat]!) (oR 6 (c3 b[i1.toNat]!) z0)))))))))<|sn<|dC (¬a[i1.toNat]! = b[i1.toNat]!) (fun h8=>?_) fun h8=>?_
 refine sq<|rG cx [4] [] z0<|sn<|rT<|bR<|nR<|nR<|bR<|nR<|qR (.b (false)) (.eq (by exact(by rw[decide_eq_false (fun k=>h8 (by rw[k]))])))
 refine sK<|bN<|sn<|rG cx [0,1,12,13] [] (tW 0 (i1+1) z0)<|sn<|nX (i1+1) (show((↑a.length:Int)-(i1+1)).toNat <((↑a.length:Int)-i1).toNat from(by omega)) (show B86 a b (i1+1)from ?g3);rotate_left
 refine eX 0<|nE<|nE<|bH<|sn<|sq<|rG cx [4] [] z0<|sn<|rT<|qR (.b (true)) (.eq (by exact(by rw[decide_eq_true (A8a hh5 fun j hj=>h6 j (by omega))])))
 case g3=>revert hh0 i1 hh3 hh4 hh5 h6 h7 h8;exact(fun h i h0 h1 h2 h3 h4 h5=>⟨by omega,by omega,h2,fun j hj=>by
   by_cases e:j=i.toNat
   ·rw[e];exact Classical.not_not.1 h5
   ·exact h3 j (by omega)⟩)
theorem con152(a b:List Span):Con Tryz.prog 152 [.sl (a.map A9),.sl (b.map A9)] (.b (decide (a=b))) :=
 by
 refine lN 0 A9 (a) Tryz.func152 fun hl_0=>lN 1 A9 (b) Tryz.func152 fun hl_1=>sC A6 [.tmp 4] 26 Tryz.func152 ?_
 intro e0 cx
 refine sq<|rG cx [0,1] [] z0<|sn<|sq<|sq<|rG cx [0,1,10] [] (tL 1 A9 a (tL 3 A9 b (tN 4 (↑a.length:Int) (↑b.length:Int) z0)))<|sn<|dC (¬(↑a.length:Int)=(↑b.length:Int)) (fun hh0=>?_) fun hh0=>?_
 refine sq<|rG cx [4] [] z0<|sn<|rT<|nR<|qR (.b (false)) (.eq (by exact(by rw[decide_eq_false (fun k=>hh0 (by rw[k]))])))
 refine sK<|sn<|sq<|sq<|rG cx [0,1,12,13] [] (tL 1 A9 a z0)<|sn<|bL 0<|sL (X:=Int) (fun x=>⟨[(0,.sl (List.map A9 a)),(1,.sl (List.map A9 b)),(12,.i .i64 ((↑a.length:Int))),(13,.i .i64 (x))],[]⟩) (fun x ↦ decE a b x) (fun x ↦ B86 a b x) [0,1,12,13] [] ((0:Int)) (show B86 a b (0:Int)from(by exact⟨by omega,by omega,by omega,fun j hj=>by omega⟩)) ?_
 intro i1 h_2
 obtain⟨hh3,hh4,hh5,h6⟩:0≤i1∧i1≤(↑a.length:Int)∧a.length=b.length∧∀(j:Nat),(↑j:Int) < i1→a[j]! = b[j]!:=h_2
 refine rE cx [0,1,12,13,14] [] (zB 0 (i1 <(↑a.length:Int))) (fun h7=>?_) fun h7=>?_
 refine sK<|sn<|sq<|bL 1<|sq<|rG cx [0,1,12,13,5] [] z0<|sn<|sq<|rA cx [0,1,12,13,24] [] (fA (0≤i1) (fG A9 a i1.toNat (fR 3 (fN 3 3 (fA (0≤i1) (fG A9 b i1.toNat (fR 3 (fN 3 3 (fT (A0k (eq141 a[i1.toNat]! b[i1.toNat]!)) (oR 2 (A9 a[i1.toNat]!) (oR 6 (A9 b[i1.toNat]!) (oA 8 (.b (decide ¬a[i1.toNat]! = b[i1.toNat]!)) z0))))))))))))<|sn<|dC (¬a[i1.toNat]! = b[i1.toNat]!) (fun h8=>?_) fun h8=>?_
 refine sq<|rG cx [4] [] z0<|sn<|rT<|bR<|nR<|nR<|bR<|nR<|qR (.b (false)) (.eq (by exact(by rw[decide_eq_false (fun k=>h8 (by rw[k]))])))
 refine sK<|bN<|sn<|rG cx [0,1,12,13] [] (tW 0 (i1+1) z0)<|sn<|nX (i1+1) (show((↑a.length:Int)-(i1+1)).toNat <((↑a.length:Int)-i1).toNat from(by omega)) (show B86 a b (i1+1)from ?g3);rotate_left
 refine eX 0<|nE<|nE<|bH<|sn<|sq<|rG cx [4] [] z0<|sn<|rT<|qR (.b (true)) (.eq (by exact(by rw[decide_eq_true (A8a hh5 fun j hj=>h6 j (by omega))])))
 case g3=>revert hh0 i1 hh3 hh4 hh5 h6 h7 h8;exact(fun h i h0 h1 h2 h3 h4 h5=>⟨by omega,by omega,h2,fun j hj=>by
   by_cases e:j=i.toNat
   ·rw[e];exact Classical.not_not.1 h5
   ·exact h3 j (by omega)⟩)
theorem A0m(p:Past)(hb:p.cloud.length*16≤140737488350000):Con Tryz.prog 81 [.agg (c26 p)] (.b (decide (p=A4 p))) :=
 by
 refine sC A6 [.tmp 2] 18 Tryz.func81 ?_
 intro e0 cx
 refine sq<|rG cx [1] [1] z0<|sn<|sq<|rG cx [1,3] [1,3] (fT (A89 (p) (by(with_reducible assumption))) (oA 1 (.agg [.sl (List.map c3 (A4 p).vec),.sl (List.map A9 (A4 p).cloud)]) z0))<|sn<|sq<|A7 (σ':=⟨[(2,.b (decide (p.vec=(A4 p).vec∧p.cloud=(A4 p).cloud)))],[]⟩) ?_ ?_
 refine A2 (p.vec=(A4 p).vec) (fun h_1=>?_) (fun h_1=>?_)
 refine rg (A:=_∧_∧_∧(AV.b (decide (p.cloud=(A4 p).cloud))=AV.b (decide (p.vec=(A4 p).vec∧p.cloud=(A4 p).cloud)))) cx [(4,{ val:=some (.b (decide (p.vec=(A4 p).vec))),tell:=some (.b (true)) }),(10,{ val:=some (.b (decide (p.cloud=(A4 p).cloud))) }),(12,{ tell:=some (.b (decide (p.vec=(A4 p).vec∧p.cloud=(A4 p).cloud))) })] [2] [] ⟨(A1 h_1),(B4k (p.vec) ((A4 p).vec)),(con152 (p.cloud) ((A4 p).cloud)),(by simp only [eq_true h_1,tsl])⟩ ?_
 exact⟨rfl,by kernel_rfl⟩
 refine rg (A:=_∧_∧(AV.b false=AV.b (decide (p.vec=(A4 p).vec∧p.cloud=(A4 p).cloud)))) cx [(4,{ val:=some (.b (decide (p.vec=(A4 p).vec))),tell:=some (.b (false)) }),(12,{ tell:=some (.b (decide (p.vec=(A4 p).vec∧p.cloud=(A4 p).cloud))) })] [2] [] ⟨(A0 h_1),(B4k (p.vec) ((A4 p).vec)),(by simp only [eq_false h_1,tsl])⟩ ?_
 exact⟨rfl,by kernel_rfl⟩
 refine sn<|rT<|qR (.b (decide (p.vec=(A4 p).vec∧p.cloud=(A4 p).cloud))) (.eq ?g0);rotate_left
 case' g0=>refine(by
  congr 1
  refine decide_eq_decide.2 ?_
  generalize A4 p=q
  cases p;cases q;simp)
end Go.Proofs.YtphcaholhacnpaaGreat
namespace Go.Proofs.YtphcaholhacnpaaGreat
open Go.E
set_option maxRecDepth 100000
set_option maxHeartbeats 4000000
def A76(s:Span)(d:Dot):Bool:=decide (s.rep=d.rep∧s.lo≤d.num∧d.num≤s.hi)
def Ag6(c:List Span)(d:Dot):Int:=if c.any (fun s=>A76 s d)=true then(c.findIdx (fun s=>A76 s d):Int)else -1
def invI(c:List Span)(d:Dot)(i:Int):Prop:=0≤i∧i≤c.length∧∀ j:Nat,(j:Int) < i→A76 c[j]! d=false
def decI(c:List Span)(d:Dot)(i:Int):Nat:=(c.length-i).toNat
def D7(p:Past)(d:Dot):Bool:=U6 d && (decide (d.rep < p.vec.length∧d.num≤p.vec[d.rep.toNat]!) || p.cloud.any fun s=>A76 s d)
theorem idx_at{c:List Span}{d:Dot}:∀ {i:Nat},i < c.length→A76 c[i]! d=true→(∀ j:Nat,j < i→A76 c[j]! d=false)→Ag6 c d=i:=by
 intro i hi h hn
 have hany:c.any (fun s=>A76 s d)=true:=List.any_eq_true.2 ⟨c[i]!,H5 hi,h⟩
 unfold Ag6
 rw[if_pos hany]
 have:c.findIdx (fun s=>A76 s d)=i:=by
  rw[List.findIdx_eq hi]
  refine⟨by rwa [getElem!_pos c i hi]at h,fun j hj=>?_⟩
  have:=hn j hj
  rwa [getElem!_pos c j (by omega)]at this
 rw[this]
theorem idx_no{c:List Span}{d:Dot}(h:∀ j:Nat,j < c.length→A76 c[j]! d=false):Ag6 c d=-1:=by
 unfold Ag6
 rw[if_neg]
 intro k
 obtain⟨x,hx,hk⟩:=List.any_eq_true.1 k
 obtain⟨j,hj,rfl⟩:=List.mem_iff_getElem.1 hx
 have:=h j hj
 rw[getElem!_pos c j hj]at this
 rw[this]at hk
 cases hk
theorem B6g(c:List Span)(d:Dot):decide (0≤Ag6 c d)=c.any fun s=>A76 s d:=by
 unfold Ag6
 cases h:c.any fun s=>A76 s d with
 | true=>rw[if_pos rfl];simp
 | false=>rw[if_neg (by simp)];rfl
theorem con174(s:Span)(d:Dot):Con Tryz.prog 174 [.agg (A9 s),.eptr (c44 d)] (.b (A76 s d)) :=
 by
 refine sC A6 [.tmp 3] 23 Tryz.func174 ?_
 intro e0 cx
 refine sq<|rG cx [1,2] [2] z0<|sn<|sq<|A7 (σ':=⟨[(3,.b (decide (s.rep=d.rep∧s.lo≤d.num∧d.num≤s.hi)))],[]⟩) ?_ ?_
 refine A2 (s.rep=d.rep) (fun h_1=>?_) (fun h_1=>?_)
 refine A2 (s.lo≤d.num) (fun h_2=>?_) (fun h_2=>?_)
 refine rG cx [3] [] (tT 4 (A1 h_1) (tT 10 (A1 h_2) (tB 17 (d.num≤s.hi) (tD 19 (decide (d.num≤s.hi)) (s.rep=d.rep∧s.lo≤d.num∧d.num≤s.hi) (by simp only [eq_true h_1,eq_true h_2,tsl]) z0)))) ?_
 exact⟨rfl,by kernel_rfl⟩
 refine rG cx [3] [] (tT 4 (A1 h_1) (tT 10 (A0 h_2) (tD 19 false (s.rep=d.rep∧s.lo≤d.num∧d.num≤s.hi) (by simp only [eq_true h_1,eq_false h_2,tsl]) z0))) ?_
 exact⟨rfl,by kernel_rfl⟩
 refine rG cx [3] [] (tT 4 (A0 h_1) (tD 19 false (s.rep=d.rep∧s.lo≤d.num∧d.num≤s.hi) (by simp only [eq_false h_1,tsl]) z0)) ?_
 exact⟨rfl,by kernel_rfl⟩
 refine sn<|rT<|qR (.b (decide (s.rep=d.rep∧s.lo≤d.num∧d.num≤s.hi))) (.eq ?g0);rotate_left
 case g0=>exact rfl
theorem con216(c:List Span)(d:Dot):Con Tryz.prog 216 [.sl (c.map A9),.fn (.func 174) [] [.eptr (c44 d)]] (.i .i64 (Ag6 c d)) :=
 by
 refine lN 0 A9 (c) Tryz.func216 fun hl_0=>sC A6 [.tmp 4] 19 Tryz.func216 ?_
 intro e0 cx
 refine sq<|rG cx [0,1] [] z0<|sn<|sq<|sq<|rG cx [0,1,7,8] [] (tL 1 A9 c z0)<|sn<|bL 0<|sL (X:=Int) (fun x=>⟨[(0,.sl (List.map A9 c)),(1,.fn (Fn.func (174:FuncId)) [] [.eptr [.i .i64 (d.rep),.i .i64 (d.num)]]),(7,.i .i64 ((↑c.length:Int))),(8,.i .i64 (x))],[]⟩) (fun x ↦ decI c d x) (fun x ↦ invI c d x) [0,1,7,8] [] ((0:Int)) (show invI c d (0:Int)from(by exact⟨by omega,by omega,fun j hj=>by omega⟩)) ?_
 intro i0 h_1
 obtain⟨hh2,hh3,hh4⟩:0≤i0∧i0≤(↑c.length:Int)∧∀(j:Nat),(↑j:Int) < i0→A76 c[j]! d=false:=h_1
 refine rE cx [0,1,7,8,9] [] (zB 0 (i0 <(↑c.length:Int))) (fun h5=>?_) fun h5=>?_
 refine sK<|sn<|sq<|bL 1<|sq<|rG cx [0,1,7,8,5] [] z0<|sn<|sq<|rG cx [0,1,7,8,5,16] [] (fA (0≤i0) (fG A9 c i0.toNat (fR 3 (fN 3 3 (fT (con174 (c[i0.toNat]!) (d)) (oR 3 (A9 c[i0.toNat]!) (oA 5 (.b (A76 c[i0.toNat]! d)) z0)))))))<|sn<|Z7 (A76 c[i0.toNat]! d) (by kernel_rfl) (by kernel_rfl) (fun h6=>?_) (fun h6=>?_)
 refine sq<|rG cx [4] [] z0<|sn<|rT<|bR<|nR<|nR<|bR<|nR<|qR (.i .i64 (i0)) (.eq ?g1);rotate_left
 refine sK<|bN<|sn<|rG cx [0,1,7,8] [] (tW 0 (i0+1) z0)<|sn<|nX (i0+1) (show((↑c.length:Int)-(i0+1)).toNat <((↑c.length:Int)-i0).toNat from(by omega)) (show invI c d (i0+1)from ?g2);rotate_left
 refine eX 0<|nE<|nE<|bH<|sn<|sq<|rG cx [4] [] z0<|sn<|rT<|qR (.i .i64 ((-1:Int))) (.eq (by exact(by rw[idx_no fun j hj=>hh4 j (by omega)])))
 case g1=>revert i0 hh2 hh3 hh4 h5 h6;exact(fun i h0 h1 h2 h3 h4=>by rw[idx_at (i:=i.toNat) (by omega) h4 (fun j hj=>h2 j (by omega)),show((i.toNat:Nat):Int)=i by omega])
 case g2=>revert i0 hh2 hh3 hh4 h5 h6;exact(fun i h0 h1 h2 h3 h4=>⟨by omega,by omega,fun j hj=>by
   by_cases e:j=i.toNat
   ·rw[e];exact h4
   ·exact h2 j (by omega)⟩)
theorem con173(c:List Span)(d:Dot):Con Tryz.prog 173 [.sl (c.map A9),.fn (.func 174) [] [.eptr (c44 d)]] (.b (decide (0≤Ag6 c d))) :=
 by
 refine lN 0 A9 (c) Tryz.func173 fun hl_0=>sC A6 [.tmp 4] 9 Tryz.func173 ?_
 intro e0 cx
 refine sq<|rG cx [0,1] [] z0<|sn<|sq<|rG cx [4] [] (fT (con216 (c) (d)) (tB 3 (0≤Ag6 c d) (oA 2 (.i .i64 (Ag6 c d)) z0)))<|sn<|rT ?_
 exact A25 (r:=.b (decide (0≤Ag6 c d))) (obl:=[]) (by kernel_rfl) trivial (A3.refl _)
theorem A8b(p:Past)(d:Dot):Con Tryz.prog 105 [.agg (c26 p),.agg (c44 d)] (.b (D7 p d)) :=
 by
 refine sC A6 [.tmp 4] 29 Tryz.func105 ?_
 intro e0 cx
 refine sq<|rG cx [2,3] [2,3] z0<|sn<|sq<|sq<|rG cx [2,3,7] [2,3] (fT (B4j (d)) (tT 2 (G7:(AV.b !U6 d)=AV.b (decide ¬U6 d=true)) (oA 1 (.b (U6 d)) z0)))<|sn<|dC (¬U6 d=true) (fun h0=>?_) fun h0=>?_
 refine sq<|rG cx [4] [] z0<|sn<|rT<|nR<|qR (.b (false)) (.eq (by unfold D7;rw[Bool.eq_false_iff.2 h0];rfl))
 refine sK<|sn<|sq<|sq<|A7 (σ':=⟨[(2,.ptr (2) (0) (0) (0)),(3,.ptr (3) (0) (0) (0)),(24,.b (decide (d.rep <(↑p.vec.length:Int)∧d.num≤p.vec[d.rep.toNat]!)))],[(2,⟨0,26,.var [.sl (List.map c3 p.vec),.sl (List.map A9 p.cloud)]⟩),(3,⟨0,44,.var [.i .i64 (d.rep),.i .i64 (d.num)]⟩)]⟩) ?_ ?_
 refine A2 (d.rep <(↑p.vec.length:Int)) (fun h2=>?_) (fun h2=>?_)
 refine rA cx [2,3,24] [2,3] (tL 4 c3 p.vec (tT 5 (A1 h2) (fP (0≤d.rep) (by exact(F9 (Classical.not_not.1 h0)).1) (fP ((List.map c3 p.vec)[d.rep.toNat]?=some (c3 p.vec[d.rep.toNat]!)) (by have:=(F9 (Classical.not_not.1 h0)).1;exact P4 (by omega)) (fR 1 (tB 15 (d.num≤p.vec[d.rep.toNat]!) (tD 16 (decide (d.num≤p.vec[d.rep.toNat]!)) (d.rep <(↑p.vec.length:Int)∧d.num≤p.vec[d.rep.toNat]!) (by simp only [eq_true h2,tsl]) (oR 13 (c3 p.vec[d.rep.toNat]!) z0)))))))) ?_
 exact⟨rfl,by kernel_rfl⟩
 refine rA cx [2,3,24] [2,3] (tL 4 c3 p.vec (tT 5 (A0 h2) (tD 16 false (d.rep <(↑p.vec.length:Int)∧d.num≤p.vec[d.rep.toNat]!) (by simp only [eq_false h2,tsl]) z0))) ?_
 exact⟨rfl,by kernel_rfl⟩
 refine sn<|dC (d.rep <(↑p.vec.length:Int)∧d.num≤p.vec[d.rep.toNat]!) (fun h3=>?_) fun h3=>?_
 refine sq<|rG cx [4] [] z0<|sn<|rT<|nR<|qR (.b (true)) (.eq (by unfold D7;rw[Classical.not_not.1 h0,decide_eq_true h3];rfl))
 refine sK<|sn<|sq<|rG cx [4] [] (fP (Flat (AV.b (decide (0≤Ag6 p.cloud d)))) (by exact Flat.b _) (fT (con173 (p.cloud) (d)) (oV 3 { val:=some (.b (decide (0≤Ag6 p.cloud d))),flat:=true } z0)))<|sn<|rT<|qR (.b (decide (0≤Ag6 p.cloud d))) (.eq (by unfold D7;rw[Classical.not_not.1 h0,decide_eq_false h3,B6g];simp))
end Go.Proofs.YtphcaholhacnpaaGreat
namespace Go.Proofs.YtphcaholhacnpaaGreat
open Go.E
set_option maxRecDepth 100000
set_option maxHeartbeats 4000000
def B4l(T:Nat→List Run)(r:Nat):List Run:=nrm (T r)
theorem S7(r:Run)(R:List Run)(n:Int):inR (r :: R) n↔(r.lo≤n∧n≤r.hi)∨inR R n:=by simp [inR]
theorem B4m{l:List Run}(h:U5 l):nrm l=l:=by
 refine A1l (E5 l) h fun n=>?_
 rw[V8]
 constructor
 ·exact fun k=>k.2.2
 ·rintro⟨r,hr,h1,h2⟩
  have:=h.2 r hr
  exact⟨by omega,by omega,r,hr,h1,h2⟩
theorem B2i:B7 []=(0,[]):=rfl
theorem Av4(l:List Run):nrm (nrm l)=nrm l:=B4m (E5 l)
theorem Ag7(T:Nat→List Run):I9 (B4l T)=I9 T:=by
 have h1:∀ r,Z9 (B4l T) r=Z9 T r:=fun r=>by unfold Z9 B4l;rw[Av4]
 have h2:∀ r,U3 (B4l T) r=U3 T r:=fun r=>by unfold U3 B4l;rw[Av4]
 have h3:∀ n,szT (B4l T) n=szT T n:=fun n=>by
  induction n with
  | zero=>rfl
  | succ n ih=>rw[szT,szT,h1,ih]
 have h4:∀ n,H3 (B4l T) n=H3 T n:=fun n=>by
  induction n with
  | zero=>rfl
  | succ n ih=>rw[H3,H3,h2,ih]
 have h5:A75 (B4l T) 16=A75 T 16:=by
  unfold A75
  congr 1
  exact List.map_congr_left fun r _=>h1 r
 unfold I9
 rw[h3,h4,h5]
theorem B6h {l : List Run} (h : U5 l) {n : Int} (hn : 1 ≤ n) : inR l n ↔ n ≤ (B7 l).1 ∨ inR (B7 l).2 n := by
  cases l with
  | nil => rw [B2i]; simp only [inR]; constructor
           · rintro⟨r,hr,_⟩;cases hr
           · rintro (k | ⟨r, hr, _⟩)
             · omega
             · cases hr
  | cons x l =>
    rw[S7]
    unfold B7
    by_cases hx:x.lo=1
    · rw [if_neg (by simpa using hx)]
      show _↔n≤x.hi∨inR l n
      constructor
      · rintro (k | k)
        · exact .inl k.2
        · exact .inr k
      · rintro (k | k)
        · exact .inl ⟨by omega,k⟩
        · exact .inr k
    · rw [if_pos (.inr (by simpa using hx))]
      show _↔n≤0∨inR (x :: l) n
      rw[S7]
      constructor
      · exact fun k=>.inr k
      · rintro (k | k)
        · omega
        · exact k
theorem A3e(T:Nat→List Run):∀ n:Nat,0≤szT T n∧szT T n≤n∧∀ r:Nat,r < n→szT T n≤r→¬ 0 < Z9 T r
 | 0=>⟨by simp [szT],by simp [szT],fun r hr=>by omega⟩
 | n+1=>by
  obtain⟨h1,h2,h3⟩:=A3e T n
  rw[szT]
  split
  ·exact⟨by omega,by omega,fun r hr k=>by omega⟩
  ·rename_i hn
   refine⟨h1,by omega,fun r hr k=>?_⟩
   by_cases e:r=n
   ·rw[e];exact hn
   ·exact h3 r (by omega) k
theorem A3f(T:Nat→List Run)(s:Span):∀ n:Nat,s∈H3 T n↔∃ r:Nat,r < n∧s∈U3 T r
 | 0=>by simp [H3]
 | n+1=>by
  rw[H3,List.mem_append,A3f T s n]
  constructor
  ·rintro(⟨r,h1,h2⟩ | h)
   ·exact⟨r,by omega,h2⟩
   ·exact⟨n,by omega,h⟩
  ·rintro⟨r,h1,h2⟩
   by_cases e:r=n
   ·exact .inr (e ▸ h2)
   ·exact .inl ⟨r,by omega,h2⟩
theorem B4n(T:Nat→List Run){r:Nat}(h:(r:Int) < szT T 16):(I9 T).vec[r]! = Z9 T r∧r <(I9 T).vec.length:=by
 have h2:=(A3e T 16).2.1
 have hl:(A75 T 16).length=16:=by simp [A75]
 have hr:r <((A75 T 16).take (szT T 16).toNat).length:=by rw[List.length_take,hl];omega
 refine⟨?_,hr⟩
 show((A75 T 16).take (szT T 16).toNat)[r]! = _
 rw[getElem!_pos ((A75 T 16).take (szT T 16).toNat) r hr,List.getElem_take]
 unfold A75
 rw[List.getElem_append_left (by simp;omega)]
 simp
theorem Av5(T:Nat→List Run):((I9 T).vec.length:Int)=szT T 16:=by
 have h2:=A3e T 16
 show(((A75 T 16).take (szT T 16).toNat).length:Int)=_
 rw[List.length_take]
 simp [A75]
 omega
theorem P6(T:Nat→List Run)(d:Dot):D7 (I9 T) d=true↔U6 d=true∧inR (T d.rep.toNat) d.num:=by
 unfold D7
 rw[Bool.and_eq_true]
 refine and_congr_right fun hd=>?_
 have hb:=F9 hd
 have e1:inR (T d.rep.toNat) d.num↔inR (nrm (T d.rep.toNat)) d.num:=by
  rw[V8]
  exact⟨fun k=>⟨by omega,by omega,k⟩,fun k=>k.2.2⟩
 rw[e1,B6h (E5 _) (by omega),Bool.or_eq_true,decide_eq_true_eq]
 refine or_congr ?_ ?_
 ·rw[Av5]
  constructor
  ·rintro⟨h1,h2⟩
   have:=(B4n T (r:=d.rep.toNat) (by omega)).1
   rw[this]at h2
   exact h2
  ·intro k
   have k:d.num≤Z9 T d.rep.toNat:=k
   have h1:d.rep < szT T 16:=by
    apply Classical.byContradiction
    intro hn
    have:=(A3e T 16).2.2 d.rep.toNat (by omega) (by omega)
    omega
   refine⟨h1,?_⟩
   rw[(B4n T (r:=d.rep.toNat) (by omega)).1]
   exact k
 ·rw[List.any_eq_true]
  unfold A76
  constructor
  ·rintro⟨s,hs,h⟩
   rw[decide_eq_true_eq]at h
   obtain⟨r,hr,hs⟩:=(A3f T s 16).1 hs
   unfold U3 at hs
   obtain⟨x,hx,rfl⟩:=List.mem_map.1 hs
   simp only at h
   have:r=d.rep.toNat:=by omega
   subst this
   exact⟨x,hx,h.2.1,h.2.2⟩
  ·rintro⟨x,hx,h1,h2⟩
   refine⟨⟨d.rep.toNat,x.lo,x.hi⟩,(A3f T _ 16).2 ⟨d.rep.toNat,by omega,List.mem_map.2 ⟨x,hx,rfl⟩⟩,?_⟩
   rw[decide_eq_true_eq]
   exact⟨by show((d.rep.toNat:Nat):Int)=d.rep;omega,h1,h2⟩
theorem A6j(a b:List Run)(n:Int):inR (a++b) n↔inR a n∨inR b n:=by
 unfold inR
 constructor
 ·rintro⟨y,hy,h⟩
  rcases List.mem_append.1 hy with hy | hy
  ·exact .inl ⟨y,hy,h⟩
  ·exact .inr ⟨y,hy,h⟩
 ·rintro(⟨y,hy,h⟩ | ⟨y,hy,h⟩)
  ·exact⟨y,List.mem_append.2 (.inl hy),h⟩
  ·exact⟨y,List.mem_append.2 (.inr hy),h⟩
theorem B6i{p:Past}{d:Dot}(hd:U6 d=true):inR (Am7 p.vec d.rep.toNat) d.num↔(d.rep < p.vec.length∧d.num≤p.vec[d.rep.toNat]!):=by
 have hb:=F9 hd
 unfold Am7 inR
 split
 ·simp only [List.mem_singleton,exists_eq_left]
  constructor
  ·exact fun k=>⟨by omega,k.2⟩
  ·exact fun k=>⟨by omega,k.2⟩
 ·constructor
  ·rintro⟨r,hr,_⟩;cases hr
  ·rintro⟨h,_⟩;omega
theorem Av6{p:Past}{d:Dot}(hd:U6 d=true):inR (O9 p.cloud d.rep.toNat) d.num↔(p.cloud.any fun s=>A76 s d)=true:=by
 have hb:=F9 hd
 rw[List.any_eq_true]
 unfold inR O9 A76
 constructor
 ·rintro⟨x,hx,h1,h2⟩
  obtain⟨s,hs,rfl⟩:=List.mem_map.1 hx
  obtain⟨hs,hq⟩:=List.mem_filter.1 hs
  rw[decide_eq_true_eq]at hq
  exact⟨s,hs,by rw[decide_eq_true_eq];exact⟨by omega,h1,h2⟩⟩
 ·rintro⟨s,hs,h⟩
  rw[decide_eq_true_eq]at h
  exact⟨⟨s.lo,s.hi⟩,List.mem_map.2 ⟨s,List.mem_filter.2 ⟨hs,by rw[decide_eq_true_eq];omega⟩,rfl⟩,h.2.1,h.2.2⟩
theorem B4o(p:Past)(d:Dot):D7 p d=true↔U6 d=true∧(inR (Am7 p.vec d.rep.toNat) d.num∨inR (O9 p.cloud d.rep.toNat) d.num):=by
 unfold D7
 rw[Bool.and_eq_true]
 refine and_congr_right fun hd=>?_
 rw[B6i hd,Av6 hd,Bool.or_eq_true,decide_eq_true_eq]
theorem Ag8(ps:List Past)(d:Dot):D7 (I9 (C4 ps)) d=true↔∃ p∈ps,D7 p d=true:=by
 rw[P6]
 have e:inR (C4 ps d.rep.toNat) d.num↔∃ p∈ps,inR (Am7 p.vec d.rep.toNat++O9 p.cloud d.rep.toNat) d.num:=by
  unfold inR C4
  constructor
  ·rintro⟨r,hr,h⟩
   obtain⟨l,hl,hr⟩:=List.mem_flatten.1 hr
   obtain⟨p,hp,rfl⟩:=List.mem_map.1 hl
   exact⟨p,hp,r,hr,h⟩
  ·rintro⟨p,hp,r,hr,h⟩
   exact⟨r,List.mem_flatten.2 ⟨_,List.mem_map.2 ⟨p,hp,rfl⟩,hr⟩,h⟩
 rw[e]
 constructor
 ·rintro⟨hd,p,hp,h⟩
  rw[A6j]at h
  exact⟨p,hp,(B4o p d).2 ⟨hd,h⟩⟩
 ·rintro⟨p,hp,h⟩
  have:=(B4o p d).1 h
  exact⟨this.1,p,hp,(A6j _ _ _).2 this.2⟩
theorem K8(p:Past)(d:Dot):D7 (A4 p) d=D7 p d:=by
 rw[Bool.eq_iff_iff]
 unfold A4
 rw[Ag8]
 simp
theorem B4p(ds:List Dot)(d:Dot):D7 (I9 (ofT ds)) d=true↔U6 d=true∧d∈ds:=by
 rw[P6]
 refine and_congr_right fun hd=>?_
 have hb:=F9 hd
 unfold inR ofT
 constructor
 ·rintro⟨x,hx,h1,h2⟩
  obtain⟨y,hy,rfl⟩:=List.mem_map.1 hx
  obtain⟨hy,hq⟩:=List.mem_filter.1 hy
  rw[Bool.and_eq_true,decide_eq_true_eq]at hq
  simp only at h1 h2
  have:y=d:=by
   cases y;cases d
   simp only at *
   congr 1
   ·omega
   ·omega
  exact this ▸ hy
 ·intro h
  exact⟨⟨d.num,d.num⟩,List.mem_map.2 ⟨d,List.mem_filter.2 ⟨h,by rw[Bool.and_eq_true,decide_eq_true_eq];exact⟨hd,by omega⟩⟩,rfl⟩,Int.le_refl _,Int.le_refl _⟩
theorem B6j{T U:Nat→List Run}(h:∀ d,D7 (I9 T) d=true↔D7 (I9 U) d=true):I9 T=I9 U:=by
 rw[← Ag7 T,← Ag7 U]
 refine X6 fun r hr=>?_
 refine A1l (E5 _) (E5 _) fun n=>?_
 show inR (nrm _) n↔inR (nrm _) n
 rw[V8,V8]
 refine and_congr_right fun n0=>and_congr_right fun n1=>?_
 have hd:U6 ⟨r,n⟩=true:=by unfold U6;rw[decide_eq_true_eq];simp only;omega
 have:=h ⟨r,n⟩
 rw[P6,P6]at this
 simp only [hd,true_and]at this
 exact this
theorem A2h(T:Nat→List Run):A4 (I9 T)=I9 T:=B6j fun d=>by
 have:=K8 (I9 T) d
 unfold A4 at this
 rw[this]
theorem Av7(p:Past):A4 (A4 p)=A4 p:=A2h _
theorem X7(T:Nat→List Run):(I9 T).cloud.length≤8000000000∧(I9 T).vec.length≤16:=by
 have h1:=A3b T 16
 have h2:=Av5 T
 have h3:=(A3e T 16).2.1
 exact⟨by show(H3 T 16).length≤_;omega,by omega⟩
end Go.Proofs.YtphcaholhacnpaaGreat
namespace Go.Proofs.YtphcaholhacnpaaGreat
open Go.E
set_option maxRecDepth 100000
set_option maxHeartbeats 4000000
def P7:List Run→List Run→List Run
 | x :: a,y :: b=>(if max x.lo y.lo≤min x.hi y.hi then[⟨max x.lo y.lo,min x.hi y.hi⟩]else[])++(if x.hi < y.hi then P7 a (y :: b)else P7 (x :: a) b)
 | _,_=>[]
termination_by a b=>a.length+b.length
theorem N6(b:List Run):P7 [] b=[]:=by unfold P7;rfl
theorem X8(a:List Run):P7 a []=[]:=by unfold P7;cases a <;> rfl
theorem X9(x y:Run)(a b:List Run):P7 (x :: a) (y :: b)=(if max x.lo y.lo≤min x.hi y.hi then[⟨max x.lo y.lo,min x.hi y.hi⟩]else[])++(if x.hi < y.hi then P7 a (y :: b)else P7 (x :: a) b):=by rw[P7]
def A27:Int→List Run→List Run
 | n,[]=>if n≤1000000000 then[⟨n,1000000000⟩]else[]
 | n,r :: l=>(if n < r.lo then[⟨n,r.lo-1⟩]else[])++A27 (r.hi+1) l
def A8c(a b:List Run):List Run:=P7 (nrm a) (nrm (A27 1 (nrm b)))
def metR(a b:List Run):List Run:=P7 (nrm a) (nrm b)
theorem H8{x:Run}{a:List Run}(h:U5 (x :: a)):U5 a:=⟨(List.pairwise_cons.1 h.1).2,fun r hr=>h.2 r (by simp [hr])⟩
theorem Ab0{x:Run}{a:List Run}(h:U5 (x :: a)){n:Int}(k:inR a n):x.hi+1 < n:=by
 obtain⟨r,hr,h1,_⟩:=k
 have:=(List.pairwise_cons.1 h.1).1 r hr
 omega
theorem Av8(c:Prop)[Decidable c](r:Run)(n:Int):inR (if c then[r]else[]) n↔c∧r.lo≤n∧n≤r.hi:=by
 split <;> simp [inR, *]
theorem B2j:∀(k:Nat) (a b:List Run),a.length+b.length≤k→U5 a→U5 b→∀ n,inR (P7 a b) n↔inR a n∧inR b n:=by
 intro k
 induction k with
 | zero =>
  intro a b hk _ _ n
  have:a=[]:=List.eq_nil_of_length_eq_zero (by omega)
  subst this
  rw[N6]
  simp [inR]
 | succ k ih =>
  intro a b hk ha hb n
  cases a with
  | nil=>rw[N6];simp [inR]
  | cons x a =>
   cases b with
   | nil=>rw[X8];simp [inR]
   | cons y b =>
    have hx:=ha.2 x (by simp)
    have hy:=hb.2 y (by simp)
    have la:inR a n→x.hi+1 < n:=Ab0 ha
    have lb:inR b n→y.hi+1 < n:=Ab0 hb
    simp only [List.length_cons]at hk
    rw[X9,A6j,Av8]
    split
    ·rw[ih a (y :: b) (by simp only [List.length_cons];omega) (H8 ha) hb n,S7,S7]
     simp only
     constructor
     ·rintro(h | ⟨h1,h2⟩)
      ·exact⟨.inl (by omega),.inl (by omega)⟩
      ·exact⟨.inr h1,h2⟩
     ·rintro⟨h1 | h1,h2 | h2⟩
      ·exact .inl (by omega)
      ·have:=lb h2;omega
      ·exact .inr ⟨h1,.inl h2⟩
      ·exact .inr ⟨h1,.inr h2⟩
    ·rw[ih (x :: a) b (by simp only [List.length_cons];omega) ha (H8 hb) n,S7,S7]
     simp only
     constructor
     ·rintro(h | ⟨h1,h2⟩)
      ·exact⟨.inl (by omega),.inl (by omega)⟩
      ·exact⟨h1,.inr h2⟩
     ·rintro⟨h1 | h1,h2 | h2⟩
      ·exact .inl (by omega)
      ·exact .inr ⟨.inl h1,h2⟩
      ·have:=la h1;omega
      ·exact .inr ⟨.inr h1,h2⟩
theorem A8d:∀(k:Nat) (a b:List Run),a.length+b.length≤k→∀ r∈P7 a b,r.lo≤r.hi∧(∃ x∈a,x.lo≤r.lo∧r.hi≤x.hi)∧∃ y∈b,y.lo≤r.lo∧r.hi≤y.hi:=by
 intro k
 induction k with
 | zero =>
  intro a b hk r hr
  have:a=[]:=List.eq_nil_of_length_eq_zero (by omega)
  subst this
  rw[N6]at hr
  cases hr
 | succ k ih =>
  intro a b hk r hr
  cases a with
  | nil=>rw[N6]at hr;cases hr
  | cons x a =>
   cases b with
   | nil=>rw[X8]at hr;cases hr
   | cons y b =>
    simp only [List.length_cons]at hk
    rw[X9]at hr
    rcases List.mem_append.1 hr with hr | hr
    ·split at hr
     ·have:r=⟨max x.lo y.lo,min x.hi y.hi⟩:=by simpa using hr
      subst this
      exact⟨by simp only;omega,⟨x,by simp,by simp only;omega,by simp only;omega⟩,⟨y,by simp,by simp only;omega,by simp only;omega⟩⟩
     ·cases hr
    ·split at hr
     ·obtain⟨h0,⟨x',hx,h1⟩,h2⟩:=ih a (y :: b) (by simp only [List.length_cons];omega) r hr
      exact⟨h0,⟨x',by simp [hx],h1⟩,h2⟩
     ·obtain⟨h0,h1,⟨y',hy,h2⟩⟩:=ih (x :: a) b (by simp only [List.length_cons];omega) r hr
      exact⟨h0,h1,⟨y',by simp [hy],h2⟩⟩
theorem Av9:∀(k:Nat) (a b:List Run),a.length+b.length≤k→U5 a→U5 b→U5 (P7 a b):=by
 intro k
 induction k with
 | zero =>
  intro a b hk _ _
  have:a=[]:=List.eq_nil_of_length_eq_zero (by omega)
  subst this
  rw[N6]
  exact X3
 | succ k ih =>
  intro a b hk ha hb
  cases a with
  | nil=>rw[N6];exact X3
  | cons x a =>
   cases b with
   | nil=>rw[X8];exact X3
   | cons y b =>
    simp only [List.length_cons]at hk
    have hx:=ha.2 x (by simp)
    have hy:=hb.2 y (by simp)
    have pa:=(List.pairwise_cons.1 ha.1).1
    have pb:=(List.pairwise_cons.1 hb.1).1
    rw[X9]
    have key:∀ m:List Run,U5 m→(∀ r∈m,min x.hi y.hi+1 < r.lo)→U5 ((if max x.lo y.lo≤min x.hi y.hi then[(⟨max x.lo y.lo,min x.hi y.hi⟩:Run)]else[])++m):=by
     intro m hm hlt
     split
     ·refine⟨List.pairwise_append.2 ⟨by simp,hm.1,fun u hu v hv=>?_⟩,fun r hr=>?_⟩
      ·have:u=⟨max x.lo y.lo,min x.hi y.hi⟩:=by simpa using hu
       subst this
       exact hlt v hv
      ·rcases List.mem_append.1 hr with hr | hr
       ·have:r=⟨max x.lo y.lo,min x.hi y.hi⟩:=by simpa using hr
        subst this
        simp only
        omega
       ·exact hm.2 r hr
     ·exact hm
    by_cases hd:x.hi < y.hi
    ·rw[if_pos hd]
     refine key _ (ih a (y :: b) (by simp only [List.length_cons];omega) (H8 ha) hb) fun r hr=>?_
     obtain⟨_,⟨x',hx',h1,_⟩,_⟩:=A8d _ a (y :: b) (Nat.le_refl _) r hr
     have:=pa x' hx'
     omega
    ·rw[if_neg hd]
     refine key _ (ih (x :: a) b (by simp only [List.length_cons];omega) ha (H8 hb)) fun r hr=>?_
     obtain⟨_,_,⟨y',hy',h1,_⟩⟩:=A8d _ (x :: a) b (Nat.le_refl _) r hr
     have:=pb y' hy'
     omega
theorem Aw0 : ∀ (l : List Run) (n:Int), U5 l → (∀ r ∈ l, n ≤ r.lo) → ∀ k, inR (A27 n l) k ↔ n ≤ k ∧ k ≤ 1000000000 ∧ ¬ inR l k
  | [], n, _, _, k => by
    unfold A27
    rw[Av8]
    simp only [inR,List.not_mem_nil,false_and,exists_false,not_false_eq_true,and_true]
    omega
  | r :: l, n, h, hn, k => by
    have hr:=h.2 r (by simp)
    have h1:=hn r (by simp)
    have pa:=(List.pairwise_cons.1 h.1).1
    have ih:=Aw0 l (r.hi+1) (H8 h) (fun x hx=>by have:=pa x hx;omega) k
    have lt:inR l k→r.hi+1 < k:=Ab0 h
    rw[A27,A6j,Av8,ih,S7]
    simp only
    constructor
    · rintro (g | ⟨g1, g2, g3⟩)
      · exact ⟨by omega, by omega, fun c => by rcases c with c | c; · omega
                                               · have:=lt c;omega⟩
      · exact ⟨by omega, by omega, fun c => by rcases c with c | c; · omega
                                               · exact g3 c⟩
    · rintro ⟨g1, g2, g3⟩
      by_cases e:k < r.lo
      · exact .inl ⟨by omega,by omega,by omega⟩
      · exact .inr ⟨by apply Classical.byContradiction;intro c;exact g3 (.inl ⟨by omega,by omega⟩),g2,fun c=>g3 (.inr c)⟩
theorem Aw1:∀(l:List Run) (n:Int),U5 l→(∀ r∈l,n≤r.lo)→∀ r∈A27 n l,n≤r.lo∧r.lo≤r.hi∧r.hi≤1000000000
 | [],n,_,_,r,hr=>by
  unfold A27 at hr
  split at hr
  ·have:r=⟨n,1000000000⟩:=by simpa using hr
   subst this
   simp only
   omega
  ·cases hr
 | x :: l,n,h,hn,r,hr=>by
  have hx:=h.2 x (by simp)
  have h1:=hn x (by simp)
  have pa:=(List.pairwise_cons.1 h.1).1
  rw[A27]at hr
  rcases List.mem_append.1 hr with hr | hr
  ·split at hr
   ·have:r=⟨n,x.lo-1⟩:=by simpa using hr
    subst this
    simp only
    omega
   ·cases hr
  ·have:=Aw1 l (x.hi+1) (H8 h) (fun y hy=>by have:=pa y hy;omega) r hr
   omega
theorem Ag9 : ∀ (l : List Run) (n:Int), 1 ≤ n → U5 l → (∀ r ∈ l, n ≤ r.lo) → U5 (A27 n l)
  | [], n, h1, _, _ => by
    unfold A27
    split
    · exact ⟨by simp, fun r hr => by have : r = ⟨n, 1000000000⟩ := by simpa using hr
                                     subst this;simp only;omega⟩
    · exact X3
  | x :: l, n, h0, h, hn => by
    have hx:=h.2 x (by simp)
    have h1:=hn x (by simp)
    have pa:=(List.pairwise_cons.1 h.1).1
    have hp:∀ r∈l,x.hi+1≤r.lo:=fun y hy=>by have:=pa y hy;omega
    have ih:=Ag9 l (x.hi+1) (by omega) (H8 h) hp
    have lo:=Aw1 l (x.hi+1) (H8 h) hp
    rw[A27]
    split
    · refine ⟨List.pairwise_append.2 ⟨by simp, ih.1, fun u hu v hv => ?_⟩, fun r hr => ?_⟩
      · have : u = ⟨n, x.lo - 1⟩ := by simpa using hu
        subst this
        have:=lo v hv
        simp only
        omega
      · rcases List.mem_append.1 hr with hr | hr
        · have : r = ⟨n, x.lo - 1⟩ := by simpa using hr
          subst this
          simp only
          omega
        · exact ih.2 r hr
    · exact ih
theorem Aw2(b:List Run):U5 (A27 1 (nrm b)):=Ag9 _ _ (Int.le_refl _) (E5 b) fun r hr=>((E5 b).2 r hr).1
theorem B2k(a b:List Run):U5 (A8c a b):=Av9 _ _ _ (Nat.le_refl _) (E5 _) (E5 _)
theorem B6k(a b:List Run)(n:Int):inR (A8c a b) n↔inR (nrm a) n∧¬ inR (nrm b) n:=by
 unfold A8c
 rw[B2j _ _ _ (Nat.le_refl _) (E5 _) (E5 _) n,B4m (Aw2 b),Aw0 _ _ (E5 b) (fun r hr=>((E5 b).2 r hr).1)]
 refine and_congr_right fun h=>?_
 rw[V8]at h
 exact⟨fun k=>k.2.2,fun k=>⟨h.1,h.2.1,k⟩⟩
theorem B2l(a b:List Run):(A8c a b).length≤500000000:=X4 (B2k a b)
def F1(a b:Past):Past:=I9 fun r=>A8c (C4 [a] r) (C4 [b] r)
def D8(ps:List Past):Past:=I9 (C4 ps)
theorem A6k(a b:Past)(d:Dot):D7 (F1 a b) d=(D7 a d && !D7 b d):=by
 rw[Bool.eq_iff_iff,F1,P6,B6k,Bool.and_eq_true,Bool.not_eq_true',← K8 a d,← K8 b d]
 unfold A4
 rw[P6,← Bool.not_eq_true,P6]
 constructor
 ·rintro⟨h,h1,h2⟩
  have hb:=F9 h
  rw[V8]at h1 h2
  exact⟨⟨h,h1.2.2⟩,fun k=>h2 ⟨by omega,by omega,k.2⟩⟩
 ·rintro⟨⟨h,h1⟩,h2⟩
  have hb:=F9 h
  rw[V8,V8]
  exact⟨h,⟨by omega,by omega,h1⟩,fun k=>h2 ⟨h,k.2.2⟩⟩
theorem B2m(ps:List Past)(d:Dot):D7 (D8 ps) d=ps.any fun p=>D7 p d:=by
 rw[Bool.eq_iff_iff,D8,Ag8,List.any_eq_true]
theorem An0(a b:Past):F1 a b=A4 (F1 a b):=(A2h _).symm
theorem Aw3(ps:List Past):D8 ps=A4 (D8 ps):=(A2h _).symm
end Go.Proofs.YtphcaholhacnpaaGreat
namespace Go.Proofs.YtphcaholhacnpaaGreat
open Go.E
set_option maxRecDepth 100000
set_option maxHeartbeats 4000000
def N7(a b:Int):Int:=if a < b then -1 else if b < a then 1 else 0
def A9e(u v:List Int):Nat→Nat→Int
 | _,0=>0
 | r,k+1=>if u[r]! = v[r]! then A9e u v (r+1) k else N7 u[r]! v[r]!
def A6l(s t:Span):Int:=if N7 s.rep t.rep≠0 then N7 s.rep t.rep else if N7 s.lo t.lo≠0 then N7 s.lo t.lo else N7 s.hi t.hi
def Q0:List Span→List Span→Int
 | [],[]=>0
 | [],_ :: _=>-1
 | _ :: _,[]=>1
 | s :: a,t :: b=>if A6l s t≠0 then A6l s t else Q0 a b
def cmpQ(x y:Past):Int:=if A9e x.vec y.vec 0 16≠0 then A9e x.vec y.vec 0 16 else Q0 x.cloud y.cloud
def B10(p q:Past):Int:=cmpQ (A4 p) (A4 q)
structure Ord3 {α:Type} (c:α→α→Int):Prop where
 rng:∀ x y,c x y=-1∨c x y=0∨c x y=1
 neg:∀ x y,c y x=-(c x y)
 tr:∀ x y z,c x y≤0→c y z≤0→c x z≤0
 tr0:∀ x y z,c x y=0→c y z=0→c x z=0
theorem Ord3.lt{α:Type}{c:α→α→Int}(h:Ord3 c){x y z:α}(h1:c x y < 0)(h2:c y z≤0):c x z < 0:=by
 have h3:=h.tr x y z (by omega) h2
 apply Classical.byContradiction
 intro h4
 have h5:c x z=0:=by omega
 have h6:c z x=0:=by rw[h.neg x z];omega
 have h7:=h.tr y z x h2 (by omega)
 have:=h.neg x y
 omega
theorem Ord3.lt'{α:Type}{c:α→α→Int}(h:Ord3 c){x y z:α}(h1:c x y≤0)(h2:c y z < 0):c x z < 0:=by
 have h3:=h.tr x y z h1 (by omega)
 apply Classical.byContradiction
 intro h4
 have h5:c x z=0:=by omega
 have h6:c z x=0:=by rw[h.neg x z];omega
 have h7:=h.tr z x y (by omega) h1
 have:=h.neg y z
 omega
theorem ordI:Ord3 N7:=by
 refine⟨fun x y=>?_,fun x y=>?_,fun x y z=>?_,fun x y z=>?_⟩ <;> unfold N7 <;>(repeat' split) <;> omega
theorem A0n{α β γ:Type}{c:β→β→Int}{d:γ→γ→Int}(hc:Ord3 c)(hd:Ord3 d)(f:α→β)(g:α→γ):Ord3 (fun x y=>if c (f x) (f y)≠0 then c (f x) (f y)else d (g x) (g y)):=by
 refine⟨fun x y=>?_,fun x y=>?_,fun x y z=>?_,fun x y z=>?_⟩
 ·split
  ·exact hc.rng _ _
  ·exact hd.rng _ _
 ·have h1:=hc.neg (f x) (f y)
  have h2:=hd.neg (g x) (g y)
  split <;> split <;> omega
 ·intro h1 h2
  have b1:=hc.neg (f x) (f y)
  by_cases e1:c (f x) (f y)=0
  ·rw[if_neg (by simpa using e1)]at h1
   by_cases e2:c (f y) (f z)=0
   ·rw[if_neg (by simpa using e2)]at h2
    rw[if_neg (by simpa using hc.tr0 _ _ _ e1 e2)]
    exact hd.tr _ _ _ h1 h2
   ·rw[if_pos e2]at h2
    have:=hc.lt' (x:=f x) (y:=f y) (z:=f z) (by omega) (by omega)
    rw[if_pos (by omega)]
    omega
  ·rw[if_pos e1]at h1
   have h2':c (f y) (f z)≤0:=by
    by_cases e2:c (f y) (f z)=0
    ·omega
    ·rw[if_pos e2]at h2;exact h2
   have:=hc.lt (x:=f x) (y:=f y) (z:=f z) (by omega) h2'
   rw[if_pos (by omega)]
   omega
 ·intro h1 h2
  have e1:c (f x) (f y)=0:=by
   apply Classical.byContradiction
   intro e
   rw[if_pos e]at h1
   exact e h1
  have e2:c (f y) (f z)=0:=by
   apply Classical.byContradiction
   intro e
   rw[if_pos e]at h2
   exact e h2
  rw[if_neg (by simpa using e1)]at h1
  rw[if_neg (by simpa using e2)]at h2
  rw[if_neg (by simpa using hc.tr0 _ _ _ e1 e2)]
  exact hd.tr0 _ _ _ h1 h2
theorem A3g{a b:Int}:N7 a b=0↔a=b:=by unfold N7;split <;>(try split) <;> omega
theorem ordF(k:Nat):∀ r:Nat,Ord3 fun u v:List Int=>A9e u v r k:=by
 induction k with
 | zero=>exact fun r=>⟨fun _ _=>.inr (.inl rfl),fun _ _=>rfl,fun _ _ _ _ _=>Int.le_refl _,fun _ _ _ _ _=>rfl⟩
 | succ k ih =>
  intro r
  have h:=A0n ordI (ih (r+1)) (fun u:List Int=>u[r]!) (fun u=>u)
  have e:(fun u v:List Int=>A9e u v r (k+1))=fun u v=>if N7 u[r]! v[r]!≠0 then N7 u[r]! v[r]! else A9e u v (r+1) k:=by
   funext u v
   rw[A9e]
   by_cases e:u[r]! = v[r]!
   ·rw[if_pos e,if_neg (by rw[A3g.2 e];simp)]
   ·rw[if_neg e,if_pos (fun k=>e (A3g.1 k))]
  rw[e]
  exact h
theorem B87:Ord3 A6l:=A0n ordI (A0n ordI ordI (fun s:Span=>s.lo) (fun s:Span=>s.hi)) (fun s:Span=>s.rep) (fun s=>s)
theorem ordC:Ord3 Q0:=by
 refine⟨fun x=>?_,fun x=>?_,fun x=>?_,fun x=>?_⟩
 ·induction x with
  | nil=>intro y;cases y <;> simp [Q0]
  | cons s a ih =>
   intro y
   cases y with
   | nil=>simp [Q0]
   | cons t b =>
    rw[Q0]
    split
    ·exact B87.rng _ _
    ·exact ih b
 ·induction x with
  | nil=>intro y;cases y <;> simp [Q0]
  | cons s a ih =>
   intro y
   cases y with
   | nil=>simp [Q0]
   | cons t b =>
    rw[Q0,Q0]
    have h1:=B87.neg s t
    have h2:=ih b
    split <;> split <;> omega
 ·induction x with
  | nil=>intro y z _ _;cases z <;> simp [Q0]
  | cons s a ih =>
   intro y z h1 h2
   cases y with
   | nil=>simp [Q0]at h1
   | cons t b =>
    cases z with
    | nil=>simp [Q0]at h2
    | cons r d =>
     rw[Q0]at h1 h2 ⊢
     by_cases e1:A6l s t=0
     ·rw[if_neg (by simpa using e1)]at h1
      by_cases e2:A6l t r=0
      ·rw[if_neg (by simpa using e2)]at h2
       rw[if_neg (by simpa using B87.tr0 _ _ _ e1 e2)]
       exact ih b d h1 h2
      ·rw[if_pos e2]at h2
       have:=B87.lt' (x:=s) (y:=t) (z:=r) (by omega) (by omega)
       rw[if_pos (by omega)]
       omega
     ·rw[if_pos e1]at h1
      have h2':A6l t r≤0:=by
       by_cases e2:A6l t r=0
       ·omega
       ·rw[if_pos e2]at h2;exact h2
      have:=B87.lt (x:=s) (y:=t) (z:=r) (by omega) h2'
      rw[if_pos (by omega)]
      omega
 ·induction x with
  | nil =>
   intro y z h1 h2
   cases y with
   | nil=>exact h2
   | cons t b=>simp [Q0]at h1
  | cons s a ih =>
   intro y z h1 h2
   cases y with
   | nil=>simp [Q0]at h1
   | cons t b =>
    cases z with
    | nil=>simp [Q0]at h2
    | cons r d =>
     rw[Q0]at h1 h2 ⊢
     have e1:A6l s t=0:=by
      apply Classical.byContradiction
      intro e
      rw[if_pos e]at h1
      exact e h1
     have e2:A6l t r=0:=by
      apply Classical.byContradiction
      intro e
      rw[if_pos e]at h2
      exact e h2
     rw[if_neg (by simpa using e1)]at h1
     rw[if_neg (by simpa using e2)]at h2
     rw[if_neg (by simpa using B87.tr0 _ _ _ e1 e2)]
     exact ih b d h1 h2
theorem ordQ:Ord3 cmpQ:=A0n (ordF 16 0) ordC (fun p:Past=>p.vec) (fun p=>p.cloud)
theorem ordP:Ord3 B10:=⟨fun _ _=>ordQ.rng _ _,fun _ _=>ordQ.neg _ _,fun _ _ _=>ordQ.tr _ _ _,fun _ _ _=>ordQ.tr0 _ _ _⟩
end Go.Proofs.YtphcaholhacnpaaGreat
namespace Go.Proofs.YtphcaholhacnpaaGreat
open Go.E
set_option maxRecDepth 100000
set_option maxHeartbeats 4000000
def orI(v:List Int):Int:=(v.find? fun x=>decide (¬ x=0)).getD 0
def B6l(v:List Int)(i:Int):Prop:=0≤i∧i≤v.length∧∀ j:Nat,(j:Int) < i→v[j]! = 0
def decOr(v:List Int)(i:Int):Nat:=(v.length-i).toNat
theorem or_at{v:List Int}:∀ {i:Nat},i < v.length→¬ v[i]! = 0→(∀ j:Nat,j < i→v[j]! = 0)→orI v=v[i]!:=by
 intro i hi h hn
 unfold orI
 have:v.find? (fun x=>decide (¬ x=0))=some v[i]!:=by
  rw[getElem!_pos v i hi]at h ⊢
  rw[List.find?_eq_some_iff_getElem]
  refine⟨by simpa using h,i,hi,rfl,fun j hj=>?_⟩
  have:=hn j hj
  rw[getElem!_pos v j (by omega)]at this
  simpa using this
 rw[this];rfl
theorem or_no{v:List Int}(h:∀ j:Nat,j < v.length→v[j]! = 0):orI v=0:=by
 unfold orI
 rw[List.find?_eq_none.2]
 ·rfl
 ·intro x hx
  obtain⟨j,hj,rfl⟩:=List.mem_iff_getElem.1 hx
  have:=h j hj
  rw[getElem!_pos v j hj]at this
  simpa using this
theorem B2n(s t:Span):orI [N7 s.rep t.rep,N7 s.lo t.lo,N7 s.hi t.hi]=A6l s t:=by
 unfold orI A6l
 by_cases h1:N7 s.rep t.rep=0
 ·by_cases h2:N7 s.lo t.lo=0
  ·by_cases h3:N7 s.hi t.hi=0 <;> simp [h1,h2,h3]
  ·simp [h1,h2]
 ·simp [h1]
def B2o(a b:List Span)(i:Int):Prop:=0≤i∧i≤a.length∧i≤b.length∧Q0 a b=Q0 (a.drop i.toNat) (b.drop i.toNat)
def decCf(a b:List Span)(i:Int):Nat:=(a.length-i).toNat
theorem An1{a:List Span}{i:Int}(h0:0≤i)(h:i < a.length):a.drop i.toNat=a[i.toNat]! :: a.drop (i+1).toNat:=by
 rw[show(i+1).toNat=i.toNat+1 by omega,getElem!_pos a i.toNat (by omega)]
 exact List.drop_eq_getElem_cons (by omega)
theorem B2p{a:List Span}{i:Int}(h:¬ i < a.length):a.drop i.toNat=[]:=List.drop_of_length_le (by omega)
theorem B6m{a b:List Span}{i:Int}(h0:0≤i)(ha:i < a.length)(hb:¬ i < b.length)(h:Q0 a b=Q0 (a.drop i.toNat) (b.drop i.toNat)):Q0 a b=1:=by
 rw[h,An1 h0 ha,B2p hb];rfl
theorem B6n{a b:List Span}{i:Int}(h0:0≤i)(ha:¬ i < a.length)(hb:i < b.length)(h:Q0 a b=Q0 (a.drop i.toNat) (b.drop i.toNat)):Q0 a b=-1:=by
 rw[h,An1 h0 hb,B2p ha];rfl
theorem B6o{a b:List Span}{i:Int}(ha:¬ i < a.length)(hb:¬ i < b.length)(h:Q0 a b=Q0 (a.drop i.toNat) (b.drop i.toNat)):Q0 a b=0:=by
 rw[h,B2p hb,B2p ha];rfl
theorem B6p{a b:List Span}{i:Int}(h0:0≤i)(ha:i < a.length)(hb:i < b.length)(hd:¬ A6l a[i.toNat]! b[i.toNat]! = 0)(h:Q0 a b=Q0 (a.drop i.toNat) (b.drop i.toNat)):Q0 a b=A6l a[i.toNat]! b[i.toNat]!:=by
 rw[h,An1 h0 ha,An1 h0 hb,Q0,if_pos hd]
theorem B6q{a b:List Span}{i:Int}(h0:0≤i)(ha:i < a.length)(hb:i < b.length)(hd:A6l a[i.toNat]! b[i.toNat]! = 0)(h:Q0 a b=Q0 (a.drop i.toNat) (b.drop i.toNat)):B2o a b (i+1):=by
 refine⟨by omega,by omega,by omega,?_⟩
 rw[h,An1 h0 ha,An1 h0 hb,Q0,if_neg (by simpa using hd)]
def Ap4(u v:List Int)(r:Int):Prop:=A9e u v 0 16=A9e u v r.toNat (16-r).toNat
def Ab1(x y:Past)(r:Int)(u:List Int)(c:List Span)(v:List Int)(d:List Span):Prop:=u=x.vec∧c=x.cloud∧v=y.vec∧d=y.cloud∧0≤r∧r≤16∧Ap4 x.vec y.vec r
def decCq(r:Int)(u:List Int)(c:List Span)(v:List Int)(d:List Span):Nat:=(16-r).toNat
def invCp(u v:List Int)(r:Int):Prop:=0≤r∧r≤16∧Ap4 u v r
theorem A1m{u:List Int}{r:Int}(h0:0≤r)(h:¬ r < u.length):u[r.toNat]! = 0:=by
 rw[getElem!_def,List.getElem?_eq_none (by omega)];rfl
theorem Aw4{u v:List Int}{r:Int}(h0:0≤r)(h1:r < 16)(h:Ap4 u v r):A9e u v 0 16=if u[r.toNat]! = v[r.toNat]! then A9e u v (r+1).toNat (16-(r+1)).toNat else N7 u[r.toNat]! v[r.toNat]!:=by
 unfold Ap4 at h
 rw[h,show(16-r).toNat=(16-(r+1)).toNat+1 by omega,A9e,show r.toNat+1=(r+1).toNat by omega]
theorem B6r{u v:List Int}{r:Int}(h0:0≤r)(h1:r < 16)(hd:¬ u[r.toNat]! = v[r.toNat]!)(h:Ap4 u v r):A9e u v 0 16=N7 u[r.toNat]! v[r.toNat]!:=by rw[Aw4 h0 h1 h,if_neg hd]
theorem B6s{u v:List Int}{r:Int}(h0:0≤r)(h1:r < 16)(hd:u[r.toNat]! = v[r.toNat]!)(h:Ap4 u v r):invCp u v (r+1):=by
 refine⟨by omega,by omega,?_⟩
 unfold Ap4
 rw[Aw4 h0 h1 h,if_pos hd]
theorem cf_end{u v:List Int}{r:Int}(h1:r≤16)(hn:¬ r < 16)(h:Ap4 u v r):A9e u v 0 16=0:=by
 unfold Ap4 at h
 rw[h,show(16-r).toNat=0 by omega];rfl
theorem cp_vec{p q:Past}{x:Int}(h:A9e (A4 p).vec (A4 q).vec 0 16=x)(hx:¬ x=0):B10 p q=x:=by
 unfold B10 cmpQ
 rw[if_pos (by rw[h];exact hx),h]
theorem B2q{p q:Past}(h:A9e (A4 p).vec (A4 q).vec 0 16=0):B10 p q=Q0 (A4 p).cloud (A4 q).cloud:=by
 unfold B10 cmpQ
 rw[if_neg (by rw[h];simp)]
theorem B6t{a b:Int}(h:¬ a=b):¬ N7 a b=0:=fun k=>h (A3g.1 k)
theorem B4q(x:Int):Con Tryz.prog 272 [.i .i64 x] (.b false) :=
 by
 refine sC A6 [.tmp 2] 6 Tryz.func272 ?_
 intro e0 cx
 refine sq<|rG cx [0] [] z0<|sn<|sq<|rG cx [2] [] (tT 2 (B1x:AV.b (x != x)=AV.b false) z0)<|sn<|rT ?_
 exact A25 (r:=.b (false)) (obl:=[]) (by kernel_rfl) trivial (A3.refl _)
theorem A5c(a b:Int):Con Tryz.prog 231 [.i .i64 a,.i .i64 b] (.i .i64 (N7 a b)) :=
 by
 refine sC A6 [.tmp 4] 20 Tryz.func231 ?_
 intro e0 cx
 refine sq<|rG cx [0,1] [] z0<|sn<|sq<|rG cx [0,1,5] [] (fT (B4q (a)) (oA 1 (.b (false)) z0))<|sn<|sq<|rG cx [0,1,5,6] [] (fT (B4q (b)) (oA 1 (.b (false)) z0))<|sn<|sq<|sq<|rG cx [0,1,6,11] [] z0<|sn<|X0 (by kernel_rfl) (by kernel_rfl)<|sK<|sn<|sq<|sq<|rG cx [0,1,13] [] z0<|sn<|X0 (by kernel_rfl) (by kernel_rfl)<|sK<|sn<|sq<|rD cx [0,1,16] [] (zB 2 (a < b)) (fun h0=>?_) fun h0=>?_
 refine sq<|rG cx [4] [] z0<|sn<|rT<|nR<|qR (.i .i64 ((-1:Int))) (.eq (by unfold N7;rw[if_pos h0]))
 refine sK<|sn<|sq<|rD cx [19] [] (zB 2 (b < a)) (fun h1=>?_) fun h1=>?_
 refine sq<|rG cx [4] [] z0<|sn<|rT<|nR<|qR (.i .i64 ((1:Int))) (.eq (by unfold N7;rw[if_neg h0,if_pos h1]))
 refine sK<|sn<|sq<|rG cx [4] [] z0<|sn<|rT<|qR (.i .i64 ((0:Int))) (.eq (by unfold N7;rw[if_neg h0,if_neg h1]))
theorem con234(v:List Int):Con Tryz.prog 234 [.sl (v.map c3)] (.i .i64 (orI v)) :=
 by
 refine lN 0 c3 (v) Tryz.func234 fun hl_0=>sC A6 [.tmp 2] 18 Tryz.func234 ?_
 intro e0 cx
 refine sq<|rG cx [0] [] z0<|sn<|sq<|rG cx [0,3] [] z0<|sn<|sq<|sq<|rG cx [3,6,7,8] [] (tL 1 c3 v z0)<|sn<|bL 0<|sL (X:=Int) (fun x=>⟨[(3,.i .i64 ((0:Int))),(6,.sl (List.map c3 v)),(7,.i .i64 ((↑v.length:Int))),(8,.i .i64 (x))],[]⟩) (fun x ↦ decOr v x) (fun x ↦ B6l v x) [3,6,7,8] [] ((0:Int)) (show B6l v (0:Int)from(by exact⟨by omega,by omega,fun j hj=>by omega⟩)) ?_
 intro i0 h_1
 obtain⟨hh2,hh3,hh4⟩:0≤i0∧i0≤(↑v.length:Int)∧∀(j:Nat),(↑j:Int) < i0→v[j]! =(0:Int):=h_1
 refine rE cx [3,6,7,8,9] [] (zB 0 (i0 <(↑v.length:Int))) (fun h5=>?_) fun h5=>?_
 refine sK<|sn<|sq<|bL 1<|sq<|rG cx [3,6,7,8,5] [] (fA (0≤i0) (fG c3 v i0.toNat (fR 1 (oR 0 (c3 v[i0.toNat]!) z0))))<|sn<|sq<|rG cx [3,6,7,8,5,14] [] (tN 2 v[i0.toNat]! (0:Int) z0)<|sn<|dC (¬v[i0.toNat]! =(0:Int)) (fun h6=>?_) fun h6=>?_
 refine sq<|rG cx [2] [] z0<|sn<|rT<|bR<|nR<|nR<|bR<|nR<|qR (.i .i64 (v[i0.toNat]!)) (.eq ?g1);rotate_left
 refine sK<|bN<|sn<|rG cx [3,6,7,8] [] (tW 0 (i0+1) z0)<|sn<|nX (i0+1) (show((↑v.length:Int)-(i0+1)).toNat <((↑v.length:Int)-i0).toNat from(by omega)) (show B6l v (i0+1)from ?g2);rotate_left
 refine eX 0<|nE<|nE<|bH<|sn<|sq<|rG cx [2] [] z0<|sn<|rT<|qR (.i .i64 ((0:Int))) (.eq (by rw[or_no fun j hj=>hh4 j (by omega)]))
 case g1=>revert i0 hh2 hh3 hh4 h5 h6;intro i h0 h1 h2 h3 h4;rw[or_at (i:=i.toNat) (by omega) h4 (fun j hj=>h2 j (by omega))]
 case g2 =>
  exact⟨by omega,by omega,fun j hj=>by
   by_cases e:j=i0.toNat
   ·rw[e];exact Classical.not_not.1 h6
   ·exact hh4 j (by omega)⟩
theorem con233(s t:Span):Con Tryz.prog 233 [.agg (A9 s),.agg (A9 t)] (.i .i64 (A6l s t)) :=
 by
 refine sC A6 [.tmp 4] 22 Tryz.func233 ?_
 intro e0 cx
 refine sq<|rG cx [2,3] [2,3] z0<|sn<|sq<|rA cx [4] [] (fT (A5c (s.rep) (t.rep)) (fT (A5c (s.lo) (t.lo)) (fT (A5c (s.hi) (t.hi)) (fP (Flat (AV.i .i64 (orI [N7 s.rep t.rep,N7 s.lo t.lo,N7 s.hi t.hi]))) (by exact Flat.i _ _) (fT (con234 ([N7 s.rep t.rep,N7 s.lo t.lo,N7 s.hi t.hi])) (oA 4 (.i .i64 (N7 s.rep t.rep)) (oA 9 (.i .i64 (N7 s.lo t.lo)) (oA 14 (.i .i64 (N7 s.hi t.hi)) (oV 16 { val:=some (.i .i64 (orI [N7 s.rep t.rep,N7 s.lo t.lo,N7 s.hi t.hi])),flat:=true } z0)))))))))<|sn<|rT<|qR (.i .i64 (orI [N7 s.rep t.rep,N7 s.lo t.lo,N7 s.hi t.hi])) (.eq ?g0);rotate_left
 case g0=>rw[B2n]
theorem con232(a b:List Span):Con Tryz.prog 232 [.sl (a.map A9),.sl (b.map A9),.fn (.func 233) [] []] (.i .i64 (Q0 a b)) :=
 by
 refine lN 0 A9 (a) Tryz.func232 fun hl_0=>lN 1 A9 (b) Tryz.func232 fun hl_1=>sC A6 [.tmp 6] 39 Tryz.func232 ?_
 intro e0 cx
 refine sq<|rG cx [0,1,2] [] z0<|sn<|sq<|sq<|rG cx [0,1,2,11,12,13] [] (tL 1 A9 a z0)<|sn<|bL 0<|sL (X:=Int) (fun x=>⟨[(0,.sl (List.map A9 a)),(1,.sl (List.map A9 b)),(2,.fn (Fn.func (233:FuncId)) [] []),(11,.sl (List.map A9 a)),(12,.i .i64 ((↑a.length:Int))),(13,.i .i64 (x))],[]⟩) (fun x ↦ decCf a b x) (fun x ↦ B2o a b x) [0,1,2,11,12,13] [] ((0:Int)) (show B2o a b (0:Int)from(by exact⟨by omega,by omega,by omega,rfl⟩)) ?_
 intro i0 h_1
 obtain⟨hh2,hh3,hh4,hh5⟩:0≤i0∧i0≤(↑a.length:Int)∧i0≤(↑b.length:Int)∧Q0 a b=Q0 (List.drop i0.toNat a) (List.drop i0.toNat b):=h_1
 refine rE cx [0,1,2,11,12,13,14] [] (zB 0 (i0 <(↑a.length:Int))) (fun hh6=>?_) fun hh6=>?_
 refine sK<|sn<|sq<|bL 1<|sq<|rG cx [0,1,2,11,12,13,8,7] [8] (fA (0≤i0) (fG A9 a i0.toNat (fR 3 (fN 3 3 (oR 1 (A9 a[i0.toNat]!) z0)))))<|sn<|sq<|rD cx [0,1,2,11,12,13,8,7,21] [8] (tL 2 A9 b (zB 3 ((↑b.length:Int)≤i0))) (fun h7=>?_) fun h7=>?_
 refine sq<|rG cx [6] [] z0<|sn<|rT<|nR<|bR<|nR<|nR<|bR<|nR<|qR (.i .i64 ((1:Int))) (.eq (by rw[B6m hh2 hh6 (by omega) hh5]))
 refine sK<|sn<|sq<|rG cx [0,1,2,11,12,13,8,9] [8,9] (fA (0≤i0) (fG A9 b i0.toNat (fR 3 (fN 3 3 (oR 2 (A9 b[i0.toNat]!) z0)))))<|sn<|sq<|rG cx [0,1,2,11,12,13,10] [] (fT (con233 (a[i0.toNat]!) (b[i0.toNat]!)) (oA 3 (.i .i64 (A6l a[i0.toNat]! b[i0.toNat]!)) z0))<|sn<|sq<|rG cx [0,1,2,11,12,13,10,31] [] (tN 1 (A6l a[i0.toNat]! b[i0.toNat]!) (0:Int) z0)<|sn<|dC (¬A6l a[i0.toNat]! b[i0.toNat]! =(0:Int)) (fun h8=>?_) fun h8=>?_
 refine sq<|rG cx [6] [] z0<|sn<|rT<|bR<|nR<|nR<|bR<|nR<|qR (.i .i64 (A6l a[i0.toNat]! b[i0.toNat]!)) (.eq (by rw[B6p hh2 hh6 (by omega) h8 hh5]))
 refine sK<|bN<|sn<|rG cx [0,1,2,11,12,13] [] (tW 0 (i0+1) z0)<|sn<|nX (i0+1) (show((↑a.length:Int)-(i0+1)).toNat <((↑a.length:Int)-i0).toNat from(by omega)) (show B2o a b (i0+1)from(by exact B6q hh2 hh6 (by omega) (Classical.not_not.1 h8) hh5))
 refine eX 0<|nE<|nE<|bH<|sn<|sq<|rD cx [38] [] (tL 1 A9 a (tL 3 A9 b (zB 4 ((↑a.length:Int) <(↑b.length:Int))))) (fun h9=>?_) fun h9=>?_
 refine sq<|rG cx [6] [] z0<|sn<|rT<|nR<|qR (.i .i64 ((-1:Int))) (.eq (by rw[B6n hh2 hh6 (by omega) hh5]))
 refine sK<|sn<|sq<|rG cx [6] [] z0<|sn<|rT<|qR (.i .i64 ((0:Int))) (.eq (by rw[B6o hh6 (by omega) hh5]))
theorem con195(p q:Past)(hb:p.cloud.length*16≤140737488350000)(hq:q.cloud.length*16≤140737488350000):Con Tryz.prog 195 [.agg (c26 p),.agg (c26 q)] (.i .i64 (B10 p q)) :=
 by
 have D:∀ {r:Int} {u v:List Int},u=(A4 p).vec→v=(A4 q).vec→0≤r→r < 16→∀ {a b:Int},u[r.toNat]! = a→v[r.toNat]! = b→¬ a=b→Ap4 (A4 p).vec (A4 q).vec r→N7 a b=B10 p q:=by
  intro r u v e1 e3 h0 h1 a b ha hb hn h
  rw[e1]at ha
  rw[e3]at hb
  have e:=B6r h0 h1 (by rw[ha,hb];exact hn) h
  rw[ha,hb]at e
  exact(cp_vec e (B6t hn)).symm
 have N:∀ {r:Int} {u v:List Int} {c d:List Span},u=(A4 p).vec→c=(A4 p).cloud→v=(A4 q).vec→d=(A4 q).cloud→0≤r→r < 16→∀ {a b:Int},u[r.toNat]! = a→v[r.toNat]! = b→¬ ¬ a=b→Ap4 (A4 p).vec (A4 q).vec r→Ab1 (A4 p) (A4 q) (r+1) u c v d:=by
  intro r u v c d e1 e2 e3 e4 h0 h1 a b ha hb hn h
  have e:=B6s h0 h1 (by rw[← e1,← e3,ha,hb];exact Classical.not_not.1 hn) h
  exact⟨e1,e2,e3,e4,e.1,e.2.1,e.2.2⟩
 refine sC A6 [.tmp 4] 49 Tryz.func195 ?_
 intro e0 cx
 refine sq<|rG cx [2,3] [2,3] z0<|sn<|sq<|rA cx [5,6] [5,6] (fT (A89 (p) (by(with_reducible assumption))) (fT (A89 (q) (by(with_reducible assumption))) (oA 1 (.agg [.sl (List.map c3 (A4 p).vec),.sl (List.map A9 (A4 p).cloud)]) (oA 3 (.agg [.sl (List.map c3 (A4 q).vec),.sl (List.map A9 (A4 q).cloud)]) z0))))<|sn<|sq<|sq<|rG cx [5,6,14] [5,6] z0<|sn<|bL 0<|sL (X:=Int×List Int×List Span×List Int×List Span) (fun x=>⟨[(5,.ptr (5) (0) (0) (0)),(6,.ptr (6) (0) (0) (0)),(14,.i .i64 (x.1))],[(5,⟨0,26,.var [.sl (List.map c3 x.2.1),.sl (List.map A9 x.2.2.1)]⟩),(6,⟨0,26,.var [.sl (List.map c3 x.2.2.2.1),.sl (List.map A9 x.2.2.2.2)]⟩)]⟩) (fun x ↦ decCq x.1 x.2.1 x.2.2.1 x.2.2.2.1 x.2.2.2.2) (fun x ↦ Ab1 (A4 p) (A4 q) x.1 x.2.1 x.2.2.1 x.2.2.2.1 x.2.2.2.2) [5,6,14] [5,6] (((0:Int),(A4 p).vec,(A4 p).cloud,(A4 q).vec,(A4 q).cloud)) (show Ab1 (A4 p) (A4 q) (0:Int) (A4 p).vec (A4 p).cloud (A4 q).vec (A4 q).cloud from(by exact⟨Eq.refl _,Eq.refl _,Eq.refl _,Eq.refl _,by omega,by omega,Eq.refl _⟩)) ?_
 rintro⟨r0,u1,c2,v3,d4⟩ h_5
 obtain⟨h6,h7,h8,h9,h10,h11,h12⟩:u1=(A4 p).vec∧c2=(A4 p).cloud∧v3=(A4 q).vec∧d4=(A4 q).cloud∧0≤r0∧r0≤16∧Ap4 (A4 p).vec (A4 q).vec r0:=h_5
 refine rE cx [5,6,14,15] [5,6] (zB 0 (r0 <(16:Int))) (fun h13=>?_) fun h13=>?_
 refine sK<|sn<|sq<|bL 1<|sq<|rG cx [5,6,14,7] [5,6] z0<|sn<|sq<|rG cx [5,6,14,7,8,9] [5,6] z0<|sn<|sq<|rD cx [5,6,14,7,8,9,21] [5,6] (tL 3 c3 u1 (zB 4 (r0 <(↑u1.length:Int)))) (fun h14=>?_) fun h14=>?_
 refine rG cx [5,6,14,7,8,9] [5,6] (fA (0≤r0) (fG c3 u1 r0.toNat (fR 1 (oR 3 (c3 u1[r0.toNat]!) z0))))<|sn<|sq<|rD cx [5,6,14,7,8,9,31] [5,6] (tL 3 c3 v3 (zB 4 (r0 <(↑v3.length:Int)))) (fun h15=>?_) fun h15=>?_
 refine rG cx [5,6,14,8,9] [5,6] (fA (0≤r0) (fG c3 v3 r0.toNat (fR 1 (oR 3 (c3 v3[r0.toNat]!) z0))))<|sn<|sq<|rG cx [5,6,14,8,9,39] [5,6] (tN 2 u1[r0.toNat]! v3[r0.toNat]! z0)<|sn<|dC (¬u1[r0.toNat]! = v3[r0.toNat]!) (fun h16=>?_) fun h16=>?_
 refine sq<|rG cx [4] [] (fT (A5c (u1[r0.toNat]!) (v3[r0.toNat]!)) (oA 2 (.i .i64 (N7 u1[r0.toNat]! v3[r0.toNat]!)) z0))<|sn<|rT<|bR<|nR<|nR<|bR<|nR<|qR (.i .i64 (N7 u1[r0.toNat]! v3[r0.toNat]!)) (.eq (by exact congrArg (AV.i .i64) (D h6 h8 h10 h13 (Eq.refl _) (Eq.refl _) h16 h12)))
 refine sK<|bN<|sn<|rG cx [5,6,14] [5,6] (tW 0 (r0+1) z0)<|sn<|nX ((r0+1,u1,c2,v3,d4)) (show(16-(r0+1)).toNat <(16-r0).toNat from(by omega)) (show Ab1 (A4 p) (A4 q) (r0+1) u1 c2 v3 d4 from(by exact N h6 h7 h8 h9 h10 h13 (Eq.refl _) (Eq.refl _) h16 h12))
 refine sK<|sn<|sq<|rG cx [5,6,14,8,9,39] [5,6] (tN 2 u1[r0.toNat]! (0:Int) z0)<|sn<|dC (¬u1[r0.toNat]! =(0:Int)) (fun h17=>?_) fun h17=>?_
 refine sq<|rG cx [4] [] (fT (A5c (u1[r0.toNat]!) ((0:Int))) (oA 2 (.i .i64 (N7 u1[r0.toNat]! (0:Int))) z0))<|sn<|rT<|bR<|nR<|nR<|bR<|nR<|qR (.i .i64 (N7 u1[r0.toNat]! (0:Int))) (.eq (by exact congrArg (AV.i .i64) (D h6 h8 h10 h13 (Eq.refl _) (A1m h10 h15) h17 h12)))
 refine sK<|bN<|sn<|rG cx [5,6,14] [5,6] (tW 0 (r0+1) z0)<|sn<|nX ((r0+1,u1,c2,v3,d4)) (show(16-(r0+1)).toNat <(16-r0).toNat from(by omega)) (show Ab1 (A4 p) (A4 q) (r0+1) u1 c2 v3 d4 from(by exact N h6 h7 h8 h9 h10 h13 (Eq.refl _) (A1m h10 h15) h17 h12))
 refine sK<|sn<|sq<|rD cx [5,6,14,7,8,9,31] [5,6] (tL 3 c3 v3 (zB 4 (r0 <(↑v3.length:Int)))) (fun h18=>?_) fun h18=>?_
 refine rG cx [5,6,14,8,9] [5,6] (fA (0≤r0) (fG c3 v3 r0.toNat (fR 1 (oR 3 (c3 v3[r0.toNat]!) z0))))<|sn<|sq<|rG cx [5,6,14,8,9,39] [5,6] (tN 2 (0:Int) v3[r0.toNat]! z0)<|sn<|dC (¬0=v3[r0.toNat]!) (fun h19=>?_) fun h19=>?_
 refine sq<|rG cx [4] [] (fT (A5c ((0:Int)) (v3[r0.toNat]!)) (oA 2 (.i .i64 (N7 (0:Int) v3[r0.toNat]!)) z0))<|sn<|rT<|bR<|nR<|nR<|bR<|nR<|qR (.i .i64 (N7 (0:Int) v3[r0.toNat]!)) (.eq (by exact congrArg (AV.i .i64) (D h6 h8 h10 h13 (A1m h10 h14) (Eq.refl _) h19 h12)))
 refine sK<|bN<|sn<|rG cx [5,6,14] [5,6] (tW 0 (r0+1) z0)<|sn<|nX ((r0+1,u1,c2,v3,d4)) (show(16-(r0+1)).toNat <(16-r0).toNat from(by omega)) (show Ab1 (A4 p) (A4 q) (r0+1) u1 c2 v3 d4 from(by exact N h6 h7 h8 h9 h10 h13 (A1m h10 h14) (Eq.refl _) h19 h12))
 refine sK<|sn<|sq<|rG cx [5,6,14,8,9,39] [5,6] z0<|sn<|X0 (by kernel_rfl) (by kernel_rfl)<|sK<|bN<|sn<|rG cx [5,6,14] [5,6] (tW 0 (r0+1) z0)<|sn<|nX ((r0+1,u1,c2,v3,d4)) (show(16-(r0+1)).toNat <(16-r0).toNat from(by omega)) (show Ab1 (A4 p) (A4 q) (r0+1) u1 c2 v3 d4 from(by exact N h6 h7 h8 h9 h10 h13 (A1m h10 h14) (A1m h10 h18) (fun k=>k (Eq.refl _)) h12))
 refine eX 0<|nE<|nE<|bH<|sn<|sq<|rG cx [4] [] (fT (con232 (c2) (d4)) (oA 4 (.i .i64 (Q0 c2 d4)) z0))<|sn<|rT<|qR (.i .i64 (Q0 c2 d4)) (.eq (by rw[h7,h9,B2q (cf_end h11 h13 h12)]))
end Go.Proofs.YtphcaholhacnpaaGreat
namespace Go.Proofs.YtphcaholhacnpaaGreat
open Go.E
set_option maxRecDepth 100000
set_option maxHeartbeats 4000000
theorem A01(a b:UInt8)(x y:List UInt8):Go.Op.bytesLess (a :: x) (b :: y)=true↔a.toNat < b.toNat∨(a=b∧Go.Op.bytesLess x y=true):=by
 rw[Go.Op.bytesLess,Bool.or_eq_true,Bool.and_eq_true,decide_eq_true_eq,beq_iff_eq,UInt8.lt_iff_toNat_lt]
theorem B4r:∀ l:List UInt8,¬ Go.Op.bytesLess l l=true
 | []=>by simp [Go.Op.bytesLess]
 | a :: l=>by
  rw[A01]
  rintro(h | h)
  ·omega
  ·exact B4r l h.2
theorem Ah0:∀ {x y z:List UInt8},Go.Op.bytesLess x y=true→Go.Op.bytesLess y z=true→Go.Op.bytesLess x z=true
 | _,[],_,h,_=>by cases ‹List UInt8› <;> simp [Go.Op.bytesLess]at h
 | _,_ :: _,[],_,h=>by simp [Go.Op.bytesLess]at h
 | [],_ :: _,c :: z,_,_=>by simp [Go.Op.bytesLess]
 | a :: x,b :: y,c :: z,h1,h2=>by
  rw[A01]at *
  rcases h1 with h1 | ⟨rfl,h1⟩
  ·rcases h2 with h2 | ⟨rfl,h2⟩
   ·exact .inl (by omega)
   ·exact .inl h1
  ·rcases h2 with h2 | ⟨rfl,h2⟩
   ·exact .inl h2
   ·exact .inr ⟨rfl,Ah0 h1 h2⟩
theorem Ah1:∀ {x y:List UInt8},¬ Go.Op.bytesLess x y=true→¬ Go.Op.bytesLess y x=true→x=y
 | [],[],_,_=>rfl
 | [],b :: y,h,_=>by simp [Go.Op.bytesLess]at h
 | a :: x,[],_,h=>by simp [Go.Op.bytesLess]at h
 | a :: x,b :: y,h1,h2=>by
  rw[A01]at *
  have e:a=b:=UInt8.toNat_inj.1 (by omega)
  subst e
  rw[Ah1 (fun h=>h1 (.inr ⟨rfl,h⟩)) (fun h=>h2 (.inr ⟨rfl,h⟩))]
theorem W0(x:ByteArray):¬ sLt x x=true:=B4r _
theorem Q8{x y z:ByteArray}(h1:sLt x y=true)(h2:sLt y z=true):sLt x z=true:=Ah0 h1 h2
theorem A0o{x y:ByteArray}(h1:¬ sLt x y=true)(h2:¬ sLt y x=true):x=y:=by
 have e:=Ah1 h1 h2
 rw[ByteArray.toList_eq,ByteArray.toList_eq]at e
 exact ByteArray.ext (Array.ext' e)
end Go.Proofs.YtphcaholhacnpaaGreat
namespace Go.Proofs.YtphcaholhacnpaaGreat
open Go.E
set_option maxRecDepth 100000
set_option maxHeartbeats 4000000
open Go Go.Lib Go.RowKit Go.Proofs
def A0p(a b:ByteArray):Int:=compareBytes a.data.toList b.data.toList
theorem A8e:∀ x y:List UInt8,compareBytes x y=if Go.Op.bytesLess x y=true then -1 else if Go.Op.bytesLess y x=true then 1 else 0
 | [],[]=>rfl
 | [],b :: y=>by simp [compareBytes,Go.Op.bytesLess]
 | a :: x,[]=>by simp [compareBytes,Go.Op.bytesLess]
 | a :: x,b :: y=>by
  have ih:=A8e x y
  rw[compareBytes]
  by_cases h1:a < b
  ·rw[if_pos h1,if_pos ((A01 _ _ _ _).2 (.inl (UInt8.lt_iff_toNat_lt.1 h1)))]
  ·by_cases h2:b < a
   ·rw[if_neg h1,if_pos h2,if_neg,if_pos ((A01 _ _ _ _).2 (.inl (UInt8.lt_iff_toNat_lt.1 h2)))]
    rw[A01]
    rintro(k | ⟨rfl,_⟩)
    ·exact h1 (UInt8.lt_iff_toNat_lt.2 k)
    ·rw[UInt8.lt_iff_toNat_lt]at h2;omega
   ·have e:a=b:=UInt8.toNat_inj.1 (by rw[UInt8.lt_iff_toNat_lt]at h1 h2;omega)
    subst e
    rw[if_neg h1,if_neg h1,ih]
    have c:∀ u v:List UInt8,Go.Op.bytesLess (a :: u) (a :: v)=Go.Op.bytesLess u v:=fun u v=>by
     rw[Bool.eq_iff_iff,A01]
     constructor
     ·rintro(k | ⟨_,k⟩)
      ·omega
      ·exact k
     ·exact fun k=>.inr ⟨rfl,k⟩
    rw[c,c]
theorem Q9(a b:ByteArray):A0p a b=if sLt a b=true then -1 else if sLt b a=true then 1 else 0:=by
 unfold A0p sLt
 rw[ByteArray.toList_eq,ByteArray.toList_eq]
 exact A8e _ _
set_option maxHeartbeats 4000000 in
theorem A6m (a b:ByteArray) (w:World):Calls Tryz.prog 230 #[.string a,.string b] w fun e w'=>e=.returned (.int .i64 (A0p a b))∧w'=w:=by
 go_enter Tryz.func230,Tryz.ntmps230
 go_wp2
 rw[run_callFunc_extern Tryz.func271 (by kernel_rfl) (by kernel_rfl) (by kernel_rfl) (e:=Extern.BytealgCompare.compare) (by kernel_rfl),Lib.run_compareString]
 simp only [Result.andThen]
 rw[Oper.upon_value]
 go_wp2
 go_ret
 exact⟨rfl,rfl⟩
theorem con230(a b:ByteArray):Con Tryz.prog 230 [.s a,.s b] (.i .i64 (A0p a b)):=by
 refine⟨⟨_,Tryz.func230,by kernel_rfl,by kernel_rfl⟩,fun w S0 vs hS hl hv=>?_⟩
 obtain⟨v,u,rfl⟩:∃ v u,vs=[v,u]:=by
  match vs,hl with
  | [v,u],_=>exact⟨v,u,rfl⟩
 have h1:=hv 0 _ v rfl rfl
 have h2:=hv 1 _ u rfl rfl
 cases h1
 cases h2
 refine(A6m a b w).mono ?_
 rintro e w' ⟨rfl,rfl⟩
 exact⟨_,rfl,.i _ _,Below.refl _ _⟩
theorem con194(a b:ByteArray):Con Tryz.prog 194 [.s a,.s b] (.i .i64 (A0p a b)) :=
 by
 refine sC A6 [.tmp 4] 8 Tryz.func194 ?_
 intro e0 cx
 refine sq<|rG cx [0,1] [] z0<|sn<|sq<|rG cx [4] [] (fT (con230 (a) (b)) (oA 2 (.i .i64 (A0p a b)) z0))<|sn<|rT ?_
 exact A25 (r:=.i .i64 (A0p a b)) (obl:=[]) (by kernel_rfl) trivial (A3.refl _)
end Go.Proofs.YtphcaholhacnpaaGreat
namespace Go.Proofs.YtphcaholhacnpaaGreat
open Go.E
set_option maxRecDepth 100000
set_option maxHeartbeats 4000000
def H9:List Run→Int
 | []=>0
 | r :: l=>r.hi-r.lo+1+H9 l
def A4i:List Run→Int
 | []=>0
 | r :: l=>if(D4 r).lo≤(D4 r).hi then max (D4 r).hi (A4i l)else A4i l
theorem Aw5(a b:List Run):H9 (a++b)=H9 a+H9 b:=by
 induction a with
 | nil=>simp [H9]
 | cons e a ih=>simp only [List.cons_append,H9,ih];omega
theorem A3h:∀ a:List Run,(A4i a=0∧∀ n,1≤n→n≤1000000000→¬ inR a n)∨(1≤A4i a∧A4i a≤1000000000∧inR a (A4i a)∧∀ n,1≤n→n≤1000000000→inR a n→n≤A4i a)
 | []=>.inl ⟨rfl,fun n _ _ h=>by obtain⟨r,hr,_⟩:=h;cases hr⟩
 | r :: l=>by
  have hin:∀ n,inR (r :: l) n↔(r.lo≤n∧n≤r.hi)∨inR l n:=fun n=>by
   unfold inR
   constructor
   ·rintro⟨x,hx,h1,h2⟩
    rcases List.mem_cons.1 hx with rfl | hx
    ·exact .inl ⟨h1,h2⟩
    ·exact .inr ⟨x,hx,h1,h2⟩
   ·rintro(⟨h1,h2⟩ | ⟨x,hx,h1,h2⟩)
    ·exact⟨r,by simp,h1,h2⟩
    ·exact⟨x,by simp [hx],h1,h2⟩
  have hc1:(D4 r).lo=max r.lo 1:=rfl
  have hc2:(D4 r).hi=min r.hi 1000000000:=rfl
  unfold A4i
  split
  ·rename_i hc
   rw[hc1,hc2]at hc
   right
   rcases A3h l with⟨h1,h2⟩ | ⟨h1,h2,h3,h4⟩
   ·have e:max (D4 r).hi (A4i l)=(D4 r).hi:=by rw[h1];omega
    rw[e,hc2]
    refine⟨by omega,by omega,(hin _).2 (.inl ⟨by omega,by omega⟩),fun n n1 n2 hn=>?_⟩
    rcases(hin n).1 hn with k | k
    ·omega
    ·exact absurd k (h2 n n1 n2)
   ·refine⟨by omega,by omega,?_,fun n n1 n2 hn=>?_⟩
    ·rcases Int.le_total (A4i l) (D4 r).hi with k | k
     ·rw[Int.max_eq_left k,hc2];exact(hin _).2 (.inl ⟨by omega,by omega⟩)
     ·rw[Int.max_eq_right k];exact(hin _).2 (.inr h3)
    ·rcases(hin n).1 hn with k | k
     ·omega
     ·have:=h4 n n1 n2 k;omega
  ·rename_i hc
   rw[hc1,hc2]at hc
   rcases A3h l with⟨h1,h2⟩ | ⟨h1,h2,h3,h4⟩
   ·refine .inl ⟨h1,fun n n1 n2 hn=>?_⟩
    rcases(hin n).1 hn with k | k
    ·omega
    ·exact h2 n n1 n2 k
   ·refine .inr ⟨h1,h2,(hin _).2 (.inr h3),fun n n1 n2 hn=>?_⟩
    rcases(hin n).1 hn with k | k
    ·omega
    ·exact h4 n n1 n2 k
theorem A3i(r:Run):∀ a:List Run,A4i (a++[r])=if(D4 r).lo≤(D4 r).hi then max (A4i a) (D4 r).hi else A4i a
 | []=>by
  have hc1:(D4 r).lo=max r.lo 1:=rfl
  simp only [List.nil_append,A4i]
  split <;> omega
 | x :: a=>by
  have ih:=A3i r a
  simp only [List.cons_append,A4i,ih]
  split <;> split <;> omega
end Go.Proofs.YtphcaholhacnpaaGreat
namespace Go.Proofs.YtphcaholhacnpaaGreat
open Go.E
set_option maxRecDepth 100000
set_option maxHeartbeats 4000000
def sizeT(T:Nat→List Run):Nat→Int
 | 0=>0
 | n+1=>sizeT T n+H9 (nrm (T n))
theorem Aw6(p:Past):∃ n:Int,n=sizeT (C4 [p]) 16:=⟨_,rfl⟩
noncomputable def E0(p:Past):Int:=Classical.choose (Aw6 p)
theorem Ah2(p:Past):E0 p=sizeT (C4 [p]) 16:=Classical.choose_spec (Aw6 p)
def J0(p:Past)(rep:Int):Int:=if rep < 0∨16≤rep then 0 else A4i (C4 [p] rep.toNat)
def H6(p:Past)(rep lim:Int):Dot×Int:=if rep < 0∨16≤rep then(default,3)else if min lim 1000000000≤J0 p rep then(default,9)else(⟨rep,J0 p rep+1⟩,0)
theorem A3j:∀ {l:List Run},U5 l→0≤H9 l∧(H9 l=0→l=[])
 | [],_=>⟨Int.le_refl _,fun _=>rfl⟩
 | r :: l,h=>by
  have hr:=h.2 r (by simp)
  have ih:=(A3j (H8 h)).1
  rw[H9]
  exact⟨by omega,fun k=>by omega⟩
theorem Ah3:∀ {l:List Run},U5 l→∀ m:Int,(∀ r∈l,m≤r.lo)→H9 l≤1000000001-m∨l=[]
 | [],_,m,_=>.inr rfl
 | r :: l,h,m,hm=>by
  have hr:=h.2 r (by simp)
  have h1:=hm r (by simp)
  have pa:=(List.pairwise_cons.1 h.1).1
  rw[H9]
  rcases Ah3 (H8 h) (r.hi+1) (fun x hx=>by have:=pa x hx;omega)with k | k
  ·left;omega
  ·subst k
   left
   rw[H9]
   omega
theorem A3k{l:List Run}(h:U5 l):0≤H9 l∧H9 l≤1000000000:=by
 refine⟨(A3j h).1,?_⟩
 rcases Ah3 h 1 (fun r hr=>(h.2 r hr).1)with k | k
 ·omega
 ·subst k;simp [H9]
theorem A3l(T:Nat→List Run):∀ n:Nat,0≤sizeT T n∧sizeT T n≤n*1000000000
 | 0=>by simp [sizeT]
 | n+1=>by
  have:=A3l T n
  have:=A3k (E5 (T n))
  rw[sizeT]
  omega
theorem A5d(T:Nat→List Run):∀ n:Nat,sizeT T n=0↔∀ r:Nat,r < n→nrm (T r)=[]
 | 0=>by simp [sizeT]
 | n+1=>by
  have h1:=A3l T n
  have h2:=A3j (E5 (T n))
  have ih:=A5d T n
  rw[sizeT]
  constructor
  ·intro k r hr
   by_cases e:r=n
   ·rw[e];exact h2.2 (by omega)
   ·exact ih.1 (by omega) r (by omega)
  ·intro k
   rw[ih.2 fun r hr=>k r (by omega),k n (by omega)]
   rfl
theorem A3m{a:List Run}:nrm a=[]↔∀ n,¬ inR (nrm a) n:=by
 constructor
 ·intro h n k
  rw[h]at k
  obtain⟨r,hr,_⟩:=k
  cases hr
 ·intro h
  cases e:nrm a with
  | nil=>rfl
  | cons r l =>
   have hs:=E5 a
   rw[e]at hs h
   have:=hs.2 r (by simp)
   exact absurd ⟨r,by simp,Int.le_refl _,this.2.1⟩ (h r.lo)
theorem G9(p:Past):E0 p=0↔∀ d,D7 p d=false:=by
 rw[Ah2,A5d]
 constructor
 ·intro h d
  rw[← K8,← Bool.not_eq_true]
  intro k
  unfold A4 at k
  rw[P6]at k
  have hb:=F9 k.1
  have:=A3m.1 (h d.rep.toNat (by omega)) d.num
  rw[V8]at this
  exact this ⟨by omega,by omega,k.2⟩
 ·intro h r hr
  refine A3m.2 fun n k=>?_
  rw[V8]at k
  have hd:U6 ⟨r,n⟩=true:=by unfold U6;rw[decide_eq_true_eq];simp only;omega
  have h1:=h ⟨r,n⟩
  rw[← K8,← Bool.not_eq_true]at h1
  refine h1 ?_
  unfold A4
  rw[P6]
  exact⟨hd,k.2.2⟩
theorem A0q(d:Dot):D7 ⟨[],[]⟩ d=false:=by
 unfold D7
 cases h:U6 d with
 | false=>rfl
 | true =>
  have hb:=F9 h
  simp
  omega
theorem A3n:A4 ⟨[],[]⟩=⟨[],[]⟩:=by
 have h1:∀ r:Nat,r < 16→C4 [⟨[],[]⟩] r=[]:=fun r hr=>by simp [C4,Am7,O9]
 have h2:nrm []=[]:=by
  refine A3m.2 fun n k=>?_
  rw[V8]at k
  obtain⟨r,hr,_⟩:=k.2.2
  cases hr
 unfold A4
 rw[X6 (U:=fun _=>[]) fun r hr=>h1 r hr]
 have l0:∀ r,Z9 (fun _=>[]) r=0:=fun r=>by unfold Z9;rw[h2];rfl
 have s0:∀ n,szT (fun _=>[]) n=0:=fun n=>by
  induction n with
  | zero=>rfl
  | succ n ih=>rw[szT,if_neg (by rw[l0];omega),ih]
 have c0:∀ n,H3 (fun _=>[]) n=[]:=fun n=>by
  induction n with
  | zero=>rfl
  | succ n ih=>rw[H3,ih];unfold U3;rw[h2];rfl
 unfold I9
 rw[s0,c0]
 rfl
theorem Aw7(p:Past):E0 (A4 p)=0↔E0 p=0:=by
 rw[G9,G9]
 exact⟨fun h d=>by rw[← K8];exact h d,fun h d=>by rw[K8];exact h d⟩
theorem A2i(p:Past)(rep:Int):0≤J0 p rep∧J0 p rep≤1000000000:=by
 unfold J0
 split
 ·omega
 ·rcases A3h (C4 [p] rep.toNat)with⟨h,_⟩ | ⟨h1,h2,_⟩ <;> omega
end Go.Proofs.YtphcaholhacnpaaGreat
namespace Go.Proofs.YtphcaholhacnpaaGreat
open Go.E
set_option maxRecDepth 100000
set_option maxHeartbeats 4000000
def A1n(c:Int):Bool:=decide (65≤c∧c≤90)
def A28(c:Int):Bool:=decide (48≤c∧c≤57)
def H0(c:Int):Bool:=decide (c=45∨c=46)
def N8(s:ByteArray)(i:Nat):Bool:=A1n (byt s i) || A28 (byt s i) || (H0 (byt s i) && decide (i≠0∧i+1≠s.size) && !H0 (byt s (i-1)))
def Ab2(p:Nat→Bool):Nat→Bool
 | 0=>true
 | n+1=>Ab2 p n && p n
theorem I0(p:Nat→Bool):∀ n,Ab2 p n=true↔∀ i,i < n→p i=true
 | 0=>by simp [Ab2]
 | n+1=>by
  rw[Ab2,Bool.and_eq_true,I0 p n]
  constructor
  ·rintro⟨h1,h2⟩ i hi
   by_cases e:i=n
   ·rw[e];exact h2
   ·exact h1 i (by omega)
  ·intro h;exact⟨fun i hi=>h i (by omega),h n (by omega)⟩
def Ah4(s:ByteArray):Int:=if s.size=0 then 20 else if 24 < s.size then 21 else if Ab2 (N8 s) s.size=true then 0 else 22
def J6(s:ByteArray):Bool:=decide (Ah4 s=0)
def invG(s:ByteArray)(i:Int):Prop:=0≤i∧i≤s.size∧∀ j:Nat,(j:Int) < i→N8 s j=true
def decG(s:ByteArray)(i:Int):Nat:=(s.size-i).toNat
theorem B2r{s:ByteArray}(h0:¬ s.size=0)(h1:¬ 24 < s.size){i:Nat}(hi:i < s.size)(h:N8 s i=false):Ah4 s=22:=by
 unfold Ah4
 rw[if_neg h0,if_neg h1,if_neg]
 intro k
 have:=(I0 _ _).1 k i hi
 rw[h]at this;cases this
theorem B6u{s:ByteArray}(h0:¬ s.size=0)(h1:¬ 24 < s.size)(h:∀ j:Nat,j < s.size→N8 s j=true):Ah4 s=0:=by
 unfold Ah4
 rw[if_neg h0,if_neg h1,if_pos ((I0 _ _).2 h)]
theorem A0r(s:ByteArray):s.size=0↔s=⟨#[]⟩:=by
 constructor
 ·intro h;exact ByteArray.ext (Array.eq_empty_of_size_eq_zero h)
 ·rintro rfl;rfl
theorem A1o(s:ByteArray)(i:Nat):N8 s i=true↔A1n (byt s i)=true∨A28 (byt s i)=true∨(H0 (byt s i)=true∧i≠0∧i+1≠s.size∧¬ H0 (byt s (i-1))=true):=by
 unfold N8
 cases A1n (byt s i) <;> cases A28 (byt s i) <;> cases H0 (byt s i) <;> cases H0 (byt s (i-1)) <;> simp
theorem A8f{s:ByteArray}{i:Int}(h0:0≤i)(h1:i < s.size)(h2:∀ j:Nat,(j:Int) < i→N8 s j=true)(h:N8 s i.toNat=true):invG s (i+1) :=
 ⟨by omega,by omega,fun j hj=>by
  by_cases e:j=i.toNat
  ·rw[e];exact h
  ·exact h2 j (by omega)⟩
theorem An2{s:ByteArray}{i:Nat}(h:¬ N8 s i=true):N8 s i=false:=by simpa using h
theorem B4s(c:Int):Con Tryz.prog 213 [.i .u8 c] (.b (A1n c)) :=
 by
 refine sC A6 [.tmp 2] 9 Tryz.func213 ?_
 intro e0 cx
 refine sq<|rG cx [0] [] z0<|sn<|sq<|A7 (σ':=⟨[(2,.b (decide (65≤c∧c≤90)))],[]⟩) ?_ ?_
 refine A2 (65≤c) (fun h_1=>?_) (fun h_1=>?_)
 refine rG cx [2] [] (tT 1 (A1 h_1) (tB 4 (c≤90) (tD 6 (decide (c≤90)) (65≤c∧c≤90) (by simp only [eq_true h_1,tsl]) z0))) ?_
 exact⟨rfl,by kernel_rfl⟩
 refine rG cx [2] [] (tT 1 (A0 h_1) (tD 6 false (65≤c∧c≤90) (by simp only [eq_false h_1,tsl]) z0)) ?_
 exact⟨rfl,by kernel_rfl⟩
 refine sn<|rT<|qR (.b (decide (65≤c∧c≤90))) (.eq ?g0);rotate_left
 case g0=>exact rfl
theorem con214(c:Int):Con Tryz.prog 214 [.i .u8 c] (.b (A28 c)) :=
 by
 refine sC A6 [.tmp 2] 9 Tryz.func214 ?_
 intro e0 cx
 refine sq<|rG cx [0] [] z0<|sn<|sq<|A7 (σ':=⟨[(2,.b (decide (48≤c∧c≤57)))],[]⟩) ?_ ?_
 refine A2 (48≤c) (fun h_1=>?_) (fun h_1=>?_)
 refine rG cx [2] [] (tT 1 (A1 h_1) (tB 4 (c≤57) (tD 6 (decide (c≤57)) (48≤c∧c≤57) (by simp only [eq_true h_1,tsl]) z0))) ?_
 exact⟨rfl,by kernel_rfl⟩
 refine rG cx [2] [] (tT 1 (A0 h_1) (tD 6 false (48≤c∧c≤57) (by simp only [eq_false h_1,tsl]) z0)) ?_
 exact⟨rfl,by kernel_rfl⟩
 refine sn<|rT<|qR (.b (decide (48≤c∧c≤57))) (.eq ?g0);rotate_left
 case g0=>exact rfl
theorem A8g(c:Int):Con Tryz.prog 215 [.i .u8 c] (.b (H0 c)) :=
 by
 refine sC A6 [.tmp 2] 9 Tryz.func215 ?_
 intro e0 cx
 refine sq<|rG cx [0] [] z0<|sn<|sq<|A7 (σ':=⟨[(2,.b (decide (c=45∨c=46)))],[]⟩) ?_ ?_
 refine A2 (c=45) (fun h_1=>?_) (fun h_1=>?_)
 refine rG cx [2] [] (tT 1 (A1 h_1) (tD 6 true (c=45∨c=46) (by simp only [eq_true h_1,tsl]) z0)) ?_
 exact⟨rfl,by kernel_rfl⟩
 refine rG cx [2] [] (tT 1 (A0 h_1) (tB 4 (c=46) (tD 6 (decide (c=46)) (c=45∨c=46) (by simp only [eq_false h_1,tsl]) z0))) ?_
 exact⟨rfl,by kernel_rfl⟩
 refine sn<|rT<|qR (.b (decide (c=45∨c=46))) (.eq ?g0);rotate_left
 case g0=>exact rfl
theorem B4t(s:ByteArray):Con Tryz.prog 171 [.s s] (.tup [.dead,.i .i64 (Ah4 s)]) :=
 by
 refine sC A6 [.tmp 2,.tmp 3] 48 Tryz.func171 ?_
 intro e0 cx
 refine sq<|rG cx [0] [] z0<|sn<|sq<|sq<|rG cx [0,7] [] (tT 1 (S4:AV.b (s.toList == { data:=#[]:ByteArray }.toList)=AV.b (decide (s={ data:=#[]:ByteArray }))) z0)<|sn<|dC (s={ data:=#[]:ByteArray }) (fun hh0=>?_) fun hh0=>?_
 refine sq<|rG cx [2,3] [] z0<|sn<|rT<|nR<|qR (.tup [.i .i64 ((0:Int)),.i .i64 ((20:Int))]) (A3.tup (ZLe.cons A3.dead (ZLe.cons (A3.eq (show AV.i .i64 20=AV.i .i64 (Ah4 s)from ?g0)) ZLe.nil)));rotate_left
 refine sK<|sn<|sq<|rD cx [0,10] [] (zB 2 ((24:Int) <(↑s.size:Int))) (fun hh1=>?_) fun hh1=>?_
 refine sq<|rG cx [2,3] [] z0<|sn<|rT<|nR<|qR (.tup [.i .i64 ((0:Int)),.i .i64 ((21:Int))]) (A3.tup (ZLe.cons A3.dead (ZLe.cons (A3.eq (show AV.i .i64 21=AV.i .i64 (Ah4 s)from ?g1)) ZLe.nil)));rotate_left
 refine sK<|sn<|sq<|sq<|rG cx [0,12,13] [] z0<|sn<|bL 0<|sL (X:=Int) (fun x=>⟨[(0,.s (s)),(12,.i .i64 ((↑s.size:Int))),(13,.i .i64 (x))],[]⟩) (fun x ↦ decG s x) (fun x ↦ invG s x) [0,12,13] [] ((0:Int)) (show invG s (0:Int)from ?g2) ?_;rotate_left
 intro i2 h_3
 obtain⟨hh4,hh5,h6⟩:0≤i2∧i2≤(↑s.size:Int)∧∀(j:Nat),(↑j:Int) < i2→N8 s j=true:=h_3
 refine rE cx [0,12,13,14] [] (zB 0 (i2 <(↑s.size:Int))) (fun h7=>?_) fun h7=>?_
 refine sK<|sn<|sq<|bL 1<|sq<|rG cx [0,12,13,4] [] z0<|sn<|sq ?_
 have hl_8:=(A1h s)
 have hl_9:=(A1h s i2.toNat)
 refine rG cx [0,12,13,4,5] [] (fA (0≤i2) (fP (Option.map (fun b ↦ (↑b.toNat:Int)) s[i2.toNat]?=some (byt s i2.toNat)) (by(with_reducible refine As4 ?_;omega)) (oA 2 (.i .u8 (byt s i2.toNat)) z0))) ?_
 refine sn<|sq<|sq<|A7 (σ':=⟨[(0,.s (s)),(12,.i .i64 ((↑s.size:Int))),(13,.i .i64 (i2)),(4,.i .i64 (i2)),(5,.i .u8 (byt s i2.toNat)),(24,.b (decide (A1n (byt s i2.toNat)=true∨A28 (byt s i2.toNat)=true)))],[]⟩) ?_ ?_
 refine A2 (A1n (byt s i2.toNat)=true) (fun h_11=>?_) (fun h_11=>?_)
 refine rg (A:=_∧_∧(AV.b true=AV.b (decide (A1n (byt s i2.toNat)=true∨A28 (byt s i2.toNat)=true)))) cx [(1,{ val:=some (.b (A1n (byt s i2.toNat))),tell:=some (.b (true)) }),(5,{ tell:=some (.b (decide (A1n (byt s i2.toNat)=true∨A28 (byt s i2.toNat)=true))) })] [0,12,13,4,5,24] [] ⟨(B1v h_11),(B4s (byt s i2.toNat)),(by simp only [eq_true h_11,tsl])⟩ ?_
 exact⟨rfl,by kernel_rfl⟩
 refine rg (A:=_∧_∧_∧(AV.b (A28 (byt s i2.toNat))=AV.b (decide (A1n (byt s i2.toNat)=true∨A28 (byt s i2.toNat)=true)))) cx [(1,{ val:=some (.b (A1n (byt s i2.toNat))),tell:=some (.b (false)) }),(4,{ val:=some (.b (A28 (byt s i2.toNat))) }),(5,{ tell:=some (.b (decide (A1n (byt s i2.toNat)=true∨A28 (byt s i2.toNat)=true))) })] [0,12,13,4,5,24] [] ⟨(Ae9 h_11),(B4s (byt s i2.toNat)),(con214 (byt s i2.toNat)),(by simp only [eq_false h_11,tsl])⟩ ?_
 exact⟨rfl,by kernel_rfl⟩
 refine sn<|dC (A1n (byt s i2.toNat)=true∨A28 (byt s i2.toNat)=true) (fun h_12=>?_) fun h_12=>?_
 refine eX 1<|nE<|bH<|sn<|rG cx [0,12,13] [] (tW 0 (i2+1) z0)<|sn<|nX (i2+1) (show((↑s.size:Int)-(i2+1)).toNat <((↑s.size:Int)-i2).toNat from(by omega)) (show invG s (i2+1)from ?g3);rotate_left
 refine sK<|sn<|sq<|A7 (σ':=⟨[(0,.s (s)),(12,.i .i64 ((↑s.size:Int))),(13,.i .i64 (i2)),(4,.i .i64 (i2)),(45,.b (decide (¬H0 (byt s i2.toNat)=true∨i2=0∨i2=(↑s.size:Int)-1∨H0 (byt s (i2-1).toNat)=true)))],[]⟩) ?_ ?_
 refine A2 (¬H0 (byt s i2.toNat)=true) (fun h_14=>?_) (fun h_14=>?_)
 have hl_15:=(A1h s (i2-1).toNat)
 refine rg (A:=_∧_∧(AV.b true=AV.b (decide (¬H0 (byt s i2.toNat)=true∨i2=0∨i2=(↑s.size:Int)-1∨H0 (byt s (i2-1).toNat)=true)))) cx [(1,{ val:=some (.b (H0 (byt s i2.toNat))),tell:=some (.b (false)) }),(20,{ tell:=some (.b (decide (¬H0 (byt s i2.toNat)=true∨i2=0∨i2=(↑s.size:Int)-1∨H0 (byt s (i2-1).toNat)=true))) })] [0,12,13,4,45] [] ⟨(Ae9 h_14),(A8g (byt s i2.toNat)),(by simp only [eq_false h_14,tsl])⟩ ?_
 exact⟨rfl,by kernel_rfl⟩
 refine A2 (i2=0) (fun h_16=>?_) (fun h_16=>?_)
 have hl_17:=(A1h s (i2-1).toNat)
 refine rG cx [0,12,13,4,45] [] (fT (A8g (byt s i2.toNat)) (tT 2 (G7:(AV.b !H0 (byt s i2.toNat))=AV.b (decide ¬H0 (byt s i2.toNat)=true)) (tT 3 (A0 h_14) (tT 5 (A1 h_16) (tT 20 (by first | (simp only [eq_false h_14,eq_true h_16,tsl];done) | simp_all:AV.b true=AV.b (decide (¬H0 (byt s i2.toNat)=true∨i2=0∨i2=(↑s.size:Int)-1∨H0 (byt s (i2-1).toNat)=true))) (oA 1 (.b (H0 (byt s i2.toNat))) z0)))))) ?_
 exact⟨rfl,by kernel_rfl⟩
 refine A2 (i2=(↑s.size:Int)-1) (fun h_18=>?_) (fun h_18=>?_)
 have hl_19:=(A1h s (i2-1).toNat)
 refine rG cx [0,12,13,4,45] [] (fT (A8g (byt s i2.toNat)) (tT 2 (G7:(AV.b !H0 (byt s i2.toNat))=AV.b (decide ¬H0 (byt s i2.toNat)=true)) (tT 3 (A0 h_14) (tT 5 (A0 h_16) (tW 11 ((↑s.size:Int)-1) (tT 12 (A1 h_18) (tT 20 (by first | (simp only [eq_false h_14,eq_false h_16,eq_true h_18,tsl];done) | simp_all:AV.b true=AV.b (decide (¬H0 (byt s i2.toNat)=true∨i2=0∨i2=(↑s.size:Int)-1∨H0 (byt s (i2-1).toNat)=true))) (oA 1 (.b (H0 (byt s i2.toNat))) z0)))))))) ?_
 exact⟨rfl,by kernel_rfl⟩
 have hl_20:=(A1h s (i2-1).toNat)
 refine rG cx [0,12,13,4,45] [] (fT (A8g (byt s i2.toNat)) (tT 2 (G7:(AV.b !H0 (byt s i2.toNat))=AV.b (decide ¬H0 (byt s i2.toNat)=true)) (tT 3 (A0 h_14) (tT 5 (A0 h_16) (tW 11 ((↑s.size:Int)-1) (tT 12 (A0 h_18) (tW 17 (i2-1) (fO (0≤i2-1) (fP (Option.map (fun b ↦ (↑b.toNat:Int)) s[(i2-1).toNat]?=some (byt s (i2-1).toNat)) (by(with_reducible refine As4 ?_;omega)) (fT (A8g (byt s (i2-1).toNat)) (tT 20 (by first | (simp only [eq_false h_14,eq_false h_16,eq_false h_18,tsl];done) | simp_all:AV.b (H0 (byt s (i2-1).toNat))=AV.b (decide (¬H0 (byt s i2.toNat)=true∨i2=0∨i2=(↑s.size:Int)-1∨H0 (byt s (i2-1).toNat)=true))) (oA 1 (.b (H0 (byt s i2.toNat))) (oA 18 (.i .u8 (byt s (i2-1).toNat)) (oA 19 (.b (H0 (byt s (i2-1).toNat))) z0)))))))))))))) ?_
 exact⟨rfl,by kernel_rfl⟩
 refine sn<|dC (¬H0 (byt s i2.toNat)=true∨i2=0∨i2=(↑s.size:Int)-1∨H0 (byt s (i2-1).toNat)=true) (fun h_21=>?_) fun h_21=>?_
 refine sq<|rG cx [2,3] [] z0<|sn<|rT<|bR<|nR<|nR<|bR<|nR<|qR (.tup [.i .i64 (i2),.i .i64 ((22:Int))]) (A3.tup (ZLe.cons A3.dead (ZLe.cons (A3.eq (show AV.i .i64 22=AV.i .i64 (Ah4 s)from ?g4)) ZLe.nil)));rotate_left
 refine sK<|bN<|sn<|rG cx [0,12,13] [] (tW 0 (i2+1) z0)<|sn<|nX (i2+1) (show((↑s.size:Int)-(i2+1)).toNat <((↑s.size:Int)-i2).toNat from(by omega)) (show invG s (i2+1)from ?g5);rotate_left
 refine eX 0<|nE<|nE<|bH<|sn<|sq<|rG cx [2,3] [] z0<|sn<|rT<|qR (.tup [.i .i64 ((0:Int)),.i .i64 ((0:Int))]) (A3.tup (ZLe.cons A3.dead (ZLe.cons (A3.eq (show AV.i .i64 0=AV.i .i64 (Ah4 s)from ?g6)) ZLe.nil)));rotate_left
 revert hh0;rotate_left
 revert hh0 hh1;rotate_left
 revert hh0 hh1;rotate_left
 clear hl_9;revert hh0 hh1 i2 hh4 hh5 h6 h7 h_12;rotate_left
 clear hl_9;revert hh0 hh1 i2 hh4 hh5 h6 h7 h_12 h_21;rotate_left
 clear hl_9;revert hh0 hh1 i2 hh4 hh5 h6 h7 h_12 h_21;rotate_left
 revert hh0 hh1 i2 hh4 hh5 h6 h7;rotate_left
 case g2=>exact(fun h k=>⟨by omega,by omega,fun j hj=>by omega⟩)
 case' g6=>refine(fun h k i h0 h1 h2 h3=>?_)
 case' g5=>refine(fun h k i h0 h1 h2 h3 h4 h5=>?_)
 case' g4=>refine(fun h k i h0 h1 h2 h3 h4 h5=>?_)
 case' g3=>refine(fun h k i h0 h1 h2 h3 h4=>?_)
 case' g1=>refine(fun h k=>?_)
 case' g0=>refine(fun h=>?_)
 ·rw[Ah4,if_pos ((A0r s).2 h)]
 ·rw[Ah4,if_neg (fun e=>h ((A0r s).1 e)),if_pos (by omega)]
 ·exact A8f h0 h3 h2 ((A1o _ _).2 (h4.elim .inl fun h=>.inr (.inl h)))
 ·rw[B2r (fun e=>h ((A0r s).1 e)) (by omega) (i:=i.toNat) (by omega) (An2 _)]
  have e:(i-1).toNat=i.toNat-1:=by omega
  rw[e]at h5
  rw[A1o];rintro(a | a | a)
  ·exact h4 (.inl a)
  ·exact h4 (.inr a)
  ·rcases h5 with h5 | h5 | h5 | h5
   ·exact h5 a.1
   ·omega
   ·omega
   ·exact a.2.2.2 h5
 ·have e:(i-1).toNat=i.toNat-1:=by omega
  rw[e]at h5
  refine A8f h0 h3 h2 ((A1o _ _).2 (.inr (.inr ⟨Classical.byContradiction fun a=>h5 (.inl a),?_,?_,fun a=>h5 (.inr (.inr (.inr a)))⟩)))
  ·intro a;exact h5 (.inr (.inl (by omega)))
  ·intro a;exact h5 (.inr (.inr (.inl (by omega))))
 ·rw[B6u (fun e=>h ((A0r s).1 e)) (by omega) fun j hj=>h2 j (by omega)]
theorem A8h(s:ByteArray):Con Tryz.prog 102 [.s s] (.b (J6 s)) :=
 by
 refine sC A6 [.tmp 2] 12 Tryz.func102 ?_
 intro e0 cx
 refine sq<|rG cx [0] [] z0<|sn<|sq<|rG cx [4] [] (fT (B4t (s)) (oA 1 (Ap2 (B4t (s))) z0))<|sn<|sq<|rG cx [2] [] (tB 1 (Ah4 s=0) z0)<|sn<|rT<|qR (.b (decide (Ah4 s=0))) (.eq ?g0);rotate_left
 case g0=>exact rfl
end Go.Proofs.YtphcaholhacnpaaGreat
namespace Go.Proofs.YtphcaholhacnpaaGreat
open Go.E
set_option maxRecDepth 100000
set_option maxHeartbeats 4000000
theorem ordSt:Ord3 A0p:=by
 refine⟨fun x y=>?_,fun x y=>?_,fun x y z h1 h2=>?_,fun x y z h1 h2=>?_⟩
 ·rw[Q9];split <;>(try split) <;> simp
 ·rw[Q9,Q9]
  by_cases a:sLt x y=true
  ·have b:¬ sLt y x=true:=fun b=>W0 _ (Q8 a b)
   rw[if_pos a,if_neg b,if_pos a];rfl
  ·by_cases b:sLt y x=true
   ·rw[if_pos b,if_neg a,if_pos b]
   ·rw[if_neg b,if_neg a,if_neg a,if_neg b];rfl
 ·rw[Q9]at *
  by_cases c:sLt x z=true
  ·rw[if_pos c];omega
  ·rw[if_neg c]
   by_cases d:sLt z x=true
   ·exfalso
    by_cases a:sLt x y=true
    ·have e:sLt z y=true:=Q8 d a
     have f:¬ sLt y z=true:=fun f=>W0 _ (Q8 e f)
     rw[if_neg f,if_pos e]at h2
     omega
    ·by_cases b:sLt y x=true
     ·rw[if_neg a,if_pos b]at h1;omega
     ·have:=A0o a b
      subst this
      rw[if_neg c,if_pos d]at h2
      omega
   ·rw[if_neg d];omega
 ·rw[Q9]at *
  have eq:∀ u v:ByteArray,(if sLt u v=true then(-1:Int)else if sLt v u=true then 1 else 0)=0→u=v:=by
   intro u v h
   by_cases a:sLt u v=true
   ·rw[if_pos a]at h;omega
   ·by_cases b:sLt v u=true
    ·rw[if_neg a,if_pos b]at h;omega
    ·exact A0o a b
  have e1:=eq _ _ h1
  have e2:=eq _ _ h2
  subst e1 e2
  rw[if_neg (W0 x),if_neg (W0 x)]
def L1(r s:Record):Int:=if A0p r.sku s.sku≠0 then A0p r.sku s.sku else B10 r.past s.past
theorem ordRec:Ord3 L1:=A0n ordSt ordP (fun r:Record=>r.sku) (fun r=>r.past)
def noneS:ByteArray:=⟨#[]⟩
noncomputable def ckR(r:Record):Int:=if ¬ r.sku=noneS∧J6 r.sku=false then 5 else if ¬ r.past=A4 r.past∨E0 r.past=0 then 1 else 0
noncomputable def B2s(rs:List Record)(i:Nat):Bool:=decide (ckR rs[i]! = 0) && (decide (i=0) || decide (L1 rs[i-1]! rs[i]! < 0))
noncomputable def okLR(rs:List Record):Bool:=Ab2 (B2s rs) rs.length
noncomputable def R3(rs:List Record):Int:=if okLR rs=true then 0 else 1
def upR(rs:List Record):Prop:=rs.Pairwise fun r s=>L1 r s < 0
def formR(rs:List Record):Prop:=(∀ r∈rs,ckR r=0)∧upR rs
theorem ck_ok{r:Record}:ckR r=0↔(r.sku=noneS∨J6 r.sku=true)∧r.past=A4 r.past∧¬ E0 r.past=0:=by
 unfold ckR
 by_cases a:¬ r.sku=noneS∧J6 r.sku=false
 ·rw[if_pos a]
  constructor
  ·intro h;omega
  ·rintro⟨k | k,_⟩
   ·exact absurd k a.1
   ·rw[a.2]at k;cases k
 ·rw[if_neg a]
  by_cases b:¬ r.past=A4 r.past∨E0 r.past=0
  ·rw[if_pos b]
   constructor
   ·intro h;omega
   ·rintro⟨_,h1,h2⟩
    rcases b with b | b
    ·exact absurd h1 b
    ·exact absurd b h2
  ·rw[if_neg b]
   refine⟨fun _=>⟨?_,Classical.byContradiction fun k=>b (.inl k),fun k=>b (.inr k)⟩,fun _=>rfl⟩
   by_cases c:r.sku=noneS
   ·exact .inl c
   ·right
    cases e:J6 r.sku with
    | true=>rfl
    | false=>exact absurd ⟨c,e⟩ a
theorem A0s(rs:List Record)(i:Nat):B2s rs i=true↔ckR rs[i]! = 0∧(i=0∨L1 rs[i-1]! rs[i]! < 0):=by
 unfold B2s
 rw[Bool.and_eq_true,Bool.or_eq_true,decide_eq_true_iff,decide_eq_true_iff,decide_eq_true_iff]
theorem Aw8{rs:List Record}(h:∀ i:Nat,0 < i→i < rs.length→L1 rs[i-1]! rs[i]! < 0):upR rs:=by
 have key:∀ d i:Nat,i+d+1 < rs.length→L1 rs[i]! rs[i+d+1]! < 0:=by
  intro d
  induction d with
  | zero=>intro i hi;exact h (i+1) (by omega) hi
  | succ d ih =>
   intro i hi
   have h1:=ih i (by omega)
   have h2:=h (i+d+2) (by omega) (by omega)
   rw[show i+d+2-1=i+d+1 by omega]at h2
   rw[show i+(d+1)+1=i+d+2 by omega]
   exact ordRec.lt h1 (by omega)
 unfold upR
 rw[List.pairwise_iff_getElem]
 intro i j hi hj hij
 have:=key (j-i-1) i (by omega)
 rw[show i+(j-i-1)+1=j by omega,getElem!_pos rs i hi,getElem!_pos rs j hj]at this
 exact this
theorem B2t(rs:List Record):okLR rs=true↔formR rs:=by
 unfold okLR
 rw[I0]
 constructor
 ·intro h
  refine⟨fun r hr=>?_,Aw8 fun i h0 hi=>?_⟩
  ·obtain⟨i,hi,rfl⟩:=List.mem_iff_getElem.1 hr
   have:=((A0s _ _).1 (h i hi)).1
   rwa [getElem!_pos rs i hi]at this
  ·rcases((A0s _ _).1 (h i hi)).2 with k | k
   ·omega
   ·exact k
 ·intro h i hi
  rw[A0s]
  refine⟨h.1 _ (H5 hi),?_⟩
  by_cases e:i=0
  ·exact .inl e
  ·right
   have:=List.pairwise_iff_getElem.1 h.2 (i-1) i (by omega) hi (by omega)
   rw[← getElem!_pos rs (i-1) (by omega),← getElem!_pos rs i hi]at this
   exact this
theorem Ah5(rs:List Record):R3 rs=0↔formR rs:=by
 rw[← B2t]
 unfold R3
 split
 ·rename_i h;simp [h]
 ·rename_i h;simp [h]
theorem B2u{rs:List Record}{i:Nat}(hi:i < rs.length)(h:¬ B2s rs i=true):R3 rs=1:=by
 unfold R3 okLR
 rw[if_neg]
 intro k
 exact h ((I0 _ _).1 k i hi)
theorem B6v{rs:List Record}(h:∀ j:Nat,j < rs.length→B2s rs j=true):R3 rs=0:=by
 unfold R3 okLR
 rw[if_pos ((I0 _ _).2 h)]
end Go.Proofs.YtphcaholhacnpaaGreat
namespace Go.Proofs.YtphcaholhacnpaaGreat
open Go.E
set_option maxRecDepth 100000
set_option maxHeartbeats 4000000
def invZ(a:List Run)(s i:Int):Prop:=0≤i∧i≤(nrm a).length∧s=H9 ((nrm a).take i.toNat)
def decZ(a:List Run)(s i:Int):Nat:=((nrm a).length-i).toNat
def B2v(a:List Run)(m i:Int):Prop:=0≤i∧i≤a.length∧m=A4i (a.take i.toNat)
def decLa(a:List Run)(m i:Int):Nat:=(a.length-i).toNat
def B6w(p:Past)(s i:Int)(T:Nat→List Run):Prop:=T=C4 [p]∧0≤i∧i≤16∧s=sizeT (C4 [p]) i.toNat
def decSz(p:Past)(s i:Int)(T:Nat→List Run):Nat:=(16-i).toNat
theorem Aw9{l:List Run}(h:U5 l)(n:Nat):U5 (l.take n):=⟨h.1.sublist (List.take_sublist _ _),fun r hr=>h.2 r (List.mem_of_mem_take hr)⟩
theorem An3{l:List Run}{i:Int}(h0:0≤i)(h:i < l.length):H9 (l.take (i+1).toNat)=H9 (l.take i.toNat)+(l[i.toNat]!.hi-l[i.toNat]!.lo+1):=by
 rw[← D1 h0 h,Aw5]
 simp [H9]
theorem A8i{p:Past}(hb:p.cloud.length*16≤140737488350000):A3d [p]*16≤140737488351232:=by rw[Av3];omega
theorem Ab3{p:Past}(hb:p.cloud.length*16≤140737488350000)(r:Nat):(C4 [p] r).length*16≤140737488351232:=by
 have:=Q7 r [p]
 have:=A8i hb
 omega
theorem con165(a:List Run)(hb:a.length*16≤140737488351232):Con Tryz.prog 165 [.sl (a.map c206)] (.i .i64 (H9 (nrm a))) :=
 by
 have hs:=E5 a
 have hr:∀ i:Int,0≤i→i <(nrm a).length→1≤(nrm a)[i.toNat]!.lo∧(nrm a)[i.toNat]!.lo≤(nrm a)[i.toNat]!.hi∧(nrm a)[i.toNat]!.hi≤1000000000:=fun i h0 h1=>hs.2 _ (H5 (by omega))
 have hz:∀ i:Int,0≤H9 ((nrm a).take i.toNat)∧H9 ((nrm a).take i.toNat)≤1000000000:=fun i=>A3k (Aw9 hs _)
 refine lN 0 c206 (a) Tryz.func165 fun hl_0=>sC A6 [.tmp 2] 23 Tryz.func165 ?_
 intro e0 cx
 refine sq<|rG cx [0] [] z0<|sn<|sq<|rG cx [0,3] [] z0<|sn<|sq<|sq ?_
 have hl_0:=(V7 a)
 refine rG cx [3,7,8,9] [] (fT (A84 (a) (by(with_reducible assumption))) (tL 2 c206 (nrm a) (oA 1 (.sl (List.map c206 (nrm a))) z0)))<|sn<|bL 0<|sL (X:=Int×Int) (fun x=>⟨[(3,.i .i64 (x.1)),(7,.sl (List.map c206 (nrm a))),(8,.i .i64 ((↑(nrm a).length:Int))),(9,.i .i64 (x.2))],[]⟩) (fun x ↦ decZ a x.1 x.2) (fun x ↦ invZ a x.1 x.2) [3,7,8,9] [] (((0:Int),(0:Int))) (show invZ a (0:Int) (0:Int)from ?g0) ?_;rotate_left
 rintro⟨s1,i2⟩ h_3
 obtain⟨h4,h5,h6⟩:0≤i2∧i2≤(↑(nrm a).length:Int)∧s1=H9 (List.take i2.toNat (nrm a)):=h_3
 refine rE cx [3,7,8,9,10] [] (zB 0 (i2 <(↑(nrm a).length:Int))) (fun h7=>?_) fun h7=>?_
 refine sK<|sn<|sq<|bL 1<|sq<|rG cx [3,7,8,9,5] [5] (fA (0≤i2) (fG c206 (nrm a) i2.toNat (fR 2 (fN 2 2 (oR 0 (c206 (nrm a)[i2.toNat]!) z0)))))<|sn<|rG cx [3,7,8,9] [] (tT 5 (C1 ?g1 ?g2:AV.i .i64 (IntKind.i64.wrap ((nrm a)[i2.toNat]!.hi-(nrm a)[i2.toNat]!.lo))=AV.i .i64 ((nrm a)[i2.toNat]!.hi-(nrm a)[i2.toNat]!.lo)) (tT 6 (C1 ?g3 ?g4:AV.i .i64 (IntKind.i64.wrap ((nrm a)[i2.toNat]!.hi-(nrm a)[i2.toNat]!.lo+1))=AV.i .i64 ((nrm a)[i2.toNat]!.hi-(nrm a)[i2.toNat]!.lo+1)) (tT 7 (C1 ?g5 ?g6:AV.i .i64 (IntKind.i64.wrap (s1+((nrm a)[i2.toNat]!.hi-(nrm a)[i2.toNat]!.lo+1)))=AV.i .i64 (s1+((nrm a)[i2.toNat]!.hi-(nrm a)[i2.toNat]!.lo+1))) z0))) ?_;rotate_left 6
 refine bN<|sn<|rG cx [3,7,8,9] [] (tW 0 (i2+1) z0)<|sn<|nX ((s1+((nrm a)[i2.toNat]!.hi-(nrm a)[i2.toNat]!.lo+1),i2+1)) (show((↑(nrm a).length:Int)-(i2+1)).toNat <((↑(nrm a).length:Int)-i2).toNat from(by omega)) (show invZ a (s1+((nrm a)[i2.toNat]!.hi-(nrm a)[i2.toNat]!.lo+1)) (i2+1)from ?g7);rotate_left
 refine eX 0<|nE<|nE<|bH<|sn<|sq<|rG cx [2] [] z0<|sn<|rT<|qR (.i .i64 (s1)) (.eq ?g8);rotate_left
 rotate_left
 revert s1 i2 h4 h5 h6 h7;rotate_left
 revert s1 i2 h4 h5 h6 h7;rotate_left
 revert s1 i2 h4 h5 h6 h7;rotate_left
 revert s1 i2 h4 h5 h6 h7;rotate_left
 revert s1 i2 h4 h5 h6 h7;rotate_left
 revert s1 i2 h4 h5 h6 h7;rotate_left
 revert s1 i2 h4 h5 h6 h7;rotate_left
 revert s1 i2 h4 h5 h6 h7;rotate_left
 case g0=>exact⟨by omega,by omega,by simp [H9]⟩
 case g7=>intro s i h0 h1 h2 h3;exact⟨by omega,by omega,by rw[h2,An3 h0 h3]⟩
 case g8=>intro s i h0 h1 h2 h3;rw[h2,List.take_of_length_le (by omega)]
 all_goals (intro s i h0 h1 h2 h3;have:=hr i h0 h3;have:=hz i;omega)
theorem B4u(a:List Run):Con Tryz.prog 161 [.sl (a.map c206)] (.i .i64 (A4i a)) :=
 by
 refine lN 0 c206 (a) Tryz.func161 fun hl_0=>sC A6 [.tmp 2] 26 Tryz.func161 ?_
 intro e0 cx
 refine sq<|rG cx [0] [] z0<|sn<|sq<|rG cx [0,3] [] z0<|sn<|sq<|sq<|rG cx [3,8,9,10] [] (tL 1 c206 a z0)<|sn<|bL 0<|sL (X:=Int×Int) (fun x=>⟨[(3,.i .i64 (x.1)),(8,.sl (List.map c206 a)),(9,.i .i64 ((↑a.length:Int))),(10,.i .i64 (x.2))],[]⟩) (fun x ↦ decLa a x.1 x.2) (fun x ↦ B2v a x.1 x.2) [3,8,9,10] [] (((0:Int),(0:Int))) (show B2v a (0:Int) (0:Int)from(by exact⟨by omega,by omega,by simp [A4i]⟩)) ?_
 rintro⟨m0,i1⟩ h_2
 obtain⟨hh3,hh4,h5⟩:0≤i1∧i1≤(↑a.length:Int)∧m0=A4i (List.take i1.toNat a):=h_2
 refine rE cx [3,8,9,10,11] [] (zB 0 (i1 <(↑a.length:Int))) (fun h6=>?_) fun h6=>?_
 refine sK<|sn<|sq<|bL 1<|sq<|rG cx [3,8,9,10,5] [5] (fA (0≤i1) (fG c206 a i1.toNat (fR 2 (fN 2 2 (oR 0 (c206 a[i1.toNat]!) z0)))))<|sn<|sq<|rG cx [3,8,9,10,6,7] [6] (fT (B4g (a[i1.toNat]!)) (oA 1 (.tup [.agg [.i .i64 ((D4 a[i1.toNat]!).lo),.i .i64 ((D4 a[i1.toNat]!).hi)],.b (decide ((D4 a[i1.toNat]!).lo≤(D4 a[i1.toNat]!).hi))]) z0))<|sn<|sq<|rG cx [3,8,9,10,6,19] [6] z0<|sn<|dC ((D4 a[i1.toNat]!).lo≤(D4 a[i1.toNat]!).hi) (fun h7=>?_) fun h7=>?_
 refine rG cx [3,8,9,10] [] (tT 3 (A2e:AV.i .i64 (if(D4 a[i1.toNat]!).hi > m0 then(D4 a[i1.toNat]!).hi else m0)=AV.i .i64 (max m0 (D4 a[i1.toNat]!).hi)) z0)<|bN<|sn<|rG cx [3,8,9,10] [] (tW 0 (i1+1) z0)<|sn<|nX ((max m0 (D4 a[i1.toNat]!).hi,i1+1)) (show((↑a.length:Int)-(i1+1)).toNat <((↑a.length:Int)-i1).toNat from(by omega)) (show B2v a (max m0 (D4 a[i1.toNat]!).hi) (i1+1)from(by exact⟨by omega,by omega,by rw[← D1 hh3 h6,A3i,if_pos h7,h5]⟩))
 refine sK<|bN<|sn<|rG cx [3,8,9,10] [] (tW 0 (i1+1) z0)<|sn<|nX ((m0,i1+1)) (show((↑a.length:Int)-(i1+1)).toNat <((↑a.length:Int)-i1).toNat from(by omega)) (show B2v a m0 (i1+1)from(by exact⟨by omega,by omega,by rw[← D1 hh3 h6,A3i,if_neg h7,h5]⟩))
 refine eX 0<|nE<|nE<|bH<|sn<|sq<|rG cx [2] [] z0<|sn<|rT<|qR (.i .i64 (m0)) (.eq (by rw[h5,List.take_of_length_le (by omega)]))
theorem con94(p:Past)(hb:p.cloud.length*16≤140737488350000):Con Tryz.prog 94 [.agg (c26 p)] (.i .i64 (E0 p)) :=
 by
 have hz:=A3l (C4 [p])
 have hr:∀ r,0≤H9 (nrm (C4 [p] r))∧H9 (nrm (C4 [p] r))≤1000000000:=fun r=>A3k (E5 _)
 refine sC A6 [.tmp 2] 21 Tryz.func94 ?_
 intro e0 cx
 refine sq<|rG cx [1] [1] z0<|sn<|sq<|rG cx [1,3] [1] z0<|sn<|sq<|sq<|rG cx [3,8,10] [8] (fT (Am9 ([p]) ?g0) (oV 2 { val:=some (.ptr ((204:Nat)) (0) (0) (0)),row:=(Q3 c206 16 (C4 [p])) } z0)) ?_;rotate_left
 refine sn<|bL 0<|sL (X:=Int×Int×(Nat→List Run)) (fun x=>⟨[(3,.i .i64 (x.1)),(8,.ptr (8) (0) (0) (0)),(10,.i .i64 (x.2.1))],[(8,⟨0,204,.arr (Q3 c206 16 x.2.2)⟩)]⟩) (fun x ↦ decSz p x.1 x.2.1 x.2.2) (fun x ↦ B6w p x.1 x.2.1 x.2.2) [3,8,10] [8] (((0:Int),(0:Int),C4 [p])) (show B6w p (0:Int) (0:Int) (C4 [p])from ?g1) ?_;rotate_left
 rintro⟨s0,i1,T2⟩ h_3
 obtain⟨hh4,h5,h6,h7⟩:T2=C4 [p]∧0≤i1∧i1≤16∧s0=sizeT (C4 [p]) i1.toNat:=h_3
 refine rE cx [3,8,10,11] [8] (zB 0 (i1 <(16:Int))) (fun h8=>?_) fun h8=>?_
 refine sK<|sn<|sq<|bL 1<|sq<|rG cx [3,8,10,5] [8] (fA (0≤i1) (fO (i1 <(↑(16:Nat):Int)) (fP ((Q3 c206 16 T2)[i1.toNat*(1:Nat)+0]?=some (AV.sl (List.map c206 (T2 i1.toNat)))) (by((try simp only [Nat.mul_one,Nat.add_zero,Nat.zero_add]);with_reducible refine O7 ?_;omega)) (oR 2 [.sl (List.map c206 (T2 i1.toNat))] z0)))) ?_
 refine sn ?_
 have hl_9:=(V7 (T2 i1.toNat))
 refine rG cx [3,8,10] [8] (fT (con165 (T2 i1.toNat) ?g2) (tT 3 (C1 ?g3 ?g4:AV.i .i64 (IntKind.i64.wrap (s0+H9 (nrm (T2 i1.toNat))))=AV.i .i64 (s0+H9 (nrm (T2 i1.toNat)))) (oA 2 (.i .i64 (H9 (nrm (T2 i1.toNat)))) z0))) ?_;rotate_left 3
 refine bN<|sn<|rG cx [3,8,10] [8] (tW 0 (i1+1) z0)<|sn<|nX ((s0+H9 (nrm (T2 i1.toNat)),i1+1,T2)) (show(16-(i1+1)).toNat <(16-i1).toNat from(by omega)) (show B6w p (s0+H9 (nrm (T2 i1.toNat))) (i1+1) T2 from ?g5);rotate_left
 refine eX 0<|nE<|nE<|bH<|sn<|sq<|rG cx [2] [] z0<|sn<|rT<|qR (.i .i64 (s0)) (.eq ?g6);rotate_left
 rotate_left
 rotate_left
 clear hl_9;revert s0 i1 T2 hh4 h5 h6 h7 h8;rotate_left
 clear hl_9;revert s0 i1 T2 hh4 h5 h6 h7 h8;rotate_left
 clear hl_9;revert s0 i1 T2 hh4 h5 h6 h7 h8;rotate_left
 clear hl_9;revert s0 i1 T2 hh4 h5 h6 h7 h8;rotate_left
 revert s0 i1 T2 hh4 h5 h6 h7 h8;rotate_left
 case g0=>exact A8i hb
 case g1=>exact⟨rfl,by omega,by omega,rfl⟩
 case g2=>intro s i T h0 h1 h2 h3 h4;subst h0;exact Ab3 hb _
 case g3=>intro s i T h0 h1 h2 h3 h4;subst h0;have:=hz i.toNat;have:=hr i.toNat;omega
 case g4=>intro s i T h0 h1 h2 h3 h4;subst h0;have:=hz i.toNat;have:=hr i.toNat;omega
 case g5=>intro s i T h0 h1 h2 h3 h4;subst h0;exact⟨rfl,by omega,by omega,by rw[show(i+1).toNat=i.toNat+1 by omega,sizeT,h3]⟩
 case g6=>intro s i T h0 h1 h2 h3 h4;rw[h3,show i.toNat=16 by omega,Ah2]
theorem An4(p:Past)(hb:p.cloud.length*16≤140737488350000):Con Tryz.prog 22 [.agg (c26 p)] (.b (decide (E0 p=0))) :=
 by
 refine sC A6 [.tmp 2] 6 Tryz.func22 ?_
 intro e0 cx
 refine sq<|rG cx [1] [1] z0<|sn<|sq<|rG cx [2] [] (fT (con94 (p) (by(with_reducible assumption))) (tB 2 (E0 p=0) (oA 1 (.i .i64 (E0 p)) z0)))<|sn<|rT ?_
 exact A25 (r:=.b (decide (E0 p=0))) (obl:=[]) (by kernel_rfl) trivial (A3.refl _)
theorem con88(p:Past)(rep:Int)(hb:p.cloud.length*16≤140737488350000):Con Tryz.prog 88 [.agg (c26 p),.i .i64 rep] (.i .i64 (J0 p rep)) :=
 by
 refine sC A6 [.tmp 4] 19 Tryz.func88 ?_
 intro e0 cx
 refine sq<|rG cx [1,2] [2] z0<|sn<|sq<|sq<|A7 (σ':=⟨[(1,.i .i64 (rep)),(2,.ptr (2) (0) (0) (0)),(10,.b (decide (rep <(0:Int)∨16≤rep)))],[(2,⟨0,26,.var [.sl (List.map c3 p.vec),.sl (List.map A9 p.cloud)]⟩)]⟩) ?_ ?_
 refine A2 (rep <(0:Int)) (fun h_1=>?_) (fun h_1=>?_)
 refine rG cx [1,2,10] [2] (tT 1 (A1 h_1) (tD 5 true (rep <(0:Int)∨16≤rep) (by simp only [eq_true h_1,tsl]) z0)) ?_
 exact⟨rfl,by kernel_rfl⟩
 refine rG cx [1,2,10] [2] (tT 1 (A0 h_1) (tB 4 (16≤rep) (tD 5 (decide (16≤rep)) (rep <(0:Int)∨16≤rep) (by simp only [eq_false h_1,tsl]) z0))) ?_
 exact⟨rfl,by kernel_rfl⟩
 refine sn<|dC (rep <(0:Int)∨16≤rep) (fun h2=>?_) fun h2=>?_
 refine sq<|rG cx [4] [] z0<|sn<|rT<|nR<|qR (.i .i64 ((0:Int))) (.eq (by unfold J0;rw[if_pos h2]))
 refine sK<|sn<|sq<|rG cx [4] [] (fT (Am9 ([p]) (by exact A8i hb)) (fO (0≤rep) (fO (rep <(↑(16:Nat):Int)) (fP ((Q3 c206 16 (C4 [p]))[rep.toNat*(1:Nat)+0]?=some (AV.sl (List.map c206 (C4 [p] rep.toNat)))) (by((try simp only [Nat.mul_one,Nat.add_zero,Nat.zero_add]);with_reducible refine O7 ?_;omega)) (fT (B4u (C4 [p] rep.toNat)) (oV 2 { val:=some (.ptr ((204:Nat)) (0) (0) (0)),row:=(Q3 c206 16 (C4 [p])) } (oR 6 [.sl (List.map c206 (C4 [p] rep.toNat))] (oA 7 (Ap2 (B4u (C4 [p] rep.toNat))) z0)))))))) ?_
 refine sn<|rT<|qR (.i .i64 (A4i (C4 [p] rep.toNat))) (.eq (by unfold J0;rw[if_neg h2]))
theorem con273(p:Past)(rep lim:Int)(hb:p.cloud.length*16≤140737488350000):Con Tryz.prog 273 [.agg (c26 p),.i .i64 rep,.i .i64 lim] (.tup [.agg (c44 (H6 p rep lim).1),.i .i64 (H6 p rep lim).2]) :=
 by
 have hl:=A2i p rep
 refine sC A6 [.cell 6 44,.tmp 7] 28 Tryz.func273 ?_
 intro e0 cx
 refine sq<|rG cx [1,2,3,6] [3,6] z0<|sn<|sq<|sq<|A7 (σ':=⟨[(1,.i .i64 (rep)),(2,.i .i64 (lim)),(3,.ptr (3) (0) (0) (0)),(6,.ptr (6) (0) (0) (0)),(14,.b (decide (rep <(0:Int)∨16≤rep)))],[(3,⟨0,26,.var [.sl (List.map c3 p.vec),.sl (List.map A9 p.cloud)]⟩),(6,⟨0,44,.var [.i .i64 ((0:Int)),.i .i64 ((0:Int))]⟩)]⟩) ?_ ?_
 refine A2 (rep <(0:Int)) (fun h_1=>?_) (fun h_1=>?_)
 refine rG cx [1,2,3,6,14] [3,6] (tT 1 (A1 h_1) (tD 5 true (rep <(0:Int)∨16≤rep) (by simp only [eq_true h_1,tsl]) z0)) ?_
 exact⟨rfl,by kernel_rfl⟩
 refine rG cx [1,2,3,6,14] [3,6] (tT 1 (A0 h_1) (tB 4 (16≤rep) (tD 5 (decide (16≤rep)) (rep <(0:Int)∨16≤rep) (by simp only [eq_false h_1,tsl]) z0))) ?_
 exact⟨rfl,by kernel_rfl⟩
 refine sn<|dC (rep <(0:Int)∨16≤rep) (fun h2=>?_) fun h2=>?_
 refine sq<|rG cx [6,7] [6] z0<|sn<|rT<|nR<|qR (.tup [.agg [.i .i64 ((0:Int)),.i .i64 ((0:Int))],.i .i64 ((3:Int))]) (A3.tup (ZLe.cons (A3.eq (show AV.agg [AV.i .i64 (0:Int),AV.i .i64 (0:Int)]=AV.agg [AV.i .i64 (H6 p rep lim).1.rep,AV.i .i64 (H6 p rep lim).1.num]from(by unfold H6;rw[if_pos h2];rfl))) (ZLe.cons (A3.eq (show AV.i .i64 3=AV.i .i64 (H6 p rep lim).2 from(by unfold H6;rw[if_pos h2]))) ZLe.nil)))
 refine sK<|sn<|sq<|rG cx [1,2,6,8] [6] (fT (con88 (p) (rep) (by(with_reducible assumption))) (oA 2 (.i .i64 (J0 p rep)) z0))<|sn<|sq<|rD cx [1,6,8,22] [6] (tT 2 (A2f:AV.i .i64 (if(1000000000:Int) < lim then(1000000000:Int)else lim)=AV.i .i64 (min lim (1000000000:Int))) (zB 3 (min lim 1000000000≤J0 p rep))) (fun h3=>?_) fun h3=>?_
 refine sq<|rG cx [6,7] [6] z0<|sn<|rT<|nR<|qR (.tup [.agg [.i .i64 ((0:Int)),.i .i64 ((0:Int))],.i .i64 ((9:Int))]) (A3.tup (ZLe.cons (A3.eq (show AV.agg [AV.i .i64 (0:Int),AV.i .i64 (0:Int)]=AV.agg [AV.i .i64 (H6 p rep lim).1.rep,AV.i .i64 (H6 p rep lim).1.num]from(by unfold H6;rw[if_neg h2,if_pos h3];rfl))) (ZLe.cons (A3.eq (show AV.i .i64 9=AV.i .i64 (H6 p rep lim).2 from(by unfold H6;rw[if_neg h2,if_pos h3]))) ZLe.nil)))
 refine sK<|sn<|sq<|rG cx [6,7] [6] (tT 2 (C1 (by omega) (by omega):AV.i .i64 (IntKind.i64.wrap (J0 p rep+1))=AV.i .i64 (J0 p rep+1)) z0) ?_
 refine sn<|rT<|qR (.tup [.agg [.i .i64 (rep),.i .i64 (J0 p rep+1)],.i .i64 ((0:Int))]) (A3.tup (ZLe.cons (A3.eq (show AV.agg [AV.i .i64 rep,AV.i .i64 (J0 p rep+1)]=AV.agg [AV.i .i64 (H6 p rep lim).1.rep,AV.i .i64 (H6 p rep lim).1.num]from(by unfold H6;rw[if_neg h2,if_neg h3]))) (ZLe.cons (A3.eq (show AV.i .i64 0=AV.i .i64 (H6 p rep lim).2 from(by unfold H6;rw[if_neg h2,if_neg h3]))) ZLe.nil)))
end Go.Proofs.YtphcaholhacnpaaGreat
namespace Go.Proofs.YtphcaholhacnpaaGreat
open Go.E
set_option maxRecDepth 100000
set_option maxHeartbeats 4000000
def szR(r:Record):Prop:=r.past.cloud.length*16≤140737488350000
def B88(rs:List Record):Prop:=∀ r∈rs,szR r
theorem A6n{rs:List Record}(h:B88 rs){i:Int}(h0:0≤i)(hi:i < rs.length):szR rs[i.toNat]!:=h _ (H5 (by omega))
theorem B2w{rs:List Record}(h:B88 rs){i:Int}(h0:0 < i)(hi:i < rs.length):szR rs[(i-1).toNat]!:=h _ (H5 (by omega))
def B2x(rs:List Record)(i:Int):Prop:=0≤i∧i≤rs.length∧∀ j:Nat,(j:Int) < i→B2s rs j=true
def decKc(rs:List Record)(i:Int):Nat:=(rs.length-i).toNat
theorem An5{rs:List Record}{i:Int}(h0:0≤i)(h1:i < rs.length)(h2:∀ j:Nat,(j:Int) < i→B2s rs j=true)(h:B2s rs i.toNat=true):B2x rs (i+1) :=
 ⟨by omega,by omega,fun j hj=>by
  by_cases e:j=i.toNat
  ·rw[e];exact h
  ·exact h2 j (by omega)⟩
theorem Ax0(r:Record)(hb:szR r):Con Tryz.prog 204 [.agg (c54 r)] (.i .i64 (ckR r)) :=
 by
 have g:∀ {b:Bool},¬ b=true→b=false:=fun {b} h=>by cases b <;> simp_all
 refine sC A6 [.tmp 2] 21 Tryz.func204 ?_
 intro e0 cx
 refine sq<|rG cx [1] [1] z0<|sn<|sq<|sq<|A7 (σ':=⟨[(1,.ptr (1) (0) (0) (0)),(11,.b (decide (¬r.sku={ data:=#[]:ByteArray }∧¬J6 r.sku=true)))],[(1,⟨0,54,.var [.s (r.sku),.sl (List.map c3 r.past.vec),.sl (List.map A9 r.past.cloud)]⟩)]⟩) ?_ ?_
 refine A2 (¬r.sku={ data:=#[]:ByteArray }) (fun h_1=>?_) (fun h_1=>?_)
 refine rG cx [1,11] [1] (tT 2 (As3 h_1:(AV.b !r.sku.toList == { data:=#[]:ByteArray }.toList)=AV.b true) (fT (A8h (r.sku)) (tT 7 (G7:(AV.b !J6 r.sku)=AV.b (decide ¬J6 r.sku=true)) (tD 8 (decide ¬J6 r.sku=true) (¬r.sku={ data:=#[]:ByteArray }∧¬J6 r.sku=true) (by simp only [eq_false h_1,tsl]) (oA 6 (.b (J6 r.sku)) z0))))) ?_
 exact⟨rfl,by kernel_rfl⟩
 refine rG cx [1,11] [1] (tT 2 (B1z:(AV.b !r.sku.toList == { data:=#[]:ByteArray }.toList)=AV.b (decide ¬r.sku={ data:=#[]:ByteArray })) (tT 3 (A0 h_1) (tT 8 (by first | (simp only [eq_false h_1,tsl];done) | simp_all:AV.b false=AV.b (decide (¬r.sku={ data:=#[]:ByteArray }∧¬J6 r.sku=true))) z0))) ?_
 exact⟨rfl,by kernel_rfl⟩
 refine sn<|dC (¬r.sku={ data:=#[]:ByteArray }∧¬J6 r.sku=true) (fun h2=>?_) fun h2=>?_
 refine sq<|rG cx [2] [] z0<|sn<|rT<|nR<|qR (.i .i64 ((5:Int))) (.eq (by unfold ckR;rw[if_pos ⟨h2.1,g h2.2⟩]))
 refine sK<|sn<|sq<|sq<|A7 (σ':=⟨[(20,.b (decide (¬r.past=A4 r.past∨E0 r.past=0)))],[]⟩) ?_ ?_
 refine A2 (¬r.past=A4 r.past) (fun h4=>?_) (fun h4=>?_)
 refine rg (A:=_∧_∧(AV.b true=AV.b (decide (¬r.past=A4 r.past∨E0 r.past=0)))) cx [(2,{ val:=some (.b (decide (r.past=A4 r.past))),tell:=some (.b (false)) }),(8,{ tell:=some (.b (decide (¬r.past=A4 r.past∨E0 r.past=0))) })] [20] [] ⟨(A0 h4),(A0m (r.past) (by exact hb)),(by simp only [eq_false h4,tsl])⟩ ?_
 exact⟨rfl,by kernel_rfl⟩
 refine rG cx [20] [] (fT (A0m (r.past) (by exact hb)) (tQ 3 (r.past=A4 r.past) (tT 4 (A0 h4) (fT (An4 (r.past) (by exact hb)) (tT 8 (by first | (simp only [eq_false h4,tsl];done) | simp_all:AV.b (decide (E0 r.past=0))=AV.b (decide (¬r.past=A4 r.past∨E0 r.past=0))) (oA 2 (.b (decide (r.past=A4 r.past))) (oA 7 (.b (decide (E0 r.past=0))) z0))))))) ?_
 exact⟨rfl,by kernel_rfl⟩
 refine sn<|dC (¬r.past=A4 r.past∨E0 r.past=0) (fun h5=>?_) fun h5=>?_
 refine sq<|rG cx [2] [] z0<|sn<|rT<|nR<|qR (.i .i64 ((1:Int))) (.eq (by unfold ckR;rw[if_neg (fun c=>h2 ⟨c.1,by rw[c.2];simp⟩),if_pos h5]))
 refine sK<|sn<|sq<|rG cx [2] [] z0<|sn<|rT<|qR (.i .i64 ((0:Int))) (.eq (by unfold ckR;rw[if_neg (fun c=>h2 ⟨c.1,by rw[c.2];simp⟩),if_neg h5]))
theorem con141(r s:Record)(hr:szR r)(hs:szR s):Con Tryz.prog 141 [.agg (c54 r),.agg (c54 s)] (.i .i64 (L1 r s)) :=
 by
 refine sC A6 [.tmp 4] 19 Tryz.func141 ?_
 intro e0 cx
 refine sq<|rG cx [2,3] [2,3] z0<|sn<|sq<|sq<|rG cx [2,3,5] [2,3] (fT (con194 (r.sku) (s.sku)) (oA 4 (.i .i64 (A0p r.sku s.sku)) z0))<|sn<|sq<|rG cx [2,3,5,12] [2,3] (tN 1 (A0p r.sku s.sku) (0:Int) z0)<|sn<|dC (¬A0p r.sku s.sku=0) (fun h0=>?_) fun h0=>?_
 refine sq<|rG cx [4] [] z0<|sn<|rT<|nR<|qR (.i .i64 (A0p r.sku s.sku)) (.eq (by unfold L1;rw[if_pos h0]))
 refine sK<|sn<|sq<|rG cx [4] [] (fT (con195 (r.past) (s.past) (by exact hr) (by exact hs)) (oA 4 (.i .i64 (B10 r.past s.past)) z0)) ?_
 refine sn<|rT<|qR (.i .i64 (B10 r.past s.past)) (.eq (by unfold L1;rw[if_neg h0]))
theorem Ax1(rs:List Record)(hb:B88 rs):Con Tryz.prog 160 [.sl (rs.map c54)] (.i .i64 (R3 rs)) :=
 by
 have e:∀ {i:Int},0≤i→(i-1).toNat=i.toNat-1:=fun {i} h=>by omega
 refine lN 0 c54 (rs) Tryz.func160 fun hl_0=>sC A6 [.tmp 2] 30 Tryz.func160 ?_
 intro e0 cx
 refine sq<|rG cx [0] [] z0<|sn<|sq<|sq<|rG cx [0,5,6,7] [] (tL 1 c54 rs z0)<|sn<|bL 0<|sL (X:=Int) (fun x=>⟨[(0,.sl (List.map c54 rs)),(5,.sl (List.map c54 rs)),(6,.i .i64 ((↑rs.length:Int))),(7,.i .i64 (x))],[]⟩) (fun x ↦ decKc rs x) (fun x ↦ B2x rs x) [0,5,6,7] [] ((0:Int)) (show B2x rs (0:Int)from(by exact⟨by omega,by omega,fun j hj=>by omega⟩)) ?_
 intro i0 h_1
 obtain⟨hh2,hh3,hh4⟩:0≤i0∧i0≤(↑rs.length:Int)∧∀(j:Nat),(↑j:Int) < i0→B2s rs j=true:=h_1
 refine rE cx [0,5,6,7,8] [] (zB 0 (i0 <(↑rs.length:Int))) (fun hh5=>?_) fun hh5=>?_
 refine sK<|sn<|sq<|bL 1<|sq<|rG cx [0,5,6,7,4,3] [4] (fA (0≤i0) (fG c54 rs i0.toNat (fR 3 (fN 3 3 (oR 1 (c54 rs[i0.toNat]!) z0)))))<|sn<|sq<|A7 (σ':=⟨[(0,.sl (List.map c54 rs)),(5,.sl (List.map c54 rs)),(6,.i .i64 ((↑rs.length:Int))),(7,.i .i64 (i0)),(28,.b (decide (¬ckR rs[i0.toNat]! =(0:Int)∨(0:Int) < i0∧0≤L1 rs[(i0-1).toNat]! rs[i0.toNat]!)))],[]⟩) ?_ ?_
 refine A2 (¬ckR rs[i0.toNat]! =(0:Int)) (fun h7=>?_) (fun h7=>?_)
 refine rA cx [0,5,6,7,28] [] (fT (Ax0 (rs[i0.toNat]!) (by exact A6n hb hh2 hh5)) (tT 2 (E1 h7:AV.b (ckR rs[i0.toNat]! !=0)=AV.b true) (tD 16 true (¬ckR rs[i0.toNat]! =(0:Int)∨(0:Int) < i0∧0≤L1 rs[(i0-1).toNat]! rs[i0.toNat]!) (by simp only [eq_false h7,tsl]) (oA 1 (.i .i64 (ckR rs[i0.toNat]!)) z0)))) ?_
 exact⟨rfl,by kernel_rfl⟩
 refine A2 ((0:Int) < i0) (fun h8=>?_) (fun h8=>?_)
 refine rA cx [0,5,6,7,28] [] (fT (Ax0 (rs[i0.toNat]!) (by exact A6n hb hh2 hh5)) (tN 2 (ckR rs[i0.toNat]!) (0:Int) (tT 3 (A0 h7) (tT 5 (A1 h8) (tW 9 (i0-1) (fO (0≤i0-1) (fG c54 rs ((i0-1).toNat) (fR 3 (fN 3 3 (fT (con141 (rs[(i0-1).toNat]!) (rs[i0.toNat]!) (by exact B2w hb h8 hh5) (by exact A6n hb hh2 hh5)) (tB 14 (0≤L1 rs[(i0-1).toNat]! rs[i0.toNat]!) (tT 16 (by first | (simp only [eq_false h7,eq_true h8,tsl];done) | simp_all:AV.b (decide (0≤L1 rs[(i0-1).toNat]! rs[i0.toNat]!))=AV.b (decide (¬ckR rs[i0.toNat]! =(0:Int)∨(0:Int) < i0∧0≤L1 rs[(i0-1).toNat]! rs[i0.toNat]!))) (oA 1 (.i .i64 (ckR rs[i0.toNat]!)) (oR 10 (c54 rs[(i0-1).toNat]!) (oA 13 (.i .i64 (L1 rs[(i0-1).toNat]! rs[i0.toNat]!)) z0))))))))))))))) ?_
 exact⟨rfl,by kernel_rfl⟩
 refine rA cx [0,5,6,7,28] [] (fT (Ax0 (rs[i0.toNat]!) (by exact A6n hb hh2 hh5)) (tN 2 (ckR rs[i0.toNat]!) (0:Int) (tT 3 (A0 h7) (tT 5 (A0 h8) (tT 16 (by first | (simp only [eq_false h7,eq_false h8,tsl];done) | simp_all:AV.b false=AV.b (decide (¬ckR rs[i0.toNat]! =(0:Int)∨(0:Int) < i0∧0≤L1 rs[(i0-1).toNat]! rs[i0.toNat]!))) (oA 1 (.i .i64 (ckR rs[i0.toNat]!)) z0)))))) ?_
 exact⟨rfl,by kernel_rfl⟩
 refine sn<|dC (¬ckR rs[i0.toNat]! =(0:Int)∨(0:Int) < i0∧0≤L1 rs[(i0-1).toNat]! rs[i0.toNat]!) (fun h9=>?_) fun h9=>?_
 refine sq<|rG cx [2] [] z0<|sn<|rT<|bR<|nR<|nR<|bR<|nR<|qR (.i .i64 ((1:Int))) (.eq ?g6);rotate_left
 refine sK<|bN<|sn<|rG cx [0,5,6,7] [] (tW 0 (i0+1) z0)<|sn<|nX (i0+1) (show((↑rs.length:Int)-(i0+1)).toNat <((↑rs.length:Int)-i0).toNat from(by omega)) (show B2x rs (i0+1)from ?g7);rotate_left
 refine eX 0<|nE<|nE<|bH<|sn<|sq<|rG cx [2] [] z0<|sn<|rT<|qR (.i .i64 ((0:Int))) (.eq (by rw[B6v fun j hj=>hh4 j (by omega)]))
 case g6 =>
  revert i0 hh2 hh3 hh4 hh5 h9
  intro i h0 h1 h2 h3 h4
  rw[B2u (i:=i.toNat) (by omega)]
  rw[e h0]at h4
  rw[A0s]
  rintro⟨a,b⟩
  rcases h4 with h4 | ⟨h4,h5⟩
  ·exact h4 a
  ·omega
 case g7 =>
  rw[e hh2]at h9
  refine An5 hh2 hh5 hh4 ((A0s _ _).2 ⟨Classical.byContradiction fun a=>h9 (.inl a),?_⟩)
  by_cases c:i0.toNat=0
  ·exact .inl c
  ·exact .inr (Classical.byContradiction fun a=>h9 (.inr ⟨by omega,by omega⟩))
end Go.Proofs.YtphcaholhacnpaaGreat
namespace Go.Proofs.YtphcaholhacnpaaGreat
open Go.E
set_option maxRecDepth 100000
set_option maxHeartbeats 4000000
def cntI(l:List Int)(n:Int):Nat:=l.countP (fun x=>decide (x≤n))
theorem cnt_zero{l:List Int}{n:Int}(h:∀ x∈l,n < x):cntI l n=0:=by
 unfold cntI
 rw[List.countP_eq_zero]
 intro x hx
 have:=h x hx
 simp
 omega
end Go.Proofs.YtphcaholhacnpaaGreat
namespace Go.Proofs.YtphcaholhacnpaaGreat
open Go.E
set_option maxRecDepth 100000
set_option maxHeartbeats 4000000
def Ab4(x y:List Run)(i j:Int)(o:List Run):Prop:=o++P7 (x.drop i.toNat) (y.drop j.toNat)=P7 x y
def An6(x y:List Run)(i j:Int)(o:List Run):Prop:=0≤i∧i≤x.length∧0≤j∧j≤y.length∧(o.length:Int)≤i+j∧Ab4 x y i j o
def decMe(x y:List Run)(i j:Int)(o:List Run):Nat:=(x.length-i+(y.length-j)).toNat
theorem B2y{a:List Run}{i:Int}(h0:0≤i)(h:i < a.length):a.drop i.toNat=a[i.toNat]! :: a.drop (i+1).toNat:=by
 rw[show(i+1).toNat=i.toNat+1 by omega,getElem!_pos a i.toNat (by omega)]
 exact List.drop_eq_getElem_cons (by omega)
theorem Ah6{a:List Run}{i:Int}(h:¬ i < a.length):a.drop i.toNat=[]:=List.drop_of_length_le (by omega)
theorem A6o{x y o:List Run}{i j:Int}(h0:0≤i)(hi:i < x.length)(j0:0≤j)(hj:j < y.length)(h:Ab4 x y i j o) :
  (o++if max x[i.toNat]!.lo y[j.toNat]!.lo≤min x[i.toNat]!.hi y[j.toNat]!.hi then[⟨max x[i.toNat]!.lo y[j.toNat]!.lo,min x[i.toNat]!.hi y[j.toNat]!.hi⟩]else[]) ++
   (if x[i.toNat]!.hi < y[j.toNat]!.hi then P7 (x.drop (i+1).toNat) (y.drop j.toNat)else P7 (x.drop i.toNat) (y.drop (j+1).toNat))=P7 x y:=by
 unfold Ab4 at h
 rw[← h,B2y h0 hi,B2y j0 hj,X9,List.append_assoc]
theorem me_in1{x y o:List Run}{i j:Int}(h0:0≤i)(hi:i < x.length)(j0:0≤j)(hj:j < y.length)(h:Ab4 x y i j o)(c:max x[i.toNat]!.lo y[j.toNat]!.lo≤min x[i.toNat]!.hi y[j.toNat]!.hi)(d:x[i.toNat]!.hi < y[j.toNat]!.hi) :
  Ab4 x y (i+1) j (o++[⟨max x[i.toNat]!.lo y[j.toNat]!.lo,min x[i.toNat]!.hi y[j.toNat]!.hi⟩]):=by
 have:=A6o h0 hi j0 hj h
 rw[if_pos c,if_pos d]at this
 exact this
theorem me_in2{x y o:List Run}{i j:Int}(h0:0≤i)(hi:i < x.length)(j0:0≤j)(hj:j < y.length)(h:Ab4 x y i j o)(c:max x[i.toNat]!.lo y[j.toNat]!.lo≤min x[i.toNat]!.hi y[j.toNat]!.hi)(d:¬ x[i.toNat]!.hi < y[j.toNat]!.hi) :
  Ab4 x y i (j+1) (o++[⟨max x[i.toNat]!.lo y[j.toNat]!.lo,min x[i.toNat]!.hi y[j.toNat]!.hi⟩]):=by
 have:=A6o h0 hi j0 hj h
 rw[if_pos c,if_neg d]at this
 exact this
theorem B6x{x y o:List Run}{i j:Int}(h0:0≤i)(hi:i < x.length)(j0:0≤j)(hj:j < y.length)(h:Ab4 x y i j o)(c:¬ max x[i.toNat]!.lo y[j.toNat]!.lo≤min x[i.toNat]!.hi y[j.toNat]!.hi)(d:x[i.toNat]!.hi < y[j.toNat]!.hi):Ab4 x y (i+1) j o:=by
 have:=A6o h0 hi j0 hj h
 rw[if_neg c,if_pos d,List.append_nil]at this
 exact this
theorem B6y{x y o:List Run}{i j:Int}(h0:0≤i)(hi:i < x.length)(j0:0≤j)(hj:j < y.length)(h:Ab4 x y i j o)(c:¬ max x[i.toNat]!.lo y[j.toNat]!.lo≤min x[i.toNat]!.hi y[j.toNat]!.hi)(d:¬ x[i.toNat]!.hi < y[j.toNat]!.hi):Ab4 x y i (j+1) o:=by
 have:=A6o h0 hi j0 hj h
 rw[if_neg c,if_neg d,List.append_nil]at this
 exact this
theorem me_end{x y o:List Run}{i j:Int}(hn:¬(i < x.length∧j < y.length))(h:Ab4 x y i j o):o=P7 x y:=by
 unfold Ab4 at h
 by_cases hi:i < x.length
 ·rw[Ah6 (a:=y) (i:=j) (fun k=>hn ⟨hi,k⟩),X8,List.append_nil]at h
  exact h
 ·rw[Ah6 hi,N6,List.append_nil]at h
  exact h
theorem B2z(x y:List Run):Ab4 x y 0 0 []:=rfl
def Ap5(n:List Run)(x i:Int)(o:List Run):Prop:=o++A27 x (n.drop i.toNat)=A27 1 n
def B30(n:List Run)(x i:Int)(o:List Run):Prop:=0≤i∧i≤n.length∧(o.length:Int)≤i∧1≤x∧x≤1000000001∧Ap5 n x i o
def decOt(n:List Run)(x i:Int)(o:List Run):Nat:=(n.length-i).toNat
theorem ot_in{n o:List Run}{x i:Int}(h0:0≤i)(hi:i < n.length)(h:Ap5 n x i o)(c:x < n[i.toNat]!.lo):Ap5 n (n[i.toNat]!.hi+1) (i+1) (o++[⟨x,n[i.toNat]!.lo-1⟩]):=by
 unfold Ap5 at *
 rw[B2y h0 hi,A27,if_pos c,← List.append_assoc]at h
 exact h
theorem ot_out{n o:List Run}{x i:Int}(h0:0≤i)(hi:i < n.length)(h:Ap5 n x i o)(c:¬ x < n[i.toNat]!.lo):Ap5 n (n[i.toNat]!.hi+1) (i+1) o:=by
 unfold Ap5 at *
 rw[B2y h0 hi,A27,if_neg c,List.nil_append]at h
 exact h
theorem B6z{n o:List Run}{x i:Int}(hi:¬ i < n.length)(h:Ap5 n x i o)(c:x≤1000000000):o++[⟨x,1000000000⟩]=A27 1 n:=by
 unfold Ap5 at h
 rw[Ah6 hi,A27,if_pos c]at h
 exact h
theorem B70{n o:List Run}{x i:Int}(hi:¬ i < n.length)(h:Ap5 n x i o)(c:¬ x≤1000000000):o=A27 1 n:=by
 unfold Ap5 at h
 rw[Ah6 hi,A27,if_neg c,List.append_nil]at h
 exact h
def B71(A B:Nat→List Run)(r:Int)(T:Nat→List Run):Prop:=∀ k:Nat,k < 16→T k=if(k:Int) < r then A8c (A k) (B k)else A k
def B72(A B:Nat→List Run)(r:Int)(T U:Nat→List Run):Prop:=U=B∧0≤r∧r≤16∧B71 A B r T
def decEa(r:Int)(T U:Nat→List Run):Nat:=(16-r).toNat
theorem B31(A B:Nat→List Run):B71 A B 0 A:=fun k _=>by rw[if_neg (by omega)]
theorem ea_at{A B T:Nat→List Run}{r:Int}(h0:0≤r)(h1:r < 16)(h:B71 A B r T):T r.toNat=A r.toNat:=by
 rw[h r.toNat (by omega),if_neg (by omega)]
theorem B73{A B T:Nat→List Run}{r:Int}(h0:0≤r)(h1:r < 16)(h:B71 A B r T):B71 A B (r+1) (A1z T r.toNat (A8c (T r.toNat) (B r.toNat))):=by
 intro k hk
 unfold A1z
 by_cases e:k=r.toNat
 ·subst e
  rw[if_pos rfl,if_pos (by omega),ea_at h0 h1 h]
 ·rw[if_neg e,h k hk]
  by_cases c:(k:Int) < r
  ·rw[if_pos c,if_pos (by omega)]
  ·rw[if_neg c,if_neg (by omega)]
theorem ea_end{A B T:Nat→List Run}{r:Int}(hr:r≤16)(h1:¬ r < 16)(h:B71 A B r T):I9 T=I9 fun k=>A8c (A k) (B k):=X6 fun k hk=>by
 rw[h k hk,if_pos (by omega)]
theorem con224(a b:List Run)(ha:a.length*16≤140737488351232)(hb:b.length*16≤140737488351232):Con Tryz.prog 224 [.sl (a.map c206),.sl (b.map c206)] (.sl ((metR a b).map c206)) :=
 by
 have h1:=X4 (E5 a)
 have h2:=X4 (E5 b)
 refine lN 0 c206 (a) Tryz.func224 fun hl_0=>lN 1 c206 (b) Tryz.func224 fun hl_1=>sC A6 [.tmp 4] 73 Tryz.func224 ?_
 intro e0 cx
 refine sq<|rG cx [0,1] [] z0<|sn<|sq ?_
 have hl_0:=(V7 a)
 have hl_1:=(V7 b)
 refine rG cx [5,6] [] (fT (A84 (a) (by(with_reducible assumption))) (fT (A84 (b) (by(with_reducible assumption))) (oA 1 (.sl (List.map c206 (nrm a))) (oA 3 (.sl (List.map c206 (nrm b))) z0))))<|sn<|sq<|rG cx [5,6,7] [] z0<|sn<|sq<|sq<|rG cx [5,6,7,8,9] [] z0<|sn<|bL 0<|G3 7 1007 206 2 (σ':=⟨[(5,.sl (List.map c206 (nrm a))),(6,.sl (List.map c206 (nrm b))),(7,.own 1007 0),(8,.i .i64 ((0:Int))),(9,.i .i64 ((0:Int)))],[(1007,⟨0,206,.row 2 (List.map c206 [])⟩)]⟩) (by kernel_rfl)<|sL (X:=Int×Int×List Run) (fun x=>⟨[(5,.sl (List.map c206 (nrm a))),(6,.sl (List.map c206 (nrm b))),(7,.own 1007 0),(8,.i .i64 (x.1)),(9,.i .i64 (x.2.1))],[(1007,⟨0,206,.row 2 (List.map c206 x.2.2)⟩)]⟩) (fun x ↦ decMe (nrm a) (nrm b) x.1 x.2.1 x.2.2) (fun x ↦ An6 (nrm a) (nrm b) x.1 x.2.1 x.2.2) [5,6,7,8,9] [1007] (((0:Int),(0:Int),[])) (show An6 (nrm a) (nrm b) (0:Int) (0:Int) []from(by exact⟨by omega,by omega,by omega,by omega,by simp,B2z _ _⟩)) ?_
 rintro⟨i2,j3,o4⟩ h_5
 obtain⟨h6,h7,h8,h9,h10,h11⟩:0≤i2∧i2≤(↑(nrm a).length:Int)∧0≤j3∧j3≤(↑(nrm b).length:Int)∧(↑o4.length:Int)≤i2+j3∧Ab4 (nrm a) (nrm b) i2 j3 o4:=h_5
 refine sq<|sq<|A7 (σ':=⟨[(5,.sl (List.map c206 (nrm a))),(6,.sl (List.map c206 (nrm b))),(7,.own 1007 0),(8,.i .i64 (i2)),(9,.i .i64 (j3)),(24,.b (decide (i2 <(↑(nrm a).length:Int)∧j3 <(↑(nrm b).length:Int))))],[(1007,⟨0,206,.row 2 (List.map c206 o4)⟩)]⟩) ?_ ?_
 refine A2 (i2 <(↑(nrm a).length:Int)) (fun h_13=>?_) (fun h_13=>?_)
 refine rG cx [5,6,7,8,9,24] [1007] (tL 2 c206 (nrm a) (tT 3 (A1 h_13) (tL 7 c206 (nrm b) (tB 8 (j3 <(↑(nrm b).length:Int)) (tD 9 (decide (j3 <(↑(nrm b).length:Int))) (i2 <(↑(nrm a).length:Int)∧j3 <(↑(nrm b).length:Int)) (by simp only [eq_true h_13,tsl]) z0))))) ?_
 exact⟨rfl,by kernel_rfl⟩
 refine rG cx [5,6,7,8,9,24] [1007] (tL 2 c206 (nrm a) (tT 3 (A0 h_13) (tD 9 false (i2 <(↑(nrm a).length:Int)∧j3 <(↑(nrm b).length:Int)) (by simp only [eq_false h_13,tsl]) z0))) ?_
 exact⟨rfl,by kernel_rfl⟩
 refine sn<|dC (i2 <(↑(nrm a).length:Int)∧j3 <(↑(nrm b).length:Int)) (fun h14=>?_) fun h14=>?_
 refine sK<|sn<|bL 1<|sq<|rA cx [5,6,7,8,9,10] [1007,10] (fA (0≤i2) (fG c206 (nrm a) i2.toNat (fR 2 (fA (0≤j3) (fG c206 (nrm b) j3.toNat (fR 2 (tT 10 (A2e:AV.i .i64 (if(nrm b)[j3.toNat]!.lo >(nrm a)[i2.toNat]!.lo then(nrm b)[j3.toNat]!.lo else(nrm a)[i2.toNat]!.lo)=AV.i .i64 (max (nrm a)[i2.toNat]!.lo (nrm b)[j3.toNat]!.lo)) (fA (0≤i2) (fG c206 (nrm a) i2.toNat (fR 2 (fA (0≤j3) (fG c206 (nrm b) j3.toNat (fR 2 (tT 21 (A2f:AV.i .i64 (if(nrm b)[j3.toNat]!.hi <(nrm a)[i2.toNat]!.hi then(nrm b)[j3.toNat]!.hi else(nrm a)[i2.toNat]!.hi)=AV.i .i64 (min (nrm a)[i2.toNat]!.hi (nrm b)[j3.toNat]!.hi)) (oR 2 (c206 (nrm a)[i2.toNat]!) (oR 7 (c206 (nrm b)[j3.toNat]!) (oR 13 (c206 (nrm a)[i2.toNat]!) (oR 18 (c206 (nrm b)[j3.toNat]!) z0))))))))))))))))))<|sn<|sq<|rD cx [5,6,7,8,9,10,52] [1007,10] (zB 4 (max (nrm a)[i2.toNat]!.lo (nrm b)[j3.toNat]!.lo≤min (nrm a)[i2.toNat]!.hi (nrm b)[j3.toNat]!.hi)) (fun h15=>?_) fun h15=>?_
 refine rG cx [5,6,7,8,9] [1007] (fR 206 (fR 2 (fR 2 (fX c206 [{ lo:=max (nrm a)[i2.toNat]!.lo (nrm b)[j3.toNat]!.lo,hi:=min (nrm a)[i2.toNat]!.hi (nrm b)[j3.toNat]!.hi:Run }] 2 (fS c206 o4 c206 [{ lo:=max (nrm a)[i2.toNat]!.lo (nrm b)[j3.toNat]!.lo,hi:=min (nrm a)[i2.toNat]!.hi (nrm b)[j3.toNat]!.hi:Run }] (fP (((List.map c206 o4).length+(List.map c206 [{ lo:=max (nrm a)[i2.toNat]!.lo (nrm b)[j3.toNat]!.lo,hi:=min (nrm a)[i2.toNat]!.hi (nrm b)[j3.toNat]!.hi:Run }]).length)*(16:Nat)≤(140737488355328:Nat)) (by simp only [List.length_map,List.length_cons,List.length_nil];omega) (fM c206 o4 [{ lo:=max (nrm a)[i2.toNat]!.lo (nrm b)[j3.toNat]!.lo,hi:=min (nrm a)[i2.toNat]!.hi (nrm b)[j3.toNat]!.hi:Run }] (oV 3 { rows:=some (List.map c206 (o4++[{ lo:=max (nrm a)[i2.toNat]!.lo (nrm b)[j3.toNat]!.lo,hi:=min (nrm a)[i2.toNat]!.hi (nrm b)[j3.toNat]!.hi:Run }])) } z0)))))))) ?_
 refine sn<|sq<|rA cx [5,6,7,8,9,67] [1007] (fA (0≤i2) (fG c206 (nrm a) i2.toNat (fR 2 (fA (0≤j3) (fG c206 (nrm b) j3.toNat (fR 2 (tB 10 ((nrm a)[i2.toNat]!.hi <(nrm b)[j3.toNat]!.hi) (oR 2 (c206 (nrm a)[i2.toNat]!) (oR 7 (c206 (nrm b)[j3.toNat]!) z0)))))))))<|sn<|dC ((nrm a)[i2.toNat]!.hi <(nrm b)[j3.toNat]!.hi) (fun h16=>?_) fun h16=>?_
 refine rG cx [5,6,7,8,9] [1007] (tW 1 (i2+1) z0)<|bN<|sn<|nX ((i2+1,j3,o4++[{ lo:=max (nrm a)[i2.toNat]!.lo (nrm b)[j3.toNat]!.lo,hi:=min (nrm a)[i2.toNat]!.hi (nrm b)[j3.toNat]!.hi:Run }])) (show((↑(nrm a).length:Int)-(i2+1)+((↑(nrm b).length:Int)-j3)).toNat <((↑(nrm a).length:Int)-i2+((↑(nrm b).length:Int)-j3)).toNat from(by omega)) (show An6 (nrm a) (nrm b) (i2+1) j3 (o4++[{ lo:=max (nrm a)[i2.toNat]!.lo (nrm b)[j3.toNat]!.lo,hi:=min (nrm a)[i2.toNat]!.hi (nrm b)[j3.toNat]!.hi:Run }])from(by exact⟨by omega,by omega,by omega,by omega,by simp only [List.length_append,List.length_cons,List.length_nil];omega,me_in1 h6 h14.1 h8 h14.2 h11 h15 h16⟩))
 refine rG cx [5,6,7,8,9] [1007] (tW 1 (j3+1) z0)<|bN<|sn<|nX ((i2,j3+1,o4++[{ lo:=max (nrm a)[i2.toNat]!.lo (nrm b)[j3.toNat]!.lo,hi:=min (nrm a)[i2.toNat]!.hi (nrm b)[j3.toNat]!.hi:Run }])) (show((↑(nrm a).length:Int)-i2+((↑(nrm b).length:Int)-(j3+1))).toNat <((↑(nrm a).length:Int)-i2+((↑(nrm b).length:Int)-j3)).toNat from(by omega)) (show An6 (nrm a) (nrm b) i2 (j3+1) (o4++[{ lo:=max (nrm a)[i2.toNat]!.lo (nrm b)[j3.toNat]!.lo,hi:=min (nrm a)[i2.toNat]!.hi (nrm b)[j3.toNat]!.hi:Run }])from(by exact⟨by omega,by omega,by omega,by omega,by simp only [List.length_append,List.length_cons,List.length_nil];omega,me_in2 h6 h14.1 h8 h14.2 h11 h15 h16⟩))
 refine sK<|sn<|sq<|rA cx [5,6,7,8,9,67] [1007] (fA (0≤i2) (fG c206 (nrm a) i2.toNat (fR 2 (fA (0≤j3) (fG c206 (nrm b) j3.toNat (fR 2 (tB 10 ((nrm a)[i2.toNat]!.hi <(nrm b)[j3.toNat]!.hi) (oR 2 (c206 (nrm a)[i2.toNat]!) (oR 7 (c206 (nrm b)[j3.toNat]!) z0)))))))))<|sn<|dC ((nrm a)[i2.toNat]!.hi <(nrm b)[j3.toNat]!.hi) (fun h17=>?_) fun h17=>?_
 refine rG cx [5,6,7,8,9] [1007] (tW 1 (i2+1) z0)<|bN<|sn<|nX ((i2+1,j3,o4)) (show((↑(nrm a).length:Int)-(i2+1)+((↑(nrm b).length:Int)-j3)).toNat <((↑(nrm a).length:Int)-i2+((↑(nrm b).length:Int)-j3)).toNat from(by omega)) (show An6 (nrm a) (nrm b) (i2+1) j3 o4 from(by exact⟨by omega,by omega,by omega,by omega,by omega,B6x h6 h14.1 h8 h14.2 h11 h15 h17⟩))
 refine rG cx [5,6,7,8,9] [1007] (tW 1 (j3+1) z0)<|bN<|sn<|nX ((i2,j3+1,o4)) (show((↑(nrm a).length:Int)-i2+((↑(nrm b).length:Int)-(j3+1))).toNat <((↑(nrm a).length:Int)-i2+((↑(nrm b).length:Int)-j3)).toNat from(by omega)) (show An6 (nrm a) (nrm b) i2 (j3+1) o4 from(by exact⟨by omega,by omega,by omega,by omega,by omega,B6y h6 h14.1 h8 h14.2 h11 h15 h17⟩))
 refine eX 0<|nE<|nE<|bH<|sn<|sq<|rG cx [4] [1007] z0<|sn<|rT<|qR (.sl (List.map c206 o4)) (.eq (by rw[me_end h14 h11];rfl))
theorem con235(n:List Run)(hn:U5 n):Con Tryz.prog 235 [.sl (n.map c206)] (.sl ((A27 1 n).map c206)) :=
 by
 have h1:=X4 hn
 have hr:∀ i:Int,0≤i→i < n.length→1≤n[i.toNat]!.lo∧n[i.toNat]!.lo≤n[i.toNat]!.hi∧n[i.toNat]!.hi≤1000000000:=fun i h0 h1=>hn.2 _ (H5 (by omega))
 refine lN 0 c206 (n) Tryz.func235 fun hl_0=>sC A6 [.tmp 2] 37 Tryz.func235 ?_
 intro e0 cx
 refine sq<|rG cx [0] [] z0<|sn<|sq<|rG cx [0,3] [] z0<|sn<|sq<|rG cx [0,3,4] [] z0<|sn<|sq<|sq<|rG cx [3,4,7,8,9] [] (tL 1 c206 n z0)<|sn<|bL 0<|G3 3 1003 206 2 (σ':=⟨[(3,.own 1003 0),(4,.i .i64 ((1:Int))),(7,.sl (List.map c206 n)),(8,.i .i64 ((↑n.length:Int))),(9,.i .i64 ((0:Int)))],[(1003,⟨0,206,.row 2 (List.map c206 [])⟩)]⟩) (by kernel_rfl)<|sL (X:=Int×Int×List Run) (fun x=>⟨[(3,.own 1003 0),(4,.i .i64 (x.1)),(7,.sl (List.map c206 n)),(8,.i .i64 ((↑n.length:Int))),(9,.i .i64 (x.2.1))],[(1003,⟨0,206,.row 2 (List.map c206 x.2.2)⟩)]⟩) (fun x ↦ decOt n x.1 x.2.1 x.2.2) (fun x ↦ B30 n x.1 x.2.1 x.2.2) [3,4,7,8,9] [1003] (((1:Int),(0:Int),[])) (show B30 n (1:Int) (0:Int) []from ?g0) ?_;rotate_left
 rintro⟨x0,i1,o2⟩ h_3
 obtain⟨h4,h5,h6,h7,h8,h9⟩:0≤i1∧i1≤(↑n.length:Int)∧(↑o2.length:Int)≤i1∧1≤x0∧x0≤1000000001∧Ap5 n x0 i1 o2:=h_3
 refine rE cx [3,4,7,8,9,10] [1003] (zB 0 (i1 <(↑n.length:Int))) (fun h10=>?_) fun h10=>?_
 refine sK<|sn<|sq<|bL 1<|sq<|rG cx [3,4,7,8,9,6] [1003,6] (fA (0≤i1) (fG c206 n i1.toNat (fR 2 (fN 2 2 (oR 0 (c206 n[i1.toNat]!) z0)))))<|sn<|sq<|rD cx [3,4,7,8,9,6,16] [1003,6] (zB 3 (x0 < n[i1.toNat]!.lo)) (fun h11=>?_) fun h11=>?_
 refine rG cx [3,7,8,9,6] [1003,6] (tT 4 (C1 (by omega) ?g1:AV.i .i64 (IntKind.i64.wrap (n[i1.toNat]!.lo-1))=AV.i .i64 (n[i1.toNat]!.lo-1)) (fR 206 (fR 2 (fR 2 (fX c206 [{ lo:=x0,hi:=n[i1.toNat]!.lo-1:Run }] 2 (fS c206 o2 c206 [{ lo:=x0,hi:=n[i1.toNat]!.lo-1:Run }] (fP (((List.map c206 o2).length+(List.map c206 [{ lo:=x0,hi:=n[i1.toNat]!.lo-1:Run }]).length)*(16:Nat)≤(140737488355328:Nat)) ?g2 (fM c206 o2 [{ lo:=x0,hi:=n[i1.toNat]!.lo-1:Run }] (oV 7 { rows:=some (List.map c206 (o2++[{ lo:=x0,hi:=n[i1.toNat]!.lo-1:Run }])) } z0))))))))) ?_;rotate_left 2
 refine sn<|rG cx [3,7,8,9,4] [1003] (tT 2 (C1 ?g3 ?g4:AV.i .i64 (IntKind.i64.wrap (n[i1.toNat]!.hi+1))=AV.i .i64 (n[i1.toNat]!.hi+1)) z0) ?_;rotate_left 2
 refine bN<|sn<|rG cx [3,7,8,9,4] [1003] (tW 0 (i1+1) z0)<|sn<|nX ((n[i1.toNat]!.hi+1,i1+1,o2++[{ lo:=x0,hi:=n[i1.toNat]!.lo-1:Run }])) (show((↑n.length:Int)-(i1+1)).toNat <((↑n.length:Int)-i1).toNat from(by omega)) (show B30 n (n[i1.toNat]!.hi+1) (i1+1) (o2++[{ lo:=x0,hi:=n[i1.toNat]!.lo-1:Run }])from ?g5);rotate_left
 refine sK<|sn<|rG cx [3,4,7,8,9] [1003] (tT 2 (C1 ?g6 ?g7:AV.i .i64 (IntKind.i64.wrap (n[i1.toNat]!.hi+1))=AV.i .i64 (n[i1.toNat]!.hi+1)) z0) ?_;rotate_left 2
 refine bN<|sn<|rG cx [3,4,7,8,9] [1003] (tW 0 (i1+1) z0)<|sn<|nX ((n[i1.toNat]!.hi+1,i1+1,o2)) (show((↑n.length:Int)-(i1+1)).toNat <((↑n.length:Int)-i1).toNat from(by omega)) (show B30 n (n[i1.toNat]!.hi+1) (i1+1) o2 from ?g8);rotate_left
 refine eX 0<|nE<|nE<|bH<|sn<|sq<|rD cx [3,4,30] [1003] (zB 1 (x0≤1000000000)) (fun h12=>?_) fun h12=>?_
 refine rG cx [3] [1003] (fR 206 (fR 2 (fR 2 (fX c206 [{ lo:=x0,hi:=(1000000000:Int):Run }] 2 (fP ((List.map c206 o2).length+(List.map c206 [{ lo:=x0,hi:=(1000000000:Int):Run }]).length≤maxLen) ?g9 (fP (((List.map c206 o2).length+(List.map c206 [{ lo:=x0,hi:=(1000000000:Int):Run }]).length)*(16:Nat)≤(140737488355328:Nat)) ?g10 (fM c206 o2 [{ lo:=x0,hi:=(1000000000:Int):Run }] (oV 4 { rows:=some (List.map c206 (o2++[{ lo:=x0,hi:=(1000000000:Int):Run }])) } z0)))))))) ?_;rotate_left 2
 refine sn<|sq<|rG cx [2] [1003] z0<|sn<|rT<|qR (.sl (List.map c206 (o2++[{ lo:=x0,hi:=(1000000000:Int):Run }]))) (.eq ?g11);rotate_left
 refine sK<|sn<|sq<|rG cx [2] [1003] z0<|sn<|rT<|qR (.sl (List.map c206 o2)) (.eq ?g12);rotate_left
 rotate_left
 revert x0 i1 o2 h4 h5 h6 h7 h8 h9 h10 h11;rotate_left
 revert x0 i1 o2 h4 h5 h6 h7 h8 h9 h10 h11;rotate_left
 revert x0 i1 o2 h4 h5 h6 h7 h8 h9 h10 h11;rotate_left
 revert x0 i1 o2 h4 h5 h6 h7 h8 h9 h10 h11;rotate_left
 revert x0 i1 o2 h4 h5 h6 h7 h8 h9 h10 h11;rotate_left
 revert x0 i1 o2 h4 h5 h6 h7 h8 h9 h10 h11;rotate_left
 revert x0 i1 o2 h4 h5 h6 h7 h8 h9 h10 h11;rotate_left
 revert x0 i1 o2 h4 h5 h6 h7 h8 h9 h10 h11;rotate_left
 revert x0 i1 o2 h4 h5 h6 h7 h8 h9 h10 h12;rotate_left
 revert x0 i1 o2 h4 h5 h6 h7 h8 h9 h10 h12;rotate_left
 revert x0 i1 o2 h4 h5 h6 h7 h8 h9 h10 h12;rotate_left
 revert x0 i1 o2 h4 h5 h6 h7 h8 h9 h10 h12;rotate_left
 case g0=>exact⟨by omega,by omega,by simp,by omega,by omega,rfl⟩
 case g5=>intro x i o k0 k1 k2 k3 k4 k5 k6 k7;have:=hr i k0 k6;exact⟨by omega,by omega,by simp only [List.length_append,List.length_cons,List.length_nil];omega,by omega,by omega,ot_in k0 k6 k5 k7⟩
 case g8=>intro x i o k0 k1 k2 k3 k4 k5 k6 k7;have:=hr i k0 k6;exact⟨by omega,by omega,by omega,by omega,by omega,ot_out k0 k6 k5 k7⟩
 case g2=>intro x i o k0 k1 k2 k3 k4 k5 k6 k7;simp only [List.length_map,List.length_cons,List.length_nil];omega
 case g9=>intro x i o k0 k1 k2 k3 k4 k5 k6 k7;simp only [List.length_map,List.length_cons,List.length_nil,Go.maxLen];omega
 case g10=>intro x i o k0 k1 k2 k3 k4 k5 k6 k7;simp only [List.length_map,List.length_cons,List.length_nil];omega
 case g11=>intro x i o k0 k1 k2 k3 k4 k5 k6 k7;rw[B6z k6 k5 k7]
 case g12=>intro x i o k0 k1 k2 k3 k4 k5 k6 k7;rw[B70 k6 k5 k7]
 all_goals (intro x i o k0 k1 k2 k3 k4 k5 k6 k7;have:=hr i k0 k6;omega)
theorem con197(a b:List Run)(ha:a.length*16≤140737488351232)(hb:b.length*16≤140737488351232):Con Tryz.prog 197 [.sl (a.map c206),.sl (b.map c206)] (.sl ((A8c a b).map c206)) :=
 by
 have h2:=X4 (Aw2 b)
 refine lN 0 c206 (a) Tryz.func197 fun hl_0=>lN 1 c206 (b) Tryz.func197 fun hl_1=>sC A6 [.tmp 4] 10 Tryz.func197 ?_
 intro e0 cx
 refine sq<|rG cx [0,1] [] z0<|sn<|sq ?_
 have hl_0:=(V7 b)
 refine rG cx [4] [] (fT (A84 (b) (by(with_reducible assumption))) (fT (con235 (nrm b) ?g0) (fT (con224 (a) (A27 (1:Int) (nrm b)) (by(with_reducible assumption)) ?g1) (oA 2 (.sl (List.map c206 (nrm b))) (oA 3 (.sl (List.map c206 (A27 (1:Int) (nrm b)))) (oA 4 (.sl (List.map c206 (metR a (A27 (1:Int) (nrm b))))) z0)))))) ?_;rotate_left 2
 refine sn<|rT<|qR (.sl (List.map c206 (metR a (A27 (1:Int) (nrm b))))) (.eq ?g2);rotate_left
 case g0=>exact E5 b
 case g1=>omega
 case g2=>rfl
theorem con196(a b:Past)(ha:a.cloud.length*16≤140737488350000)(hb:b.cloud.length*16≤140737488350000):Con Tryz.prog 196 [.agg (c26 a),.agg (c26 b),.fn (.func 197) [] []] (.agg (c26 (F1 a b))) :=
 by
 refine sC A6 [.cell 6 26] 38 Tryz.func196 ?_
 intro e0 cx
 refine sq<|rG cx [2,3,4,6] [3,4,6] z0<|sn<|sq<|rA cx [2,6,7,8] [6,12,15] (fT (Am9 ([a]) (by exact A8i ha)) (fT (Am9 ([b]) (by exact A8i hb)) (oV 2 { val:=some (.ptr ((204:Nat)) (0) (0) (0)),row:=(Q3 c206 16 (C4 [a])) } (oV 5 { val:=some (.ptr ((204:Nat)) (0) (0) (0)),row:=(Q3 c206 16 (C4 [b])) } z0)))) ?_
 refine sn<|sq<|sq<|rG cx [2,6,7,8,16] [6,12,15] z0<|sn<|bL 0<|sL (X:=Int×(Nat→List Run)×(Nat→List Run)) (fun x=>⟨[(2,.fn (Fn.func (197:FuncId)) [] []),(6,.ptr (6) (0) (0) (0)),(7,.ptr (12) (0) (0) (0)),(8,.ptr (15) (0) (0) (0)),(16,.i .i64 (x.1))],[(6,⟨0,26,.var [.nl,.nl]⟩),(12,⟨0,204,.arr (Q3 c206 16 x.2.1)⟩),(15,⟨0,204,.arr (Q3 c206 16 x.2.2)⟩)]⟩) (fun x ↦ decEa x.1 x.2.1 x.2.2) (fun x ↦ B72 (C4 [a]) (C4 [b]) x.1 x.2.1 x.2.2) [2,6,7,8,16] [6,12,15] (((0:Int),C4 [a],C4 [b])) (show B72 (C4 [a]) (C4 [b]) (0:Int) (C4 [a]) (C4 [b])from(by exact⟨rfl,by omega,by omega,B31 _ _⟩)) ?_
 rintro⟨r0,T1,U2⟩ h_3
 obtain⟨h4,h5,h6,h7⟩:U2=C4 [b]∧0≤r0∧r0≤16∧B71 (C4 [a]) (C4 [b]) r0 T1:=h_3
 refine rE cx [2,6,7,8,16,17] [6,12,15] (zB 0 (r0 <(16:Int))) (fun h8=>?_) fun h8=>?_
 refine sK<|sn<|sq<|bL 1<|sq<|rG cx [2,6,7,8,16,9] [6,12,15] z0<|sn<|rA cx [2,6,7,8,16] [6,12,15] (fA (0≤r0) (fO (r0 <(↑(16:Nat):Int)) (fP ((Q3 c206 16 T1)[r0.toNat*(1:Nat)+0]?=some (AV.sl (List.map c206 (T1 r0.toNat)))) (by((try simp only [Nat.mul_one,Nat.add_zero,Nat.zero_add]);with_reducible refine O7 ?_;omega)) (fA (0≤r0) (fO (r0 <(↑(16:Nat):Int)) (fP ((Q3 c206 16 U2)[r0.toNat*(1:Nat)+0]?=some (AV.sl (List.map c206 (U2 r0.toNat)))) (by((try simp only [Nat.mul_one,Nat.add_zero,Nat.zero_add]);with_reducible refine O7 ?_;omega)) (fT (con197 (T1 r0.toNat) (U2 r0.toNat) (by rw[ea_at h5 h8 h7];exact Ab3 ha _) (by subst h4;exact Ab3 hb _)) (fA (0≤r0) (fO (r0 <(↑(16:Nat):Int)) (fP (r0.toNat*(1:Nat)+0 <(Q3 c206 16 T1).length) (by rw[A0i];omega) (fR [(D9 (AV.sl (List.map c206 (A8c (T1 r0.toNat) (U2 r0.toNat))))).headD AV.dead] (fP ((Q3 c206 16 T1).set (r0.toNat*(1:Nat)+0) ((D9 (AV.sl (List.map c206 (A8c (T1 r0.toNat) (U2 r0.toNat))))).headD AV.dead)=Q3 c206 16 (A1z T1 r0.toNat (A8c (T1 r0.toNat) (U2 r0.toNat)))) (by((try simp only [Nat.mul_one,Nat.add_zero,Nat.zero_add]);(with_reducible refine As7 ?_);exact Eq.refl _)) (oR 7 [.sl (List.map c206 (T1 r0.toNat))] (oR 12 [.sl (List.map c206 (U2 r0.toNat))] (oA 13 (.sl (List.map c206 (A8c (T1 r0.toNat) (U2 r0.toNat)))) (oV 16 { rows:=some [(Q3 c206 16 (A1z T1 r0.toNat (A8c (T1 r0.toNat) (U2 r0.toNat))))] } z0)))))))))))))))) ?_
 refine bN<|sn<|rG cx [2,6,7,8,16] [6,12,15] (tW 0 (r0+1) z0)<|sn<|nX ((r0+1,A1z T1 r0.toNat (A8c (T1 r0.toNat) (U2 r0.toNat)),U2)) (show(16-(r0+1)).toNat <(16-r0).toNat from(by omega)) (show B72 (C4 [a]) (C4 [b]) (r0+1) (A1z T1 r0.toNat (A8c (T1 r0.toNat) (U2 r0.toNat))) U2 from(by subst h4;exact⟨rfl,by omega,by omega,B73 h5 h8 h7⟩))
 refine eX 0<|nE<|nE<|bH<|sn<|sq<|rG cx [6] [6] (fT (B2e (T1) ?g7) (oA 1 (.agg [.sl (List.map c3 (I9 T1).vec),.sl (List.map A9 (I9 T1).cloud)]) z0)) ?_;rotate_left
 refine sn<|rT<|qR (.agg [.sl (List.map c3 (I9 T1).vec),.sl (List.map A9 (I9 T1).cloud)]) (.eq (by rw[ea_end h6 h8 h7];rfl))
 case g7=>revert r0 T1 U2 h4 h5 h6 h7 h8;intro r T U k0 k1 k2 k3 k4 q hq;rw[k3 q hq,if_pos (by omega)];have:=B2l (C4 [a] q) (C4 [b] q);omega
theorem con143(a b:Past)(ha:a.cloud.length*16≤140737488350000)(hb:b.cloud.length*16≤140737488350000):Con Tryz.prog 143 [.agg (c26 a),.agg (c26 b)] (.agg (c26 (F1 a b))) :=
 by
 refine sC A6 [.cell 4 26] 8 Tryz.func143 ?_
 intro e0 cx
 refine sq<|rG cx [2,3,4] [2,3,4] z0<|sn<|sq<|rG cx [4] [4] (fT (con196 (a) (b) (by(with_reducible assumption)) (by(with_reducible assumption))) (oA 2 (.agg [.sl (List.map c3 (F1 a b).vec),.sl (List.map A9 (F1 a b).cloud)]) z0))<|sn<|rT<|qR (.agg [.sl (List.map c3 (F1 a b).vec),.sl (List.map A9 (F1 a b).cloud)]) (.eq ?g0);rotate_left
 case g0=>exact rfl
theorem con21(ps:List Past)(hb:A3d ps*16≤140737488350000):Con Tryz.prog 21 [.sl (ps.map c26)] (.agg (c26 (D8 ps))) :=
 by
 have h2:=fun r=>Q7 r ps
 refine lN 0 c26 (ps) Tryz.func21 fun hl_0=>sC A6 [.cell 2 26] 6 Tryz.func21 ?_
 intro e0 cx
 refine sq<|rG cx [0,2] [2] z0<|sn<|sq<|rG cx [2] [2] (fT (Am9 (ps) (by omega)) (fT (B2e (C4 ps) ?g0) (oV 1 { val:=some (.ptr ((204:Nat)) (0) (0) (0)),row:=(Q3 c206 16 (C4 ps)) } (oA 2 (.agg [.sl (List.map c3 (I9 (C4 ps)).vec),.sl (List.map A9 (I9 (C4 ps)).cloud)]) z0)))) ?_;rotate_left
 refine sn<|rT<|qR (.agg [.sl (List.map c3 (I9 (C4 ps)).vec),.sl (List.map A9 (I9 (C4 ps)).cloud)]) (.eq ?g1);rotate_left
 case g0=>intro r hr;have:=h2 r;omega
 case g1=>rfl
end Go.Proofs.YtphcaholhacnpaaGreat
namespace Go.Proofs.YtphcaholhacnpaaGreat
open Go.E
set_option maxRecDepth 100000
set_option maxHeartbeats 4000000
def dLt(a b:Dot):Bool:=decide (a.rep < b.rep∨a.rep=b.rep∧a.num < b.num)
def N9(e:Entry):Int:=if e.dot.rep < 0∨16≤e.dot.rep then 3 else if e.dot.num < 1∨1000000000 < e.dot.num then 2 else if J6 e.sku=false then 5 else if e.qty < 1∨1000000 < e.qty then 6 else 0
def Ax2(es:List Entry)(i:Nat):Bool:=decide (N9 es[i]! = 0) && (decide (i=0) || dLt es[i-1]!.dot es[i]!.dot)
def okL(es:List Entry):Bool:=Ab2 (Ax2 es) es.length
def B2(es:List Entry):Int:=if okL es=true then 0 else 1
def invL(es:List Entry)(i:Int):Prop:=0≤i∧i≤es.length∧∀ j:Nat,(j:Int) < i→Ax2 es j=true
def decL(es:List Entry)(i:Int):Nat:=(es.length-i).toNat
theorem B32{es:List Entry}{i:Nat}(hi:i < es.length)(h:Ax2 es i=false):B2 es=1:=by
 unfold B2 okL
 rw[if_neg]
 intro k
 have:=(I0 _ _).1 k i hi
 rw[h]at this;cases this
theorem B74{es:List Entry}(h:∀ j:Nat,j < es.length→Ax2 es j=true):B2 es=0:=by
 unfold B2 okL
 rw[if_pos ((I0 _ _).2 h)]
def dec30i{α:Type}(es:List α)(i:Int):Nat:=(es.length-i).toNat
theorem A2j(es:List Entry)(i:Nat):Ax2 es i=true↔N9 es[i]! = 0∧(i=0∨dLt es[i-1]!.dot es[i]!.dot=true):=by
 unfold Ax2
 rw[Bool.and_eq_true,Bool.or_eq_true,decide_eq_true_iff,decide_eq_true_iff]
theorem Ax3{es:List Entry}{i:Int}(h0:0≤i)(h1:i < es.length)(h2:∀ j:Nat,(j:Int) < i→Ax2 es j=true)(h:Ax2 es i.toNat=true):invL es (i+1) :=
 ⟨by omega,by omega,fun j hj=>by
  by_cases e:j=i.toNat
  ·rw[e];exact h
  ·exact h2 j (by omega)⟩
theorem B33{es:List Entry}{i:Nat}(h:¬ Ax2 es i=true):Ax2 es i=false:=by simpa using h
theorem B34(e:Entry):Con Tryz.prog 98 [.agg (c46 e)] (.i .i64 (N9 e)) :=
 by
 refine sC A6 [.tmp 2] 39 Tryz.func98 ?_
 intro e0 cx
 refine sq<|rG cx [1] [1] z0<|sn<|sq<|bL 0<|sq<|A7 (σ':=⟨[(1,.ptr (1) (0) (0) (0)),(3,.b (decide (e.dot.rep <(0:Int)∨16≤e.dot.rep)))],[(1,⟨0,46,.var [.i .i64 (e.dot.rep),.i .i64 (e.dot.num),.s (e.sku),.i .i64 (e.qty)]⟩)]⟩) ?_ ?_
 refine A2 (e.dot.rep <(0:Int)) (fun h_1=>?_) (fun h_1=>?_)
 refine rG cx [1,3] [1] (tT 3 (A1 h_1) (tD 10 true (e.dot.rep <(0:Int)∨16≤e.dot.rep) (by simp only [eq_true h_1,tsl]) z0)) ?_
 exact⟨rfl,by kernel_rfl⟩
 refine rG cx [1,3] [1] (tT 3 (A0 h_1) (tB 8 (16≤e.dot.rep) (tD 10 (decide (16≤e.dot.rep)) (e.dot.rep <(0:Int)∨16≤e.dot.rep) (by simp only [eq_false h_1,tsl]) z0))) ?_
 exact⟨rfl,by kernel_rfl⟩
 refine sn<|dC (e.dot.rep <(0:Int)∨16≤e.dot.rep) (fun h2=>?_) fun h2=>?_
 refine sq<|rG cx [2] [] z0<|sn<|rT<|bR<|nR<|qR (.i .i64 ((3:Int))) (.eq ?g0);rotate_left
 refine sq<|A7 (σ':=⟨[(1,.ptr (1) (0) (0) (0)),(14,.b (decide (e.dot.num <(1:Int)∨(1000000000:Int) < e.dot.num)))],[(1,⟨0,46,.var [.i .i64 (e.dot.rep),.i .i64 (e.dot.num),.s (e.sku),.i .i64 (e.qty)]⟩)]⟩) ?_ ?_
 refine A2 (e.dot.num <(1:Int)) (fun h_4=>?_) (fun h_4=>?_)
 refine rG cx [1,14] [1] (tT 3 (A1 h_4) (tD 10 true (e.dot.num <(1:Int)∨(1000000000:Int) < e.dot.num) (by simp only [eq_true h_4,tsl]) z0)) ?_
 exact⟨rfl,by kernel_rfl⟩
 refine rG cx [1,14] [1] (tT 3 (A0 h_4) (tB 8 ((1000000000:Int) < e.dot.num) (tD 10 (decide ((1000000000:Int) < e.dot.num)) (e.dot.num <(1:Int)∨(1000000000:Int) < e.dot.num) (by simp only [eq_false h_4,tsl]) z0))) ?_
 exact⟨rfl,by kernel_rfl⟩
 refine sn<|dC (e.dot.num <(1:Int)∨(1000000000:Int) < e.dot.num) (fun h5=>?_) fun h5=>?_
 refine sq<|rG cx [2] [] z0<|sn<|rT<|bR<|nR<|qR (.i .i64 ((2:Int))) (.eq ?g1);rotate_left
 refine sq<|rG cx [1,25] [1] (fT (A8h (e.sku)) (tT 3 (G7:(AV.b !J6 e.sku)=AV.b (decide ¬J6 e.sku=true)) (oA 2 (.b (J6 e.sku)) z0)))<|sn<|dC (¬J6 e.sku=true) (fun h6=>?_) fun h6=>?_
 refine sq<|rG cx [2] [] z0<|sn<|rT<|bR<|nR<|qR (.i .i64 ((5:Int))) (.eq ?g2);rotate_left
 refine sq<|A7 (σ':=⟨[(30,.b (decide (e.qty <(1:Int)∨(1000000:Int) < e.qty)))],[]⟩) ?_ ?_
 refine A2 (e.qty <(1:Int)) (fun h_8=>?_) (fun h_8=>?_)
 refine rG cx [30] [] (tT 2 (A1 h_8) (tD 8 true (e.qty <(1:Int)∨(1000000:Int) < e.qty) (by simp only [eq_true h_8,tsl]) z0)) ?_
 exact⟨rfl,by kernel_rfl⟩
 refine rG cx [30] [] (tT 2 (A0 h_8) (tB 6 ((1000000:Int) < e.qty) (tD 8 (decide ((1000000:Int) < e.qty)) (e.qty <(1:Int)∨(1000000:Int) < e.qty) (by simp only [eq_false h_8,tsl]) z0))) ?_
 exact⟨rfl,by kernel_rfl⟩
 refine sn<|dC (e.qty <(1:Int)∨(1000000:Int) < e.qty) (fun h9=>?_) fun h9=>?_
 refine sq<|rG cx [2] [] z0<|sn<|rT<|bR<|nR<|qR (.i .i64 ((6:Int))) (.eq ?g3);rotate_left
 refine sK<|bN<|sn<|sq<|rG cx [2] [] z0<|sn<|rT<|qR (.i .i64 ((0:Int))) (.eq ?g4);rotate_left
 revert h2;rotate_left
 revert h2 h5;rotate_left
 revert h2 h5 h6;rotate_left
 revert h2 h5 h6 h9;rotate_left
 revert h2 h5 h6 h9;rotate_left
 case' g4=>refine(fun h k l m=>?_)
 case' g3=>refine(fun h k l m=>?_)
 case' g2=>refine(fun h k l=>?_)
 case' g1=>refine(fun h k=>?_)
 case' g0=>refine(fun h=>?_)
 all_goals (unfold N9)
 ·rw[if_pos h]
 ·rw[if_neg h,if_pos k]
 ·rw[if_neg h,if_neg k,if_pos (by simpa using l)]
 ·rw[if_neg h,if_neg k,if_neg (by simpa using l),if_pos m]
 ·rw[if_neg h,if_neg k,if_neg (by simpa using l),if_neg m]
theorem con99(a b:Dot):Con Tryz.prog 99 [.agg (c44 a),.agg (c44 b)] (.b (dLt a b)) :=
 by
 refine sC A6 [.tmp 4] 24 Tryz.func99 ?_
 intro e0 cx
 refine sq<|rG cx [2,3] [2,3] z0<|sn<|sq<|A7 (σ':=⟨[(4,.b (decide (a.rep < b.rep∨a.rep=b.rep∧a.num < b.num)))],[]⟩) ?_ ?_
 refine A2 (a.rep < b.rep) (fun h_1=>?_) (fun h_1=>?_)
 refine rG cx [4] [] (tT 4 (A1 h_1) (tD 19 true (a.rep < b.rep∨a.rep=b.rep∧a.num < b.num) (by simp only [eq_true h_1,tsl]) z0)) ?_
 exact⟨rfl,by kernel_rfl⟩
 refine A2 (a.rep=b.rep) (fun h_2=>?_) (fun h_2=>?_)
 refine rG cx [4] [] (tT 4 (A0 h_1) (tT 10 (A1 h_2) (tB 16 (a.num < b.num) (tD 19 (decide (a.num < b.num)) (a.rep < b.rep∨a.rep=b.rep∧a.num < b.num) (by simp only [eq_false h_1,eq_true h_2,tsl]) z0)))) ?_
 exact⟨rfl,by kernel_rfl⟩
 refine rG cx [4] [] (tT 4 (A0 h_1) (tT 10 (A0 h_2) (tD 19 false (a.rep < b.rep∨a.rep=b.rep∧a.num < b.num) (by simp only [eq_false h_1,eq_false h_2,tsl]) z0))) ?_
 exact⟨rfl,by kernel_rfl⟩
 refine sn<|rT<|qR (.b (decide (a.rep < b.rep∨a.rep=b.rep∧a.num < b.num))) (.eq ?g0);rotate_left
 case g0=>exact rfl
theorem I1(es:List Entry):Con Tryz.prog 24 [.sl (es.map c46)] (.i .i64 (B2 es)) :=
 by
 have e:∀ {i:Int},0≤i→(i-1).toNat=i.toNat-1:=fun {i} h=>by omega
 refine lN 0 c46 (es) Tryz.func24 fun hl_0=>sC A6 [.tmp 2] 32 Tryz.func24 ?_
 intro e0 cx
 refine sq<|rG cx [0] [] z0<|sn<|sq<|sq<|rG cx [0,5,6,7] [] (tL 1 c46 es z0)<|sn<|bL 0<|sL (X:=Int) (fun x=>⟨[(0,.sl (List.map c46 es)),(5,.sl (List.map c46 es)),(6,.i .i64 ((↑es.length:Int))),(7,.i .i64 (x))],[]⟩) (fun x ↦ decL es x) (fun x ↦ invL es x) [0,5,6,7] [] ((0:Int)) (show invL es (0:Int)from ?g0) ?_;rotate_left
 intro i0 h_1
 obtain⟨hh2,hh3,hh4⟩:0≤i0∧i0≤(↑es.length:Int)∧∀(j:Nat),(↑j:Int) < i0→Ax2 es j=true:=h_1
 refine rE cx [0,5,6,7,8] [] (zB 0 (i0 <(↑es.length:Int))) (fun hh5=>?_) fun hh5=>?_
 refine sK<|sn<|sq<|bL 1<|sq<|rG cx [0,5,6,7,4,3] [4] (fA (0≤i0) (fG c46 es i0.toNat (fR 4 (fN 4 4 (oR 1 (c46 es[i0.toNat]!) z0)))))<|sn<|sq<|A7 (σ':=⟨[(0,.sl (List.map c46 es)),(5,.sl (List.map c46 es)),(6,.i .i64 ((↑es.length:Int))),(7,.i .i64 (i0)),(30,.b (decide (¬N9 es[i0.toNat]! =(0:Int)∨(0:Int) < i0∧¬dLt es[(i0-1).toNat]!.dot es[i0.toNat]!.dot=true)))],[]⟩) ?_ ?_
 refine A2 (¬N9 es[i0.toNat]! =(0:Int)) (fun h_7=>?_) (fun h_7=>?_)
 refine rA cx [0,5,6,7,30] [] (fT (B34 (es[i0.toNat]!)) (tT 2 (E1 h_7:AV.b (N9 es[i0.toNat]! !=0)=AV.b true) (tD 18 true (¬N9 es[i0.toNat]! =(0:Int)∨(0:Int) < i0∧¬dLt es[(i0-1).toNat]!.dot es[i0.toNat]!.dot=true) (by simp only [eq_false h_7,tsl]) (oA 1 (.i .i64 (N9 es[i0.toNat]!)) z0)))) ?_
 exact⟨rfl,by kernel_rfl⟩
 refine A2 ((0:Int) < i0) (fun h_8=>?_) (fun h_8=>?_)
 refine rA cx [0,5,6,7,30] [] (fT (B34 (es[i0.toNat]!)) (tN 2 (N9 es[i0.toNat]!) (0:Int) (tT 3 (A0 h_7) (tT 5 (A1 h_8) (tW 9 (i0-1) (fO (0≤i0-1) (fG c46 es ((i0-1).toNat) (fR 4 (fN 2 4 (fT (con99 (es[(i0-1).toNat]!.dot) (es[i0.toNat]!.dot)) (tT 16 (G7:(AV.b !dLt es[(i0-1).toNat]!.dot es[i0.toNat]!.dot)=AV.b (decide ¬dLt es[(i0-1).toNat]!.dot es[i0.toNat]!.dot=true)) (tT 18 (by first | (simp only [eq_false h_7,eq_true h_8,tsl];done) | simp_all:AV.b (decide ¬dLt es[(i0-1).toNat]!.dot es[i0.toNat]!.dot=true)=AV.b (decide (¬N9 es[i0.toNat]! =(0:Int)∨(0:Int) < i0∧¬dLt es[(i0-1).toNat]!.dot es[i0.toNat]!.dot=true))) (oA 1 (.i .i64 (N9 es[i0.toNat]!)) (oR 10 (c46 es[(i0-1).toNat]!) (oA 15 (.b (dLt es[(i0-1).toNat]!.dot es[i0.toNat]!.dot)) z0))))))))))))))) ?_
 exact⟨rfl,by kernel_rfl⟩
 refine rA cx [0,5,6,7,30] [] (fT (B34 (es[i0.toNat]!)) (tN 2 (N9 es[i0.toNat]!) (0:Int) (tT 3 (A0 h_7) (tT 5 (A0 h_8) (tT 18 (by first | (simp only [eq_false h_7,eq_false h_8,tsl];done) | simp_all:AV.b false=AV.b (decide (¬N9 es[i0.toNat]! =(0:Int)∨(0:Int) < i0∧¬dLt es[(i0-1).toNat]!.dot es[i0.toNat]!.dot=true))) (oA 1 (.i .i64 (N9 es[i0.toNat]!)) z0)))))) ?_
 exact⟨rfl,by kernel_rfl⟩
 refine sn<|dC (¬N9 es[i0.toNat]! =(0:Int)∨(0:Int) < i0∧¬dLt es[(i0-1).toNat]!.dot es[i0.toNat]!.dot=true) (fun h9=>?_) fun h9=>?_
 refine sq<|rG cx [2] [] z0<|sn<|rT<|bR<|nR<|nR<|bR<|nR<|qR (.i .i64 ((1:Int))) (.eq ?g1);rotate_left
 refine sK<|bN<|sn<|rG cx [0,5,6,7] [] (tW 0 (i0+1) z0)<|sn<|nX (i0+1) (show((↑es.length:Int)-(i0+1)).toNat <((↑es.length:Int)-i0).toNat from(by omega)) (show invL es (i0+1)from ?g2);rotate_left
 refine eX 0<|nE<|nE<|bH<|sn<|sq<|rG cx [2] [] z0<|sn<|rT<|qR (.i .i64 ((0:Int))) (.eq ?g3);rotate_left
 rotate_left
 revert i0 hh2 hh3 hh4 hh5 h9;rotate_left
 revert i0 hh2 hh3 hh4 hh5 h9;rotate_left
 revert i0 hh2 hh3 hh4 hh5;rotate_left
 case g0=>exact⟨by omega,by omega,fun j hj=>by omega⟩
 case' g3=>refine(fun i h0 h1 h2 h3=>?_)
 case' g2=>refine(fun i h0 h1 h2 h3 h4=>?_)
 case' g1=>refine(fun i h0 h1 h2 h3 h4=>?_)
 ·rw[B32 (i:=i.toNat) (by omega) (B33 _)]
  rw[e h0]at h4
  rw[A2j];rintro⟨a,b⟩
  rcases h4 with h4 | ⟨h4,h5⟩
  ·exact h4 a
  ·rcases b with b | b
   ·omega
   ·exact h5 b
 ·rw[e h0]at h4
  refine Ax3 h0 h3 h2 ((A2j _ _).2 ⟨Classical.byContradiction fun a=>h4 (.inl a),?_⟩)
  by_cases c:i.toNat=0
  ·exact .inl c
  ·exact .inr (Classical.byContradiction fun a=>h4 (.inr ⟨by omega,a⟩))
 ·rw[B74 fun j hj=>h2 j (by omega)]
end Go.Proofs.YtphcaholhacnpaaGreat
namespace Go.Proofs.YtphcaholhacnpaaGreat
open Go.E
set_option maxRecDepth 100000
set_option maxHeartbeats 4000000
def szP(p:Past):Prop:=p.cloud.length*16≤140737488350000∧p.vec.length≤9223372036854775807
def szQ(rs:List Record):Prop:=∀ r∈rs,szP r.past
theorem szQ_s{rs:List Record}(h:szQ rs):B88 rs:=fun r hr=>(h r hr).1
end Go.Proofs.YtphcaholhacnpaaGreat
namespace Go.Proofs.YtphcaholhacnpaaGreat
open Go.E
set_option maxRecDepth 100000
set_option maxHeartbeats 4000000
theorem A8j{e:Entry}:N9 e=0↔U6 e.dot=true∧J6 e.sku=true∧1≤e.qty∧e.qty≤1000000:=by
 unfold N9 U6
 rw[decide_eq_true_iff]
 by_cases a:e.dot.rep < 0∨16≤e.dot.rep
 ·rw[if_pos a];omega
 ·rw[if_neg a]
  by_cases b:e.dot.num < 1∨1000000000 < e.dot.num
  ·rw[if_pos b];omega
  ·rw[if_neg b]
   cases c:J6 e.sku with
   | false=>simp
   | true =>
    rw[if_neg (by simp)]
    by_cases d:e.qty < 1∨1000000 < e.qty
    ·rw[if_pos d]
     exact⟨fun h=>by omega,fun h=>by have:=h.2.2.1;have:=h.2.2.2;omega⟩
    ·rw[if_neg d]
     exact⟨fun _=>⟨by omega,rfl,by omega,by omega⟩,fun _=>rfl⟩
theorem B4v(f:Facts):∃ b:Bool,b=decide (B2 f.adds=0∧f.gone=A4 f.gone∧R3 f.recs=0):=⟨_,rfl⟩
noncomputable def okF(f:Facts):Bool:=Classical.choose (B4v f)
theorem Ax4(f:Facts):okF f=decide (B2 f.adds=0∧f.gone=A4 f.gone∧R3 f.recs=0):=Classical.choose_spec (B4v f)
def szF(f:Facts):Prop:=szP f.gone∧szQ f.recs
theorem con87(f:Facts)(hb:szF f):Con Tryz.prog 87 [.agg (c36 f)] (.b (okF f)) :=
 by
 refine sC A6 [.tmp 2] 18 Tryz.func87 ?_
 intro e0 cx
 refine sq<|rG cx [1] [1] z0<|sn<|sq<|A7 (σ':=⟨[(2,.b (decide (B2 f.adds=0∧f.gone=A4 f.gone∧R3 f.recs=0)))],[]⟩) ?_ ?_
 refine A2 (B2 f.adds=0) (fun h1=>?_) (fun h1=>?_)
 refine A2 (f.gone=A4 f.gone) (fun h2=>?_) (fun h2=>?_)
 refine rg (A:=_∧_∧_∧_∧_∧(AV.b (R3 f.recs ==(0:Int))=AV.b (decide (R3 f.recs=0)))∧(AV.b (decide (R3 f.recs=0))=AV.b (decide (B2 f.adds=0∧f.gone=A4 f.gone∧R3 f.recs=0)))) cx [(2,{ val:=some (.i .i64 (B2 f.adds)) }),(3,{ tell:=some (.b (true)) }),(7,{ val:=some (.b (decide (f.gone=A4 f.gone))),tell:=some (.b (true)) }),(12,{ val:=some (.i .i64 (R3 f.recs)) }),(13,{ tell:=some (.b (decide (R3 f.recs=0))) }),(15,{ tell:=some (.b (decide (B2 f.adds=0∧f.gone=A4 f.gone∧R3 f.recs=0))) })] [2] [] ⟨(I1 (f.adds)),(A1 h1),(A1 h2),(A0m (f.gone) (by exact hb.1.1)),(Ax1 (f.recs) (by exact szQ_s hb.2)),(by kernel_rfl),(by simp only [eq_true h1,eq_true h2,tsl])⟩ ?_
 exact⟨rfl,by kernel_rfl⟩
 refine rg (A:=_∧_∧_∧_∧(AV.b false=AV.b (decide (B2 f.adds=0∧f.gone=A4 f.gone∧R3 f.recs=0)))) cx [(2,{ val:=some (.i .i64 (B2 f.adds)) }),(3,{ tell:=some (.b (true)) }),(7,{ val:=some (.b (decide (f.gone=A4 f.gone))),tell:=some (.b (false)) }),(15,{ tell:=some (.b (decide (B2 f.adds=0∧f.gone=A4 f.gone∧R3 f.recs=0))) })] [2] [] ⟨(I1 (f.adds)),(A1 h1),(A0 h2),(A0m (f.gone) (by exact hb.1.1)),(by simp only [eq_true h1,eq_false h2,tsl])⟩ ?_
 exact⟨rfl,by kernel_rfl⟩
 refine rG cx [2] [] (fT (I1 (f.adds)) (tT 3 (A0 h1) (tD 15 false (B2 f.adds=0∧f.gone=A4 f.gone∧R3 f.recs=0) (by simp only [eq_false h1,tsl]) (oA 2 (.i .i64 (B2 f.adds)) z0)))) ?_
 exact⟨rfl,by kernel_rfl⟩
 refine sn<|rT<|qR (.b (decide (B2 f.adds=0∧f.gone=A4 f.gone∧R3 f.recs=0))) (.eq (by rw[Ax4]))
end Go.Proofs.YtphcaholhacnpaaGreat
namespace Go.Proofs.YtphcaholhacnpaaGreat
open Go.E
set_option maxRecDepth 100000
set_option maxHeartbeats 4000000
noncomputable def K6(a:Actn):Int:=if a.kind < 1∨6 < a.kind then 7 else if(a.kind=4∨a.kind=6)∧¬ a.past=A4 a.past then 1 else if a.kind≤4∧J6 a.sku=false then 5 else if a.kind≤2∧(a.qty < 1∨1000000 < a.qty)then 6 else 0
noncomputable def U4(p:Past)(rep count:Int):Dot×Int:=if ¬ p=A4 p then(default,1)else H6 p rep count
noncomputable def evE(f:Facts):Int:=if okF f=false then 1 else if f.adds.length=1∧f.recs.length=0 then(if J0 f.gone f.adds[0]!.dot.rep < f.adds[0]!.dot.num then 0 else 2)
 else if f.adds.length=0∧f.recs.length=0 then 0 else if f.adds.length=0∧f.recs.length=1∧E0 f.gone=0 then 0 else 2
theorem Ax5{b:Bool}(h:¬ b=true):b=false:=by cases b <;> simp_all
theorem A0t{b:Bool}(h:¬ ¬ b=true):¬ b=false:=by cases b <;> simp_all
theorem B35{es:List Entry}(h:(es.length:Int)=1):(es.map c46)[Int.toNat 0]?=some (c46 es[0]!):=by
 cases es with
 | nil=>simp at h
 | cons e es=>rfl
theorem Ab5(a:Actn)(hb:szP a.past):Con Tryz.prog 83 [.agg (c30 a)] (.i .i64 (K6 a)) :=
 by
 refine sC A6 [.tmp 2] 69 Tryz.func83 ?_
 intro e0 cx
 refine sq<|rG cx [1] [1] z0<|sn<|sq<|sq<|A7 (σ':=⟨[(1,.ptr (1) (0) (0) (0)),(13,.b (decide (a.kind <(1:Int)∨(6:Int) < a.kind)))],[(1,⟨0,30,.var [.i .i64 (a.kind),.s (a.sku),.i .i64 (a.qty),.sl (List.map c3 a.past.vec),.sl (List.map A9 a.past.cloud)]⟩)]⟩) ?_ ?_
 refine A2 (a.kind <(1:Int)) (fun h_1=>?_) (fun h_1=>?_)
 refine rG cx [1,13] [1] (tT 2 (A1 h_1) (tD 7 true (a.kind <(1:Int)∨(6:Int) < a.kind) (by simp only [eq_true h_1,tsl]) z0)) ?_
 exact⟨rfl,by kernel_rfl⟩
 refine rG cx [1,13] [1] (tT 2 (A0 h_1) (tB 6 ((6:Int) < a.kind) (tD 7 (decide ((6:Int) < a.kind)) (a.kind <(1:Int)∨(6:Int) < a.kind) (by simp only [eq_false h_1,tsl]) z0))) ?_
 exact⟨rfl,by kernel_rfl⟩
 refine sn<|dC (a.kind <(1:Int)∨(6:Int) < a.kind) (fun hh2=>?_) fun hh2=>?_
 refine sq<|rG cx [2] [] z0<|sn<|rT<|nR<|qR (.i .i64 ((7:Int))) (.eq (by unfold K6;rw[if_pos hh2]))
 refine sK<|sn<|sq<|A7 (σ':=⟨[(1,.ptr (1) (0) (0) (0)),(3,.b (decide (a.kind=4∨a.kind=6)))],[(1,⟨0,30,.var [.i .i64 (a.kind),.s (a.sku),.i .i64 (a.qty),.sl (List.map c3 a.past.vec),.sl (List.map A9 a.past.cloud)]⟩)]⟩) ?_ ?_
 refine A2 (a.kind=4) (fun h_4=>?_) (fun h_4=>?_)
 refine rG cx [1,3] [1] (tT 2 (A1 h_4) (tD 8 true (a.kind=4∨a.kind=6) (by simp only [eq_true h_4,tsl]) z0)) ?_
 exact⟨rfl,by kernel_rfl⟩
 refine rG cx [1,3] [1] (tT 2 (A0 h_4) (tB 6 (a.kind=6) (tD 8 (decide (a.kind=6)) (a.kind=4∨a.kind=6) (by simp only [eq_false h_4,tsl]) z0))) ?_
 exact⟨rfl,by kernel_rfl⟩
 refine sn<|sq<|A7 (σ':=⟨[(1,.ptr (1) (0) (0) (0)),(3,.b (decide (a.kind=4∨a.kind=6))),(4,.b (decide (a.kind=1∨a.kind=2)))],[(1,⟨0,30,.var [.i .i64 (a.kind),.s (a.sku),.i .i64 (a.qty),.sl (List.map c3 a.past.vec),.sl (List.map A9 a.past.cloud)]⟩)]⟩) ?_ ?_
 refine A2 (a.kind=1) (fun h_6=>?_) (fun h_6=>?_)
 refine rG cx [1,3,4] [1] (tT 2 (A1 h_6) (tD 8 true (a.kind=1∨a.kind=2) (by simp only [eq_true h_6,tsl]) z0)) ?_
 exact⟨rfl,by kernel_rfl⟩
 refine rG cx [1,3,4] [1] (tT 2 (A0 h_6) (tB 6 (a.kind=2) (tD 8 (decide (a.kind=2)) (a.kind=1∨a.kind=2) (by simp only [eq_false h_6,tsl]) z0))) ?_
 exact⟨rfl,by kernel_rfl⟩
 refine sn<|sq<|A7 (σ':=⟨[(1,.ptr (1) (0) (0) (0)),(3,.b (decide (a.kind=4∨a.kind=6))),(4,.b (decide (a.kind=1∨a.kind=2))),(5,.b (decide ((a.kind=1∨a.kind=2)∨a.kind=3∨a.kind=4)))],[(1,⟨0,30,.var [.i .i64 (a.kind),.s (a.sku),.i .i64 (a.qty),.sl (List.map c3 a.past.vec),.sl (List.map A9 a.past.cloud)]⟩)]⟩) ?_ ?_
 refine A2 (a.kind=1∨a.kind=2) (fun h_8=>?_) (fun h_8=>?_)
 refine rG cx [1,3,4,5] [1] (tT 0 (A1 h_8) (tD 11 true ((a.kind=1∨a.kind=2)∨a.kind=3∨a.kind=4) (by simp only [eq_true h_8,tsl]) z0)) ?_
 exact⟨rfl,by kernel_rfl⟩
 refine A2 (a.kind=3) (fun h_9=>?_) (fun h_9=>?_)
 refine rG cx [1,3,4,5] [1] (tT 0 (A0 h_8) (tT 4 (A1 h_9) (tD 11 true ((a.kind=1∨a.kind=2)∨a.kind=3∨a.kind=4) (by simp only [eq_false h_8,eq_true h_9,tsl]) z0))) ?_
 exact⟨rfl,by kernel_rfl⟩
 refine rG cx [1,3,4,5] [1] (tT 0 (A0 h_8) (tT 4 (A0 h_9) (tB 9 (a.kind=4) (tD 11 (decide (a.kind=4)) ((a.kind=1∨a.kind=2)∨a.kind=3∨a.kind=4) (by simp only [eq_false h_8,eq_false h_9,tsl]) z0)))) ?_
 exact⟨rfl,by kernel_rfl⟩
 refine sn<|sq<|bL 0<|sq<|A7 (σ':=⟨[(1,.ptr (1) (0) (0) (0)),(4,.b (decide (a.kind=1∨a.kind=2))),(5,.b (decide ((a.kind=1∨a.kind=2)∨a.kind=3∨a.kind=4))),(41,.b (decide ((a.kind=4∨a.kind=6)∧¬a.past=A4 a.past)))],[(1,⟨0,30,.var [.i .i64 (a.kind),.s (a.sku),.i .i64 (a.qty),.sl (List.map c3 a.past.vec),.sl (List.map A9 a.past.cloud)]⟩)]⟩) ?_ ?_
 refine A2 (a.kind=4∨a.kind=6) (fun h11=>?_) (fun h11=>?_)
 refine rG cx [1,4,5,41] [1] (tT 0 (A1 h11) (fT (A0m (a.past) (by exact hb.1)) (tQ 5 (a.past=A4 a.past) (tD 7 (decide ¬a.past=A4 a.past) ((a.kind=4∨a.kind=6)∧¬a.past=A4 a.past) (by simp only [eq_true h11,tsl]) (oA 4 (.b (decide (a.past=A4 a.past))) z0))))) ?_
 exact⟨rfl,by kernel_rfl⟩
 refine rG cx [1,4,5,41] [1] (tT 0 (A0 h11) (tD 7 false ((a.kind=4∨a.kind=6)∧¬a.past=A4 a.past) (by simp only [eq_false h11,tsl]) z0)) ?_
 exact⟨rfl,by kernel_rfl⟩
 refine sn<|dC ((a.kind=4∨a.kind=6)∧¬a.past=A4 a.past) (fun h12=>?_) fun h12=>?_
 refine sq<|rG cx [2] [] z0<|sn<|rT<|bR<|nR<|qR (.i .i64 ((1:Int))) (.eq (by unfold K6;rw[if_neg hh2,if_pos h12]))
 refine sq<|A7 (σ':=⟨[(1,.ptr (1) (0) (0) (0)),(4,.b (decide (a.kind=1∨a.kind=2))),(49,.b (decide (((a.kind=1∨a.kind=2)∨a.kind=3∨a.kind=4)∧¬J6 a.sku=true)))],[(1,⟨0,30,.var [.i .i64 (a.kind),.s (a.sku),.i .i64 (a.qty),.sl (List.map c3 a.past.vec),.sl (List.map A9 a.past.cloud)]⟩)]⟩) ?_ ?_
 refine A2 ((a.kind=1∨a.kind=2)∨a.kind=3∨a.kind=4) (fun h_14=>?_) (fun h_14=>?_)
 refine rG cx [1,4,49] [1] (tT 0 (A1 h_14) (fT (A8h (a.sku)) (tT 5 (G7:(AV.b !J6 a.sku)=AV.b (decide ¬J6 a.sku=true)) (tD 7 (decide ¬J6 a.sku=true) (((a.kind=1∨a.kind=2)∨a.kind=3∨a.kind=4)∧¬J6 a.sku=true) (by simp only [eq_true h_14,tsl]) (oA 4 (.b (J6 a.sku)) z0))))) ?_
 exact⟨rfl,by kernel_rfl⟩
 refine rG cx [1,4,49] [1] (tT 0 (A0 h_14) (tD 7 false (((a.kind=1∨a.kind=2)∨a.kind=3∨a.kind=4)∧¬J6 a.sku=true) (by simp only [eq_false h_14,tsl]) z0)) ?_
 exact⟨rfl,by kernel_rfl⟩
 refine sn<|dC (((a.kind=1∨a.kind=2)∨a.kind=3∨a.kind=4)∧¬J6 a.sku=true) (fun h15=>?_) fun h15=>?_
 refine sq<|rG cx [2] [] z0<|sn<|rT<|bR<|nR<|qR (.i .i64 ((5:Int))) (.eq (by unfold K6;rw[if_neg hh2,if_neg h12,if_pos ⟨by omega,Ax5 h15.2⟩]))
 refine sq<|A7 (σ':=⟨[(57,.b (decide ((a.kind=1∨a.kind=2)∧(a.qty <(1:Int)∨(1000000:Int) < a.qty))))],[]⟩) ?_ ?_
 refine A2 (a.kind=1∨a.kind=2) (fun h_17=>?_) (fun h_17=>?_)
 refine A2 (a.qty <(1:Int)) (fun h_18=>?_) (fun h_18=>?_)
 refine rG cx [57] [] (tT 0 (A1 h_17) (tT 4 (A1 h_18) (tD 11 true ((a.kind=1∨a.kind=2)∧(a.qty <(1:Int)∨(1000000:Int) < a.qty)) (by simp only [eq_true h_17,eq_true h_18,tsl]) z0))) ?_
 exact⟨rfl,by kernel_rfl⟩
 refine rG cx [57] [] (tT 0 (A1 h_17) (tT 4 (A0 h_18) (tB 8 ((1000000:Int) < a.qty) (tD 11 (decide ((1000000:Int) < a.qty)) ((a.kind=1∨a.kind=2)∧(a.qty <(1:Int)∨(1000000:Int) < a.qty)) (by simp only [eq_true h_17,eq_false h_18,tsl]) z0)))) ?_
 exact⟨rfl,by kernel_rfl⟩
 refine rG cx [57] [] (tT 0 (A0 h_17) (tD 11 false ((a.kind=1∨a.kind=2)∧(a.qty <(1:Int)∨(1000000:Int) < a.qty)) (by simp only [eq_false h_17,tsl]) z0)) ?_
 exact⟨rfl,by kernel_rfl⟩
 refine sn<|dC ((a.kind=1∨a.kind=2)∧(a.qty <(1:Int)∨(1000000:Int) < a.qty)) (fun h19=>?_) fun h19=>?_
 refine sq<|rG cx [2] [] z0<|sn<|rT<|bR<|nR<|qR (.i .i64 ((6:Int))) (.eq (by unfold K6;rw[if_neg hh2,if_neg h12,if_neg (fun c=>h15 ⟨by omega,by rw[c.2];simp⟩),if_pos ⟨by omega,h19.2⟩]))
 refine sK<|bN<|sn<|sq<|rG cx [2] [] z0<|sn<|rT<|qR (.i .i64 ((0:Int))) (.eq (by unfold K6;rw[if_neg hh2,if_neg h12,if_neg (fun c=>h15 ⟨by omega,by rw[c.2];simp⟩),if_neg (fun c=>h19 ⟨by omega,c.2⟩)]))
theorem con237(p:Past)(rep count:Int)(hb:szP p):Con Tryz.prog 237 [.agg (c26 p),.i .i64 rep,.i .i64 count] (.tup [.agg (c44 (U4 p rep count).1),.i .i64 (U4 p rep count).2]) :=
 by
 refine sC A6 [.cell 6 44,.tmp 7] 18 Tryz.func237 ?_
 intro e0 cx
 refine sq<|rG cx [1,2,3,6] [3,6] z0<|sn<|sq<|sq<|rG cx [1,2,3,6,10] [3,6] (fT (A0m (p) (by exact hb.1)) (tQ 2 (p=A4 p) (oA 1 (.b (decide (p=A4 p))) z0))) ?_
 refine sn<|dC (¬p=A4 p) (fun h0=>?_) fun h0=>?_
 refine sq<|rG cx [6,7] [6] z0<|sn<|rT<|nR<|qR (.tup [.agg [.i .i64 ((0:Int)),.i .i64 ((0:Int))],.i .i64 ((1:Int))]) (A3.tup (ZLe.cons (A3.eq (show AV.agg [AV.i .i64 (0:Int),AV.i .i64 (0:Int)]=AV.agg [AV.i .i64 (U4 p rep count).1.rep,AV.i .i64 (U4 p rep count).1.num]from(by unfold U4;rw[if_pos h0];rfl))) (ZLe.cons (A3.eq (show AV.i .i64 1=AV.i .i64 (U4 p rep count).2 from(by unfold U4;rw[if_pos h0]))) ZLe.nil)))
 refine sK<|sn<|sq<|rG cx [6,7] [6] (fT (con273 (p) (rep) (count) (by exact hb.1)) (oA 3 (.tup [.agg [.i .i64 ((H6 p rep count).1.rep),.i .i64 ((H6 p rep count).1.num)],.i .i64 ((H6 p rep count).2)]) z0)) ?_
 refine sn<|rT<|qR (.tup [.agg [.i .i64 ((H6 p rep count).1.rep),.i .i64 ((H6 p rep count).1.num)],.i .i64 ((H6 p rep count).2)]) (A3.tup (ZLe.cons (A3.eq (show AV.agg [AV.i .i64 (H6 p rep count).1.rep,AV.i .i64 (H6 p rep count).1.num]=AV.agg [AV.i .i64 (U4 p rep count).1.rep,AV.i .i64 (U4 p rep count).1.num]from(by unfold U4;rw[if_neg h0]))) (ZLe.cons (A3.eq (show AV.i .i64 (H6 p rep count).2=AV.i .i64 (U4 p rep count).2 from(by unfold U4;rw[if_neg h0]))) ZLe.nil)))
theorem con17(f:Facts)(hb:szF f):Con Tryz.prog 17 [.agg (c36 f)] (.i .i64 (evE f)) :=
 by
 refine sC A6 [.tmp 2] 60 Tryz.func17 ?_
 intro e0 cx
 refine sq<|rG cx [1] [1] z0<|sn<|sq<|sq<|rG cx [1,7] [1] (fT (con87 (f) (by(with_reducible assumption))) (tT 2 (G7:(AV.b !okF f)=AV.b (decide ¬okF f=true)) (oA 1 (.b (okF f)) z0)))<|sn<|dC (¬okF f=true) (fun h0=>?_) fun h0=>?_
 refine sq<|rG cx [2] [] z0<|sn<|rT<|nR<|qR (.i .i64 ((1:Int))) (.eq (by unfold evE;rw[if_pos (Ax5 h0)]))
 refine sK<|sn<|sq<|rG cx [1,3] [1] (fT (An4 (f.gone) (by exact hb.1.1)) (oA 2 (.b (decide (E0 f.gone=0))) z0)) ?_
 refine sn<|sq<|bL 0<|sq<|A7 (σ':=⟨[(1,.ptr (1) (0) (0) (0)),(3,.b (decide (E0 f.gone=0))),(11,.b (decide ((↑f.adds.length:Int)=1∧(↑f.recs.length:Int)=0)))],[(1,⟨0,36,.var [.sl (List.map c46 f.adds),.sl (List.map c3 f.gone.vec),.sl (List.map A9 f.gone.cloud),.sl (List.map c54 f.recs)]⟩)]⟩) ?_ ?_
 refine A2 ((↑f.adds.length:Int)=1) (fun h_2=>?_) (fun h_2=>?_)
 refine rG cx [1,3,11] [1] (tL 2 c46 f.adds (tT 3 (A1 h_2) (tL 7 c54 f.recs (tB 8 ((↑f.recs.length:Int)=0) (tD 10 (decide ((↑f.recs.length:Int)=0)) ((↑f.adds.length:Int)=1∧(↑f.recs.length:Int)=0) (by simp only [eq_true h_2,tsl]) z0))))) ?_
 exact⟨rfl,by kernel_rfl⟩
 refine rG cx [1,3,11] [1] (tL 2 c46 f.adds (tT 3 (A0 h_2) (tD 10 false ((↑f.adds.length:Int)=1∧(↑f.recs.length:Int)=0) (by simp only [eq_false h_2,tsl]) z0))) ?_
 exact⟨rfl,by kernel_rfl⟩
 refine sn<|dC ((↑f.adds.length:Int)=1∧(↑f.recs.length:Int)=0) (fun h3=>?_) fun h3=>?_
 refine sq<|rG cx [1,4] [1,4] (fO ((0:Int)≤(0:Int)) (fP ((List.map c46 f.adds)[Int.toNat (0:Int)]?=some (c46 f.adds[(0:Nat)]!)) (by exact B35 h3.1) (fR 4 (fN 2 4 (oR 2 (c46 f.adds[(0:Nat)]!) z0))))) ?_
 refine sn<|sq<|rA cx [34] [] (fT (con88 (f.gone) (f.adds[(0:Nat)]!.dot.rep) (by exact hb.1.1)) (tB 7 (J0 f.gone f.adds[(0:Nat)]!.dot.rep < f.adds[(0:Nat)]!.dot.num) (oA 4 (.i .i64 (J0 f.gone f.adds[(0:Nat)]!.dot.rep)) z0))) ?_
 refine sn<|dC (J0 f.gone f.adds[(0:Nat)]!.dot.rep < f.adds[(0:Nat)]!.dot.num) (fun h4=>?_) fun h4=>?_
 refine sq<|rG cx [2] [] z0<|sn<|rT<|bR<|nR<|qR (.i .i64 ((0:Int))) (.eq (by unfold evE;rw[if_neg (A0t h0),if_pos (by omega),if_pos h4]))
 refine sK<|bN<|sn<|sq<|rG cx [2] [] z0<|sn<|rT<|qR (.i .i64 ((2:Int))) (.eq (by unfold evE;rw[if_neg (A0t h0),if_pos (by omega),if_neg h4]))
 refine sq<|A7 (σ':=⟨[(1,.ptr (1) (0) (0) (0)),(3,.b (decide (E0 f.gone=0))),(35,.b (decide ((↑f.adds.length:Int)=0∧(↑f.recs.length:Int)=0)))],[(1,⟨0,36,.var [.sl (List.map c46 f.adds),.sl (List.map c3 f.gone.vec),.sl (List.map A9 f.gone.cloud),.sl (List.map c54 f.recs)]⟩)]⟩) ?_ ?_
 refine A2 ((↑f.adds.length:Int)=0) (fun h_6=>?_) (fun h_6=>?_)
 refine rG cx [1,3,35] [1] (tL 2 c46 f.adds (tT 3 (A1 h_6) (tL 7 c54 f.recs (tB 8 ((↑f.recs.length:Int)=0) (tD 10 (decide ((↑f.recs.length:Int)=0)) ((↑f.adds.length:Int)=0∧(↑f.recs.length:Int)=0) (by simp only [eq_true h_6,tsl]) z0))))) ?_
 exact⟨rfl,by kernel_rfl⟩
 refine rG cx [1,3,35] [1] (tL 2 c46 f.adds (tT 3 (A0 h_6) (tD 10 false ((↑f.adds.length:Int)=0∧(↑f.recs.length:Int)=0) (by simp only [eq_false h_6,tsl]) z0))) ?_
 exact⟨rfl,by kernel_rfl⟩
 refine sn<|dC ((↑f.adds.length:Int)=0∧(↑f.recs.length:Int)=0) (fun h7=>?_) fun h7=>?_
 refine sq<|rG cx [2] [] z0<|sn<|rT<|bR<|nR<|qR (.i .i64 ((0:Int))) (.eq (by unfold evE;rw[if_neg (A0t h0),if_neg (by omega),if_pos (by omega)]))
 refine sq<|A7 (σ':=⟨[(46,.b (decide ((↑f.adds.length:Int)=0∧(↑f.recs.length:Int)=1∧E0 f.gone=0)))],[]⟩) ?_ ?_
 refine A2 ((↑f.adds.length:Int)=0) (fun h_9=>?_) (fun h_9=>?_)
 refine A2 ((↑f.recs.length:Int)=1) (fun h_10=>?_) (fun h_10=>?_)
 refine rG cx [46] [] (tL 2 c46 f.adds (tT 3 (A1 h_9) (tL 7 c54 f.recs (tT 8 (A1 h_10) (tD 13 (decide (E0 f.gone=0)) ((↑f.adds.length:Int)=0∧(↑f.recs.length:Int)=1∧E0 f.gone=0) (by simp only [eq_true h_9,eq_true h_10,tsl]) z0))))) ?_
 exact⟨rfl,by kernel_rfl⟩
 refine rG cx [46] [] (tL 2 c46 f.adds (tT 3 (A1 h_9) (tL 7 c54 f.recs (tT 8 (A0 h_10) (tD 13 false ((↑f.adds.length:Int)=0∧(↑f.recs.length:Int)=1∧E0 f.gone=0) (by simp only [eq_true h_9,eq_false h_10,tsl]) z0))))) ?_
 exact⟨rfl,by kernel_rfl⟩
 refine rG cx [46] [] (tL 2 c46 f.adds (tT 3 (A0 h_9) (tD 13 false ((↑f.adds.length:Int)=0∧(↑f.recs.length:Int)=1∧E0 f.gone=0) (by simp only [eq_false h_9,tsl]) z0))) ?_
 exact⟨rfl,by kernel_rfl⟩
 refine sn<|dC ((↑f.adds.length:Int)=0∧(↑f.recs.length:Int)=1∧E0 f.gone=0) (fun h11=>?_) fun h11=>?_
 refine sq<|rG cx [2] [] z0<|sn<|rT<|bR<|nR<|qR (.i .i64 ((0:Int))) (.eq (by unfold evE;rw[if_neg (A0t h0),if_neg (by omega),if_neg (by omega),if_pos (by omega)]))
 refine sK<|bN<|sn<|sq<|rG cx [2] [] z0<|sn<|rT<|qR (.i .i64 ((2:Int))) (.eq (by unfold evE;rw[if_neg (A0t h0),if_neg (by omega),if_neg (by omega),if_neg (by omega)]))
end Go.Proofs.YtphcaholhacnpaaGreat
