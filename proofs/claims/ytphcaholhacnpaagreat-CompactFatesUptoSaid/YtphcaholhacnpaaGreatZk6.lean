/- Cu: the document's fates. Conditions: sizes. Cv: the laws of compact states and fates. Conditions: sizes. EN: from a law's contract to its row: 'for every input it answers true, and the input reads as it did'. Conditions: none named, none written. Wx: what is handed in, by its types. Conditions: none. Wy: what is handed in, by its types (acts, facts). Conditions: none. Qk: what is handed in, small (facts). Conditions: none. Qm: what is handed in, small (states, digests). Conditions: none. Qn: what is handed in, small (cases of chapter 13). Conditions: none. Qj: facts of the program that every row asks for, each by itself. Conditions: none. -/
import Derived.Below
import Derived.OwnWalk
import Derived.WalkKit
import Derived.KernelRfl
import Derived.Laws.MakeOwn
import Derived.Laws.OwnMore
import Derived.Laws.Slices
import Derived.Laws.CopyOwn
import Derived.Laws.AppendOwnNone
import Derived.Laws.Rows
import Derived.Orders
import Derived.Test.YtphcaholhacnpaaGreatProg
import Derived.DataReads
import Derived.ChangeOld
import Derived.DataElems
import Derived.SizedLaws
import Derived.ChangeKeysEq
import Derived.Sort.LotA
import Derived.Shelf.SlSortFuncK.RowK2
import Derived.Shelf.SlSortCmp.NoneTotal
import Derived.Lib.Walk
import Derived.Shelf.SlLaysE0
import Derived.Shelf.RegionOpenPlain
import Derived.Deep.LoopGhost
import Derived.Lib.SliceRun
import Derived.Lib.Bytealg
import Derived.Calls
import Derived.Shelf.SlSortFuncK.SWK
import Derived.Deep.Cut
import Derived.Deep.CutRange
import Derived.Deep.DeepCutAuto
import Derived.Lib.ReflectliteSwap
import Derived.Laws.Externs
import Derived.Lib.ReflectliteSlice
import Derived.Lib.AppendZeros
import Derived.BigQuiet
import Derived.Shelf.SlSortFuncK.WholeK
import Derived.Shelf.GgSortFunc.Tiny
import Derived.Maps.RangeRun
import Derived.ProofKit
import Derived.JoinedCond
import Derived.Deep.CondSized
import Derived.Test.YtphcaholhacnpaaGreatRows
import Derived.Test.YtphcaholhacnpaaGreatZk5
set_option linter.unusedVariables false
set_option linter.unusedSimpArgs false
namespace Go.Proofs.YtphcaholhacnpaaGreat
open Go.E
set_option maxRecDepth 100000
set_option maxHeartbeats 4000000
def B2s(f:Facts)(d:Dot)(i:Int)(x1:List Entry)(x2:List Int)(x3:List Span)(x4:List Record)(u1 u2 u3 u4 u5 u6 u7 u8 u9 u10:Int):Prop:=B38 f x1 x2 x3 x4∧u1=d.rep∧u2=d.num∧u7=d.rep∧u8=d.num∧0≤i∧i≤f.adds.length∧Bh6 f d i u9 u10
def decFt(f:Facts)(i:Int)(x1:List Entry)(x2:List Int)(x3:List Span)(x4:List Record)(u1 u2 u3 u4 u5 u6 u7 u8 u9 u10:Int):Nat:=(f.adds.length-i).toNat
theorem B8b{f:Facts}{d:Dot}{i k b:Int}(h:okF f=true)(hi:¬ i < f.adds.length)(hm:i≤f.adds.length)(q:Bh6 f d i k b):b=ftR f d∧(C7 f.gone d=false→k=ftK f d):=by
 have fm:=(X9.1 h).1
 rcases q with⟨q1,q2,q3⟩ | ⟨n,hn,q1,q2,q3⟩
 ·have no:(E6 f.adds d).2=false:=by
   cases c:(E6 f.adds d).2 with
   | false=>rfl
   | true =>
    obtain⟨n,hn,e⟩:=List.mem_iff_getElem.1 (B6g c)
    exact absurd (by rw[getElem!_pos f.adds n hn,e];exact B6f c) (q1 n (by omega))
  exact⟨by rw[B2o no,q3],fun g=>by rw[B2n g no,q2]⟩
 ·have hm:f.adds[n]!∈f.adds:=D9 (by omega)
  have e:=Bd4 fm hm
  rw[q1]at e
  have yes:(E6 f.adds d).2=true:=by rw[e]
  refine⟨by rw[A88 yes,e,q2],fun g=>?_⟩
  by_cases c:0 < b
  ·rw[if_pos c]at q3
   rw[B84 g yes (by rw[e];rw[← q2];exact c),q3]
  ·rw[if_neg c]at q3
   rw[B2m g yes (by rw[e];rw[← q2];exact c),q3]
theorem Bf3{f:Facts}{d:Dot}{i k b:Int}(q:Bh6 f d i k b)(hd:¬ f.adds[i.toNat]!.dot=d)(h0:0≤i):Bh6 f d (i+1) k b:=by
 rcases q with⟨q1,q2,q3⟩ | ⟨n,hn,q1,q2,q3⟩
 ·exact .inl ⟨fun n hn=>by
   by_cases c:n=i.toNat
   ·rw[c];exact hd
   ·exact q1 n (by omega),q2,q3⟩
 ·exact .inr ⟨n,by omega,q1,q2,q3⟩
theorem B8c{f:Facts}{d:Dot}{i k:Int}(hd:f.adds[i.toNat]!.dot=d)(h0:0≤i)(hk:k=if 0 < C4 f.recs f.adds[i.toNat]! then 3 else 1):Bh6 f d (i+1) k (C4 f.recs f.adds[i.toNat]!) :=
 .inr ⟨i.toNat,by omega,hd,rfl,hk⟩
theorem B8d(f:Facts)(d:Dot)(hb:szF f)(hl:szL f)(h:okF f=true):Con Tryz.prog 146 [.agg (c36 f),.agg (c44 d)] (.agg (L7 (ftF f d))) :=
 by
 have q1:=hb.1.1
 have q2:=hl.1
 refine sC A6 [.cell 4 112] 44 Tryz.func146 ?_
 intro e0 cx
 refine sq<|rG cx [2,3,4] [2,3,4] z0<|sn<|sq<|rG cx [2,3,4,5] [2,3,4,5] z0<|sn<|sq<|sq<|rG cx [2,3,4,5,6] [2,3,4,5] z0<|sn<|bL 0<|sL (X:=Int×List Entry×List Int×List Span×List Record×Int×Int×Int×Int×Int×Int×Int×Int×Int×Int) (fun x=>⟨[(2,.ptr (2) (0) (0) (0)),(3,.ptr (3) (0) (0) (0)),(4,.ptr (4) (0) (0) (0)),(5,.ptr (5) (0) (0) (0)),(6,.i .i64 (x.1))],[(2,⟨0,36,.var [.sl (List.map c46 x.2.1),.sl (List.map c3 x.2.2.1),.sl (List.map A9 x.2.2.2.1),.sl (List.map c54 x.2.2.2.2.1)]⟩),(3,⟨0,44,.var [.i .i64 (x.2.2.2.2.2.1),.i .i64 (x.2.2.2.2.2.2.1)]⟩),(4,⟨0,112,.var [.i .i64 (x.2.2.2.2.2.2.2.1),.i .i64 (x.2.2.2.2.2.2.2.2.1),.i .i64 (x.2.2.2.2.2.2.2.2.2.1),.i .i64 (x.2.2.2.2.2.2.2.2.2.2.1)]⟩),(5,⟨0,112,.var [.i .i64 (x.2.2.2.2.2.2.2.2.2.2.2.1),.i .i64 (x.2.2.2.2.2.2.2.2.2.2.2.2.1),.i .i64 (x.2.2.2.2.2.2.2.2.2.2.2.2.2.1),.i .i64 (x.2.2.2.2.2.2.2.2.2.2.2.2.2.2)]⟩)]⟩) (fun x ↦ decFt f x.1 x.2.1 x.2.2.1 x.2.2.2.1 x.2.2.2.2.1 x.2.2.2.2.2.1 x.2.2.2.2.2.2.1 x.2.2.2.2.2.2.2.1 x.2.2.2.2.2.2.2.2.1 x.2.2.2.2.2.2.2.2.2.1 x.2.2.2.2.2.2.2.2.2.2.1 x.2.2.2.2.2.2.2.2.2.2.2.1 x.2.2.2.2.2.2.2.2.2.2.2.2.1 x.2.2.2.2.2.2.2.2.2.2.2.2.2.1 x.2.2.2.2.2.2.2.2.2.2.2.2.2.2) (fun x ↦ B2s f d x.1 x.2.1 x.2.2.1 x.2.2.2.1 x.2.2.2.2.1 x.2.2.2.2.2.1 x.2.2.2.2.2.2.1 x.2.2.2.2.2.2.2.1 x.2.2.2.2.2.2.2.2.1 x.2.2.2.2.2.2.2.2.2.1 x.2.2.2.2.2.2.2.2.2.2.1 x.2.2.2.2.2.2.2.2.2.2.2.1 x.2.2.2.2.2.2.2.2.2.2.2.2.1 x.2.2.2.2.2.2.2.2.2.2.2.2.2.1 x.2.2.2.2.2.2.2.2.2.2.2.2.2.2) [2,3,4,5,6] [2,3,4,5] (((0:Int),f.adds,f.gone.vec,f.gone.cloud,f.recs,d.rep,d.num,(0:Int),(0:Int),(0:Int),(0:Int),d.rep,d.num,(0:Int),(0:Int))) (show B2s f d (0:Int) f.adds f.gone.vec f.gone.cloud f.recs d.rep d.num (0:Int) (0:Int) (0:Int) (0:Int) d.rep d.num (0:Int) (0:Int)from(by exact⟨⟨rfl,rfl,rfl,rfl⟩,rfl,rfl,rfl,rfl,by omega,by omega,.inl ⟨fun k hk=>by omega,rfl,rfl⟩⟩)) ?_
 rintro⟨i0,xx1,xx2,xx3,xx4,uu5,uu6,uu7,uu8,uu9,uu10,u11,u12,u13,u14⟩ h_15
 obtain⟨h16,h17,h18,h19,h20,h21,h22,h23⟩:B38 f xx1 xx2 xx3 xx4∧uu5=d.rep∧uu6=d.num∧u11=d.rep∧u12=d.num∧0≤i0∧i0≤(↑f.adds.length:Int)∧Bh6 f d i0 u13 u14:=h_15
 refine sq<|rD cx [2,3,4,5,6,13] [2,3,4,5] (tL 3 c46 xx1 (zB 4 (i0 <(↑xx1.length:Int)))) (fun h24=>?_) fun h24=>?_
 refine sK<|sn<|sq<|bL 1<|sq<|rA cx [2,3,4,5,6,23] [2,3,4,5] (fA (0≤i0) (fG c46 xx1 i0.toNat (fR 4 (fN 2 4 (fT (eq44 xx1[i0.toNat]!.dot { rep:=uu5,num:=uu6:Dot }) (oR 3 (c46 xx1[i0.toNat]!) (oA 7 (.b (decide (xx1[i0.toNat]!.dot={ rep:=uu5,num:=uu6:Dot }))) z0)))))))<|sn<|dC (xx1[i0.toNat]!.dot={ rep:=uu5,num:=uu6:Dot }) (fun h25=>?_) fun h25=>?_
 refine sq<|rA cx [2,3,4,5,6] [2,3,4,5] (fA (0≤i0) (fG c46 xx1 i0.toNat (fR 4 (fN 4 4 (fT (B27 (xx4) (xx1[i0.toNat]!) (by obtain⟨rfl,rfl,rfl,rfl⟩:=h16;subst h17 h18 h19 h20;exact A55 hb.2)) (oR 5 (c46 xx1[i0.toNat]!) (oA 7 (.i .i64 (C4 xx4 xx1[i0.toNat]!)) z0))))))) ?_
 refine sn<|sq<|rG cx [2,3,4,5,6] [2,3,4,5] z0<|sn<|rD cx [2,3,4,5,6,36] [2,3,4,5] (zB 2 ((0:Int) < C4 xx4 xx1[i0.toNat]!)) (fun h26=>?_) fun h26=>?_
 refine rG cx [2,3,4,5,6] [2,3,4,5] z0<|bN<|sn<|rG cx [2,3,4,5,6] [2,3,4,5] (tT 1 (B4 (by omega) (by obtain⟨rfl,rfl,rfl,rfl⟩:=h16;subst h17 h18 h19 h20;omega):AV.i .i64 (IntKind.i64.wrap (i0+1))=AV.i .i64 (i0+1)) z0) ?_
 refine sn<|nX ((i0+1,xx1,xx2,xx3,xx4,uu5,uu6,uu7,uu8,uu9,uu10,u11,u12,(3:Int),C4 xx4 xx1[i0.toNat]!)) (show((↑f.adds.length:Int)-(i0+1)).toNat <((↑f.adds.length:Int)-i0).toNat from(by obtain⟨rfl,rfl,rfl,rfl⟩:=h16;subst h17 h18 h19 h20;omega)) (show B2s f d (i0+1) xx1 xx2 xx3 xx4 uu5 uu6 uu7 uu8 uu9 uu10 u11 u12 (3:Int) (C4 xx4 xx1[i0.toNat]!)from(by obtain⟨rfl,rfl,rfl,rfl⟩:=h16;subst h17 h18 h19 h20;exact⟨⟨rfl,rfl,rfl,rfl⟩,rfl,rfl,rfl,rfl,by omega,by omega,B8c h25 h21 (by rw[if_pos h26])⟩))
 refine sK<|bN<|sn<|rG cx [2,3,4,5,6] [2,3,4,5] (tT 1 (B4 (by omega) (by obtain⟨rfl,rfl,rfl,rfl⟩:=h16;subst h17 h18 h19 h20;omega):AV.i .i64 (IntKind.i64.wrap (i0+1))=AV.i .i64 (i0+1)) z0) ?_
 refine sn<|nX ((i0+1,xx1,xx2,xx3,xx4,uu5,uu6,uu7,uu8,uu9,uu10,u11,u12,(1:Int),C4 xx4 xx1[i0.toNat]!)) (show((↑f.adds.length:Int)-(i0+1)).toNat <((↑f.adds.length:Int)-i0).toNat from(by obtain⟨rfl,rfl,rfl,rfl⟩:=h16;subst h17 h18 h19 h20;omega)) (show B2s f d (i0+1) xx1 xx2 xx3 xx4 uu5 uu6 uu7 uu8 uu9 uu10 u11 u12 (1:Int) (C4 xx4 xx1[i0.toNat]!)from(by obtain⟨rfl,rfl,rfl,rfl⟩:=h16;subst h17 h18 h19 h20;exact⟨⟨rfl,rfl,rfl,rfl⟩,rfl,rfl,rfl,rfl,by omega,by omega,B8c h25 h21 (by rw[if_neg h26])⟩))
 refine sK<|bN<|sn<|rG cx [2,3,4,5,6] [2,3,4,5] (tT 1 (B4 (by omega) (by obtain⟨rfl,rfl,rfl,rfl⟩:=h16;subst h17 h18 h19 h20;omega):AV.i .i64 (IntKind.i64.wrap (i0+1))=AV.i .i64 (i0+1)) z0) ?_
 refine sn<|nX ((i0+1,xx1,xx2,xx3,xx4,uu5,uu6,uu7,uu8,uu9,uu10,u11,u12,u13,u14)) (show((↑f.adds.length:Int)-(i0+1)).toNat <((↑f.adds.length:Int)-i0).toNat from(by obtain⟨rfl,rfl,rfl,rfl⟩:=h16;subst h17 h18 h19 h20;omega)) (show B2s f d (i0+1) xx1 xx2 xx3 xx4 uu5 uu6 uu7 uu8 uu9 uu10 u11 u12 u13 u14 from(by obtain⟨rfl,rfl,rfl,rfl⟩:=h16;subst h17 h18 h19 h20;exact⟨⟨rfl,rfl,rfl,rfl⟩,rfl,rfl,rfl,rfl,by omega,by omega,Bf3 h23 h25 h21⟩))
 refine eX 0<|nE<|nE<|bH<|sn<|sq<|sq<|rG cx [4,5,41] [4,5] (fT (Ag1 ({ vec:=xx2,cloud:=xx3:Past }) ({ rep:=uu5,num:=uu6:Dot }) (by obtain⟨rfl,rfl,rfl,rfl⟩:=h16;subst h17 h18 h19 h20;show f.gone.cloud.length≤_;omega)) (oA 3 (.b (C7 { vec:=xx2,cloud:=xx3:Past } { rep:=uu5,num:=uu6:Dot })) z0)) ?_
 refine sn<|P0 (C7 { vec:=xx2,cloud:=xx3:Past } { rep:=uu5,num:=uu6:Dot }) (by kernel_rfl) (by kernel_rfl) (fun h27=>?_) (fun h27=>?_)
 refine rG cx [4,5] [4,5] z0<|sn<|sq<|rG cx [4] [4] z0<|sn<|rT<|qR (.agg [.i .i64 (u11),.i .i64 (u12),.i .i64 ((2:Int)),.i .i64 (u14)]) (.eq (by obtain⟨rfl,rfl,rfl,rfl⟩:=h16;subst h17 h18 h19 h20;have z:=B8b h h24 h22 h23;rw[z.1];exact A6b (Ai2 h27) rfl))
 refine sK<|sn<|sq<|rG cx [4] [4] z0<|sn<|rT<|qR (.agg [.i .i64 (u11),.i .i64 (u12),.i .i64 (u13),.i .i64 (u14)]) (.eq (by obtain⟨rfl,rfl,rfl,rfl⟩:=h16;subst h17 h18 h19 h20;have z:=B8b h h24 h22 h23;rw[z.1,z.2 h27];rfl))
theorem con67(f:Facts)(d:Dot)(hb:szF f)(hl:szL f):Con Tryz.prog 67 [.agg (c36 f),.agg (c44 d)] (.tup [.agg (L7 (L3 f d).1),.i .i64 (L3 f d).2]) :=
 by
 have y:¬¬okF f=true→okF f=true:=Classical.not_not.1
 refine sC A6 [.cell 4 112,.tmp 5] 17 Tryz.func67 ?_
 intro e0 cx
 refine sq<|rG cx [2,3,4] [2,3,4] z0<|sn<|sq<|sq<|rG cx [2,3,4,8] [2,3,4] (fT (A4q (f) (by(with_reducible assumption))) (tT 2 (C3:(AV.b !okF f)=AV.b (decide ¬okF f=true)) (oA 1 (.b (okF f)) z0)))<|sn<|dC (¬okF f=true) (fun h0=>?_) fun h0=>?_
 refine sq<|rG cx [4,5] [4] z0<|sn<|rT<|nR<|qR (.tup [.agg [.i .i64 ((0:Int)),.i .i64 ((0:Int)),.i .i64 ((0:Int)),.i .i64 ((0:Int))],.i .i64 ((1:Int))]) (B5.tup (ZLe.cons (B5.eq (show AV.agg [AV.i .i64 (0:Int),AV.i .i64 (0:Int),AV.i .i64 (0:Int),AV.i .i64 (0:Int)]=AV.agg [AV.i .i64 (L3 f d).1.dot.rep,AV.i .i64 (L3 f d).1.dot.num,AV.i .i64 (L3 f d).1.kind,AV.i .i64 (L3 f d).1.recs]from(by rw[Aq1 h0];rfl))) (ZLe.cons (B5.eq (show AV.i .i64 1=AV.i .i64 (L3 f d).2 from(by rw[Aq1 h0]))) ZLe.nil)))
 refine sK<|sn<|sq<|sq<|rG cx [2,3,4,12] [2,3,4] (fT (At6 (d)) (tT 2 (C3:(AV.b !I0 d)=AV.b (decide ¬I0 d=true)) (oA 1 (.b (I0 d)) z0)))<|sn<|dC (¬I0 d=true) (fun h1=>?_) fun h1=>?_
 refine sq<|rG cx [4,5] [4] z0<|sn<|rT<|nR<|qR (.tup [.agg [.i .i64 ((0:Int)),.i .i64 ((0:Int)),.i .i64 ((0:Int)),.i .i64 ((0:Int))],.i .i64 ((2:Int))]) (B5.tup (ZLe.cons (B5.eq (show AV.agg [AV.i .i64 (0:Int),AV.i .i64 (0:Int),AV.i .i64 (0:Int),AV.i .i64 (0:Int)]=AV.agg [AV.i .i64 (L3 f d).1.dot.rep,AV.i .i64 (L3 f d).1.dot.num,AV.i .i64 (L3 f d).1.kind,AV.i .i64 (L3 f d).1.recs]from(by rw[A85 (y h0) h1];rfl))) (ZLe.cons (B5.eq (show AV.i .i64 2=AV.i .i64 (L3 f d).2 from(by rw[A85 (y h0) h1]))) ZLe.nil)))
 refine sK<|sn<|sq<|rG cx [4,5] [4] (fT (B8d (f) (d) (by(with_reducible assumption)) (by(with_reducible assumption)) (by exact y h0)) (oA 2 (.agg [.i .i64 ((ftF f d).dot.rep),.i .i64 ((ftF f d).dot.num),.i .i64 ((ftF f d).kind),.i .i64 ((ftF f d).recs)]) z0)) ?_
 refine sn<|rT<|qR (.tup [.agg [.i .i64 ((ftF f d).dot.rep),.i .i64 ((ftF f d).dot.num),.i .i64 ((ftF f d).kind),.i .i64 ((ftF f d).recs)],.i .i64 ((0:Int))]) (B5.tup (ZLe.cons (B5.eq (show AV.agg [AV.i .i64 (ftF f d).dot.rep,AV.i .i64 (ftF f d).dot.num,AV.i .i64 (ftF f d).kind,AV.i .i64 (ftF f d).recs]=AV.agg [AV.i .i64 (L3 f d).1.dot.rep,AV.i .i64 (L3 f d).1.dot.num,AV.i .i64 (L3 f d).1.kind,AV.i .i64 (L3 f d).1.recs]from(by rw[Aq2 (y h0) (Classical.not_not.1 h1)]))) (ZLe.cons (B5.eq (show AV.i .i64 0=AV.i .i64 (L3 f d).2 from(by rw[Aq2 (y h0) (Classical.not_not.1 h1)]))) ZLe.nil)))
theorem con69(f:Facts)(s:ByteArray)(hb:szF f)(hl:szL f):Con Tryz.prog 69 [.agg (c36 f),.s s] (.tup [.sl ((W5 f s).1.map L7),.i .i64 (W5 f s).2]) :=
 by
 have y:¬¬okF f=true→okF f=true:=Classical.not_not.1
 have al:=fun h=>ent_sz (s:=f) (y h)
 refine sC A6 [.tmp 4,.tmp 5] 41 Tryz.func69 ?_
 intro e0 cx
 refine sq<|rG cx [1,2] [2] z0<|sn<|sq<|sq<|rG cx [1,2,10] [2] (fT (A4q (f) (by(with_reducible assumption))) (tT 2 (C3:(AV.b !okF f)=AV.b (decide ¬okF f=true)) (oA 1 (.b (okF f)) z0)))<|sn<|dC (¬okF f=true) (fun hh0=>?_) fun hh0=>?_
 refine sq<|rG cx [4,5] [] z0<|sn<|rT<|nR<|qR (.tup [.nl,.i .i64 ((1:Int))]) (B5.tup (ZLe.cons (B5.nl' (show List.map L7 (W5 f s).1=[]from(by rw[Aq3 hh0];rfl))) (ZLe.cons (B5.eq (show AV.i .i64 1=AV.i .i64 (W5 f s).2 from(by rw[Aq3 hh0]))) ZLe.nil)))
 refine sK<|sn<|sq<|sq<|rG cx [1,2,13] [2] (fT (A9o (s)) (tT 2 (C3:(AV.b !I2 s)=AV.b (decide ¬I2 s=true)) (oA 1 (.b (I2 s)) z0)))<|sn<|dC (¬I2 s=true) (fun hh1=>?_) fun hh1=>?_
 refine sq<|rG cx [4,5] [] z0<|sn<|rT<|nR<|qR (.tup [.nl,.i .i64 ((5:Int))]) (B5.tup (ZLe.cons (B5.nl' (show List.map L7 (W5 f s).1=[]from(by rw[A86 (y hh0) hh1];rfl))) (ZLe.cons (B5.eq (show AV.i .i64 5=AV.i .i64 (W5 f s).2 from(by rw[A86 (y hh0) hh1]))) ZLe.nil)))
 refine sK<|sn<|sq<|rG cx [1,2,6] [2] z0<|sn<|sq<|sq<|rG cx [1,2,6,7] [2] z0<|sn<|bL 0<|E0 6 1006 112 4 (σ':=⟨[(1,.s (s)),(2,.ptr (2) (0) (0) (0)),(6,.own 1006 0),(7,.i .i64 ((0:Int)))],[(2,⟨0,36,.var [.sl (List.map c46 f.adds),.sl (List.map c3 f.gone.vec),.sl (List.map A9 f.gone.cloud),.sl (List.map c54 f.recs)]⟩),(1006,⟨0,112,.row 4 (List.map L7 [])⟩)]⟩) (by kernel_rfl)<|sL (X:=Int×List Entry×List Int×List Span×List Record×List Fate) (fun x=>⟨[(1,.s (s)),(2,.ptr (2) (0) (0) (0)),(6,.own 1006 0),(7,.i .i64 (x.1))],[(2,⟨0,36,.var [.sl (List.map c46 x.2.1),.sl (List.map c3 x.2.2.1),.sl (List.map A9 x.2.2.2.1),.sl (List.map c54 x.2.2.2.2.1)]⟩),(1006,⟨0,112,.row 4 (List.map L7 x.2.2.2.2.2)⟩)]⟩) (fun x ↦ decSy f x.1 x.2.1 x.2.2.1 x.2.2.2.1 x.2.2.2.2.1 x.2.2.2.2.2) (fun x ↦ Ab9 f s x.1 x.2.1 x.2.2.1 x.2.2.2.1 x.2.2.2.2.1 x.2.2.2.2.2) [1,2,6,7] [2,1006] (((0:Int),f.adds,f.gone.vec,f.gone.cloud,f.recs,[])) (show Ab9 f s (0:Int) f.adds f.gone.vec f.gone.cloud f.recs []from(by exact⟨rfl,rfl,rfl,rfl,by omega,by omega,by simp,by simp⟩)) ?_
 rintro⟨i2,xx3,xx4,x5,x6,o7⟩ h_8
 obtain⟨h9,h10,h11,h12,h13,h14,h15,h16⟩:xx3=f.adds∧xx4=f.gone.vec∧x5=f.gone.cloud∧x6=f.recs∧0≤i2∧i2≤(↑f.adds.length:Int)∧(↑o7.length:Int)≤i2∧o7=List.map (fun e ↦ ftF f e.dot) (List.filter (fun e ↦ decide (e.sku=s)) (List.take i2.toNat f.adds)):=h_8
 refine sq<|rD cx [1,2,6,7,18] [2,1006] (tL 3 c46 xx3 (zB 4 (i2 <(↑xx3.length:Int)))) (fun h17=>?_) fun h17=>?_
 refine sK<|sn<|sq<|bL 1<|sq<|rG cx [1,2,6,7,28] [2,1006] (fA (0≤i2) (fG c46 xx3 i2.toNat (fR 4 (tT 7 (Z1:AV.b (xx3[i2.toNat]!.sku.toList == s.toList)=AV.b (decide (xx3[i2.toNat]!.sku=s))) (oR 3 (c46 xx3[i2.toNat]!) z0)))))<|sn<|dC (xx3[i2.toNat]!.sku=s) (fun h18=>?_) fun h18=>?_
 refine rA cx [1,2,6,7] [2,1006] (fA (0≤i2) (fG c46 xx3 i2.toNat (fR 4 (fN 2 4 (fT (B8d ({ adds:=xx3,gone:={ vec:=xx4,cloud:=x5:Past },recs:=x6:Facts }) (xx3[i2.toNat]!.dot) (by subst h9 h10 h11 h12;exact hb) (by subst h9 h10 h11 h12;exact hl) (by subst h9 h10 h11 h12;exact y hh0)) (fR 112 (fR 4 (fR 4 (fX L7 [ftF { adds:=xx3,gone:={ vec:=xx4,cloud:=x5:Past },recs:=x6:Facts } xx3[i2.toNat]!.dot] 4 (fP ((List.map L7 o7).length+(List.map L7 [ftF { adds:=xx3,gone:={ vec:=xx4,cloud:=x5:Past },recs:=x6:Facts } xx3[i2.toNat]!.dot]).length≤maxLen) (by have:=al hh0;simp only [List.length_map,List.length_cons,List.length_nil,Go.maxLen];omega) (fP (((List.map L7 o7).length+(List.map L7 [ftF { adds:=xx3,gone:={ vec:=xx4,cloud:=x5:Past },recs:=x6:Facts } xx3[i2.toNat]!.dot]).length)*(32:Nat)≤(140737488355328:Nat)) (by have:=al hh0;simp only [List.length_map,List.length_cons,List.length_nil];omega) (fM L7 o7 [ftF { adds:=xx3,gone:={ vec:=xx4,cloud:=x5:Past },recs:=x6:Facts } xx3[i2.toNat]!.dot] (oR 5 (c46 xx3[i2.toNat]!) (oA 8 (.agg [.i .i64 ((ftF { adds:=xx3,gone:={ vec:=xx4,cloud:=x5:Past },recs:=x6:Facts } xx3[i2.toNat]!.dot).dot.rep),.i .i64 ((ftF { adds:=xx3,gone:={ vec:=xx4,cloud:=x5:Past },recs:=x6:Facts } xx3[i2.toNat]!.dot).dot.num),.i .i64 ((ftF { adds:=xx3,gone:={ vec:=xx4,cloud:=x5:Past },recs:=x6:Facts } xx3[i2.toNat]!.dot).kind),.i .i64 ((ftF { adds:=xx3,gone:={ vec:=xx4,cloud:=x5:Past },recs:=x6:Facts } xx3[i2.toNat]!.dot).recs)]) (oV 10 { rows:=some (List.map L7 (o7++[ftF { adds:=xx3,gone:={ vec:=xx4,cloud:=x5:Past },recs:=x6:Facts } xx3[i2.toNat]!.dot])) } z0))))))))))))))) ?_
 refine bN<|sn<|rG cx [1,2,6,7] [2,1006] (tT 1 (B4 (by omega) (by have:=al hh0;omega):AV.i .i64 (IntKind.i64.wrap (i2+1))=AV.i .i64 (i2+1)) z0) ?_
 refine sn<|nX ((i2+1,xx3,xx4,x5,x6,o7++[ftF { adds:=xx3,gone:={ vec:=xx4,cloud:=x5:Past },recs:=x6:Facts } xx3[i2.toNat]!.dot])) (show((↑f.adds.length:Int)-(i2+1)).toNat <((↑f.adds.length:Int)-i2).toNat from(by subst h9;omega)) (show Ab9 f s (i2+1) xx3 xx4 x5 x6 (o7++[ftF { adds:=xx3,gone:={ vec:=xx4,cloud:=x5:Past },recs:=x6:Facts } xx3[i2.toNat]!.dot])from(by subst h9 h10 h11 h12;exact⟨rfl,rfl,rfl,rfl,by omega,by omega,by rw[List.length_append,List.length_singleton];omega,by rw[A87 h13 h17 h16,if_pos h18]⟩))
 refine sK<|bN<|sn<|rG cx [1,2,6,7] [2,1006] (tT 1 (B4 (by omega) (by have:=al hh0;omega):AV.i .i64 (IntKind.i64.wrap (i2+1))=AV.i .i64 (i2+1)) z0) ?_
 refine sn<|nX ((i2+1,xx3,xx4,x5,x6,o7)) (show((↑f.adds.length:Int)-(i2+1)).toNat <((↑f.adds.length:Int)-i2).toNat from(by subst h9;omega)) (show Ab9 f s (i2+1) xx3 xx4 x5 x6 o7 from(by subst h9 h10 h11 h12;exact⟨rfl,rfl,rfl,rfl,by omega,by omega,by omega,by rw[A87 h13 h17 h16,if_neg h18,List.append_nil]⟩))
 refine eX 0<|nE<|nE<|bH<|sn<|sq<|rG cx [4,5] [1006] z0<|sn<|rT<|qR (.tup [.sl (List.map L7 o7),.i .i64 ((0:Int))]) (B5.tup (ZLe.cons (B5.eq (show AV.sl (List.map L7 o7)=AV.sl (List.map L7 (W5 f s).1)from(by subst h9;rw[Aq4 (y hh0) (Classical.not_not.1 hh1),h16,List.take_of_length_le (by omega)]))) (ZLe.cons (B5.eq (show AV.i .i64 0=AV.i .i64 (W5 f s).2 from(by rw[Aq4 (y hh0) (Classical.not_not.1 hh1)]))) ZLe.nil)))
theorem con72(f:Facts)(hb:szF f)(hl:szL f):Con Tryz.prog 72 [.agg (c36 f)] (.tup [.agg (Bh5 (W6 f).1),.i .i64 (W6 f).2]) :=
 by
 have y:¬¬okF f=true→okF f=true:=Classical.not_not.1
 have w1:=Ai0 f
 have w2:=A0s f.recs (F6 f)
 have w3:=hl.1
 have w4:=hl.2
 refine sC A6 [.cell 2 120,.tmp 3] 29 Tryz.func72 ?_
 intro e0 cx
 refine sq<|rG cx [1,2] [1,2] z0<|sn<|sq<|sq<|rG cx [1,2,7] [1,2] (fT (A4q (f) (by(with_reducible assumption))) (tT 2 (C3:(AV.b !okF f)=AV.b (decide ¬okF f=true)) (oA 1 (.b (okF f)) z0)))<|sn<|dC (¬okF f=true) (fun h0=>?_) fun h0=>?_
 refine sq<|rG cx [2,3] [2] z0<|sn<|rT<|nR<|qR (.tup [.agg [.i .i64 ((0:Int)),.i .i64 ((0:Int)),.i .i64 ((0:Int))],.i .i64 ((1:Int))]) (B5.tup (ZLe.cons (B5.eq (show AV.agg [AV.i .i64 (0:Int),AV.i .i64 (0:Int),AV.i .i64 (0:Int)]=AV.agg [AV.i .i64 (W6 f).1.adds,AV.i .i64 (W6 f).1.gone,AV.i .i64 (W6 f).1.recs]from(by rw[Aq0 h0];rfl))) (ZLe.cons (B5.eq (show AV.i .i64 1=AV.i .i64 (W6 f).2 from(by rw[Aq0 h0]))) ZLe.nil)))
 refine sK<|sn<|sq<|rG cx [1,2,4] [1,2,4] (fT (Aq5 (f) (by(with_reducible assumption)) (by(with_reducible assumption)) (by exact y h0)) (oA 1 (.agg [.sl (List.map c46 (stF f).adds),.sl (List.map c3 (stF f).gone.vec),.sl (List.map A9 (stF f).gone.cloud),.sl (List.map c54 (stF f).recs)]) z0)) ?_
 refine sn<|sq<|rA cx [2,3] [2] (tL 2 c46 f.adds (tL 5 c46 ((stF f).adds) (tT 6 (B4 (by show _≤(f.adds.length:Int)-(A09 f).length;omega) (by show(f.adds.length:Int)-(A09 f).length≤_;omega):AV.i .i64 (IntKind.i64.wrap ((↑f.adds.length:Int)-(↑(stF f).adds.length:Int)))=AV.i .i64 ((↑f.adds.length:Int)-(↑(stF f).adds.length:Int))) (fT (B7r (f.gone) (by exact hb.1.1)) (tL 12 c54 f.recs (tL 15 c54 ((stF f).recs) (tT 16 (B4 (by show _≤(f.recs.length:Int)-(O2 f.recs (F6 f)).length;omega) (by show(f.recs.length:Int)-(O2 f.recs (F6 f)).length≤_;omega):AV.i .i64 (IntKind.i64.wrap ((↑f.recs.length:Int)-(↑(stF f).recs.length:Int)))=AV.i .i64 ((↑f.recs.length:Int)-(↑(stF f).recs.length:Int))) (oA 9 (.i .i64 (B8 f.gone)) z0)))))))) ?_
 refine sn<|rT<|qR (.tup [.agg [.i .i64 ((↑f.adds.length:Int)-(↑(stF f).adds.length:Int)),.i .i64 (B8 f.gone),.i .i64 ((↑f.recs.length:Int)-(↑(stF f).recs.length:Int))],.i .i64 ((0:Int))]) (B5.tup (ZLe.cons (B5.eq (show AV.agg [AV.i .i64 ((↑f.adds.length:Int)-(↑(stF f).adds.length:Int)),AV.i .i64 (B8 f.gone),AV.i .i64 ((↑f.recs.length:Int)-(↑(stF f).recs.length:Int))]=AV.agg [AV.i .i64 (W6 f).1.adds,AV.i .i64 (W6 f).1.gone,AV.i .i64 (W6 f).1.recs]from(by rw[Ap9 (y h0)]))) (ZLe.cons (B5.eq (show AV.i .i64 0=AV.i .i64 (W6 f).2 from(by rw[Ap9 (y h0)]))) ZLe.nil)))
end Go.Proofs.YtphcaholhacnpaaGreat
namespace Go.Proofs.YtphcaholhacnpaaGreat
open Go.E
set_option maxRecDepth 100000
set_option maxHeartbeats 4000000
def fxR:List Record:=[⟨⟨#[65]⟩,⟨[2],[]⟩⟩]
def fxF:Facts:=⟨[⟨⟨0,1⟩,⟨#[65]⟩,5⟩,⟨⟨1,1⟩,⟨#[66]⟩,7⟩],⟨[1],[]⟩,fxR⟩
def fxW:Facts:=⟨[⟨⟨1,1⟩,⟨#[66]⟩,7⟩],⟨[1,1],[]⟩,fxR⟩
theorem fx_two:¬ B8 ⟨[2],[]⟩=0:=fun h=>by
 have:=(S7 _).1 h ⟨0,1⟩
 rw[show C7 ⟨[2],[]⟩ ⟨0,1⟩=true by decide +kernel]at this
 cases this
theorem fxR_ok:F0 fxR=0:=(A1o _).2 ⟨fun r hr=>by rw[List.mem_singleton.1 hr];exact At2.2 ⟨.inr (by decide +kernel),by decide +kernel,fx_two⟩,List.pairwise_singleton _ _⟩
theorem Ac1:okF fxF=true:=D7.2 ⟨by decide +kernel,by decide +kernel,fxR_ok⟩
theorem Bf4:O2 fxR ⟨[1,1],[]⟩=fxR:=Bd5 fun r hr=>by
 rw[List.mem_singleton.1 hr]
 refine decide_eq_true fun h=>?_
 have:=A26.1 h ⟨0,2⟩ (by decide +kernel)
 rw[show C7 ⟨[1,1],[]⟩ ⟨0,2⟩=false by decide +kernel]at this
 cases this
theorem B6l:stF fxF=fxW:=by
 have e1:A09 fxF=[⟨⟨1,1⟩,⟨#[66]⟩,7⟩]:=by decide +kernel
 have e2:F6 fxF=⟨[1,1],[]⟩:=by decide +kernel
 unfold stF
 rw[e1,e2,show fxF.recs=fxR from rfl,Bf4]
 rfl
theorem B2t:B9 fxF=(fxW,0):=by rw[K6 Ac1,B6l]
theorem fxW_ok:okS fxW=true:=B6l ▸ A57 Ac1
theorem Ai3:E7 fxW=(⟨[⟨⟨1,1⟩,⟨#[66]⟩,7⟩],⟨[1],[]⟩,fxR⟩,0):=by
 rw[Y3 fxW_ok]
 unfold A0q
 rw[show B3 fxW.gone (I4 fxW.adds)=⟨[1],[]⟩by decide +kernel]
 rfl
theorem Bf5:A2p fxF fxW=true:=A33.2 ⟨Ac1,B6l⟩
theorem B2u:szB 7 fxF:=⟨A0f Ac1,by decide,by decide⟩
theorem B2v:szB 7 fxW:=B6l ▸ B86 B2u Ac1
theorem Aq6:B5 (.sl [[.s ⟨#[65]⟩,.sl ([2].map c3),.nl]]) (.sl (fxR.map c54)):=by
 refine Bc9 rfl fun j x y hx hy=>?_
 match j with
 | 0 =>
  have hx:some [AV.s ⟨#[65]⟩,.sl ([2].map c3),.nl]=some x:=hx
  have hy:some (c54 ⟨⟨#[65]⟩,⟨[2],[]⟩⟩)=some y:=hy
  cases hx
  cases hy
  exact ZLe.cons (B5.refl _) (ZLe.cons (B5.refl _) (ZLe.cons B5.nl ZLe.nil))
 | j+1=>cases(show(none:Option (List AV))=some x from hx)
def eqK(x:KCase)(f1:List Entry)(f2:List Int)(f3:List Span)(f4:List Record)(g1:List Entry)(g2:List Int)(g3:List Span)(g4:List Record)(h1:List Entry)(h2:List Int)(h3:List Span)(h4:List Record)(s1:List Entry)(s2:List Int)(s3:List Span)(s4:List Record)(ds:List Dot)(sk:ByteArray):Prop:=B38 x.f f1 f2 f3 f4∧B38 x.g g1 g2 g3 g4∧B38 x.h h1 h2 h3 h4∧B38 x.s s1 s2 s3 s4∧ds=x.dots∧sk=x.sku
def Bf6(x:KCase)(i:Int)(f1:List Entry)(f2:List Int)(f3:List Span)(f4:List Record)(g1:List Entry)(g2:List Int)(g3:List Span)(g4:List Record)(h1:List Entry)(h2:List Int)(h3:List Span)(h4:List Record)(s1:List Entry)(s2:List Int)(s3:List Span)(s4:List Record)(ds:List Dot)(sk:ByteArray)(l:List Dot):Prop:=eqK x f1 f2 f3 f4 g1 g2 g3 g4 h1 h2 h3 h4 s1 s2 s3 s4 ds sk∧0≤i∧i≤x.f.adds.length∧(l.length:Int)=x.dots.length+i
def decKa(x:KCase)(i:Int)(f1:List Entry)(f2:List Int)(f3:List Span)(f4:List Record)(g1:List Entry)(g2:List Int)(g3:List Span)(g4:List Record)(h1:List Entry)(h2:List Int)(h3:List Span)(h4:List Record)(s1:List Entry)(s2:List Int)(s3:List Span)(s4:List Record)(ds:List Dot)(sk:ByteArray)(l:List Dot):Nat:=(x.f.adds.length-i).toNat
def Bf7(x:KCase)(i:Int)(f1:List Entry)(f2:List Int)(f3:List Span)(f4:List Record)(g1:List Entry)(g2:List Int)(g3:List Span)(g4:List Record)(h1:List Entry)(h2:List Int)(h3:List Span)(h4:List Record)(s1:List Entry)(s2:List Int)(s3:List Span)(s4:List Record)(ds:List Dot)(sk:ByteArray)(l:List Dot):Prop:=eqK x f1 f2 f3 f4 g1 g2 g3 g4 h1 h2 h3 h4 s1 s2 s3 s4 ds sk∧0≤i∧i≤l.length∧(l.length:Int)=x.dots.length+x.f.adds.length
def decKb(i:Int)(f1:List Entry)(f2:List Int)(f3:List Span)(f4:List Record)(g1:List Entry)(g2:List Int)(g3:List Span)(g4:List Record)(h1:List Entry)(h2:List Int)(h3:List Span)(h4:List Record)(s1:List Entry)(s2:List Int)(s3:List Span)(s4:List Record)(ds:List Dot)(sk:ByteArray)(l:List Dot):Nat:=(l.length-i).toNat
def Bf8(x:KCase)(i:Int)(f1:List Entry)(f2:List Int)(f3:List Span)(f4:List Record)(g1:List Entry)(g2:List Int)(g3:List Span)(g4:List Record)(h1:List Entry)(h2:List Int)(h3:List Span)(h4:List Record)(s1:List Entry)(s2:List Int)(s3:List Span)(s4:List Record)(ds:List Dot)(sk:ByteArray)(fs:List Facts):Prop:=eqK x f1 f2 f3 f4 g1 g2 g3 g4 h1 h2 h3 h4 s1 s2 s3 s4 ds sk∧fs=[x.f,x.g,x.h]∧0≤i∧i≤3
def decSt(i:Int)(f1:List Entry)(f2:List Int)(f3:List Span)(f4:List Record)(g1:List Entry)(g2:List Int)(g3:List Span)(g4:List Record)(h1:List Entry)(h2:List Int)(h3:List Span)(h4:List Record)(s1:List Entry)(s2:List Int)(s3:List Span)(s4:List Record)(ds:List Dot)(sk:ByteArray)(fs:List Facts):Nat:=(3-i).toNat
theorem B39{α:Type}[Inhabited α]{enc:α→List AV}{l:List α}{i:Int}{v t m:Nat}(h0:0≤i)(hi:i < l.length):Go.E.rowAt ⟨v,t,.row m (l.map enc)⟩ i.toNat (enc l[i.toNat]!):=by
 show(l.map enc)[i.toNat]?=some (enc l[i.toNat]!)
 rw[List.getElem?_map,List.getElem?_eq_getElem (by omega),getElem!_pos l i.toNat (by omega)]
 rfl
theorem Aq7{a b c:Facts}{p:Facts→Prop}(ha:p a)(hb:p b)(hc:p c){i:Int}(h0:0≤i)(h:i <(([a,b,c]:List Facts).length:Int)):p ([a,b,c]:List Facts)[i.toNat]!:=by
 have h:i < 3:=h
 have:i.toNat=0∨i.toNat=1∨i.toNat=2:=by omega
 rcases this with k | k | k <;> rw[k]
 ·exact ha
 ·exact hb
 ·exact hc
theorem B2w{f:Facts}(h:szB 7 f):szB 7 (B9 f).1:=by
 by_cases k:okF f=true
 ·rw[K6 k];exact B86 h k
 ·rw[Q8 k];exact⟨A0f Ah7,by decide,by decide⟩
theorem B2x{s:Facts}:szF (E7 s).1∧(E7 s).1.recs.length≤s.recs.length:=by
 by_cases k:okS s=true
 ·rw[Y3 k];exact⟨A0f (B81 k),Nat.le_refl _⟩
 ·rw[A0t k];exact⟨A0f Ah7,Nat.zero_le _⟩
theorem B2y{f:Facts}:szF (N4 f).1∧(N4 f).1.recs.length≤f.recs.length:=by
 by_cases k:okF f=true
 ·rw[Ac0 k];exact⟨A0f (B81 (A57 k)),A0s _ _⟩
 ·rw[Y4 k];exact⟨A0f Ah7,Nat.zero_le _⟩
theorem Bf9(f:Facts)(s:ByteArray):(W5 f s).1.length≤f.adds.length:=by
 unfold W5
 split
 ·exact Nat.zero_le _
 ·split
  ·exact Nat.zero_le _
  ·show((f.adds.filter fun e=>decide (e.sku=s)).map fun e=>ftF f e.dot).length≤_
   rw[List.length_map]
   exact List.length_filter_le _ _
theorem fx_zF:ZLe [.sl (fxF.adds.map c46),.sl ([1].map c3),.nl,.sl [[.s ⟨#[65]⟩,.sl ([2].map c3),.nl]]] (c36 fxF):=ZLe.cons (B5.refl _) (ZLe.cons (B5.refl _) (ZLe.cons B5.nl (ZLe.cons Aq6 ZLe.nil)))
theorem Bg0:ZLe [.sl (fxW.adds.map c46),.sl ([1,1].map c3),.nl,.sl [[.s ⟨#[65]⟩,.sl ([2].map c3),.nl]]] (c82 fxW):=ZLe.cons (B5.refl _) (ZLe.cons (B5.refl _) (ZLe.cons B5.nl (ZLe.cons Aq6 ZLe.nil)))
theorem con55 :Con Tryz.prog 55 [] (.b true) :=
 by
 have c1:(B9 fxF).1=fxW:=by rw[B2t]
 have c2:(B9 fxF).2=0:=by rw[B2t]
 refine sC A6 [.tmp 0] 65 Tryz.func55 ?_
 intro e0 cx
 refine sq<|rG cx [] [] z0<|sn<|sq<|rG cx [1] [1] z0<|sn<|sq<|rG cx [1,2,3] [1,2] (fP (Con Tryz.prog (56:Nat) [AV.agg [AV.sl (List.map c46 [{ dot:={ rep:=(0:Int),num:=(1:Int):Dot },sku:={ data:=#[(65:UInt8)]:ByteArray },qty:=(5:Int):Entry },{ dot:={ rep:=(1:Int),num:=(1:Int):Dot },sku:={ data:=#[(66:UInt8)]:ByteArray },qty:=(7:Int):Entry }]),AV.sl (List.map c3 [(1:Int)]),AV.nl,AV.sl [[AV.s { data:=#[(65:UInt8)]:ByteArray },AV.sl (List.map c3 [(2:Int)]),AV.nl]]]] (AV.tup [AV.agg [AV.sl (List.map c46 (B9 { adds:=[{ dot:={ rep:=(0:Int),num:=(1:Int):Dot },sku:={ data:=#[(65:UInt8)]:ByteArray },qty:=(5:Int):Entry },{ dot:={ rep:=(1:Int),num:=(1:Int):Dot },sku:={ data:=#[(66:UInt8)]:ByteArray },qty:=(7:Int):Entry }],gone:={ vec:=[(1:Int)],cloud:=[]:Past },recs:=[{ sku:={ data:=#[(65:UInt8)]:ByteArray },past:={ vec:=[(2:Int)],cloud:=[]:Past }:Record }]:Facts }).1.adds),AV.sl (List.map c3 (B9 { adds:=[{ dot:={ rep:=(0:Int),num:=(1:Int):Dot },sku:={ data:=#[(65:UInt8)]:ByteArray },qty:=(5:Int):Entry },{ dot:={ rep:=(1:Int),num:=(1:Int):Dot },sku:={ data:=#[(66:UInt8)]:ByteArray },qty:=(7:Int):Entry }],gone:={ vec:=[(1:Int)],cloud:=[]:Past },recs:=[{ sku:={ data:=#[(65:UInt8)]:ByteArray },past:={ vec:=[(2:Int)],cloud:=[]:Past }:Record }]:Facts }).1.gone.vec),AV.sl (List.map A9 (B9 { adds:=[{ dot:={ rep:=(0:Int),num:=(1:Int):Dot },sku:={ data:=#[(65:UInt8)]:ByteArray },qty:=(5:Int):Entry },{ dot:={ rep:=(1:Int),num:=(1:Int):Dot },sku:={ data:=#[(66:UInt8)]:ByteArray },qty:=(7:Int):Entry }],gone:={ vec:=[(1:Int)],cloud:=[]:Past },recs:=[{ sku:={ data:=#[(65:UInt8)]:ByteArray },past:={ vec:=[(2:Int)],cloud:=[]:Past }:Record }]:Facts }).1.gone.cloud),AV.sl (List.map c54 (B9 { adds:=[{ dot:={ rep:=(0:Int),num:=(1:Int):Dot },sku:={ data:=#[(65:UInt8)]:ByteArray },qty:=(5:Int):Entry },{ dot:={ rep:=(1:Int),num:=(1:Int):Dot },sku:={ data:=#[(66:UInt8)]:ByteArray },qty:=(7:Int):Entry }],gone:={ vec:=[(1:Int)],cloud:=[]:Past },recs:=[{ sku:={ data:=#[(65:UInt8)]:ByteArray },past:={ vec:=[(2:Int)],cloud:=[]:Past }:Record }]:Facts }).1.recs)],AV.i .i64 (B9 { adds:=[{ dot:={ rep:=(0:Int),num:=(1:Int):Dot },sku:={ data:=#[(65:UInt8)]:ByteArray },qty:=(5:Int):Entry },{ dot:={ rep:=(1:Int),num:=(1:Int):Dot },sku:={ data:=#[(66:UInt8)]:ByteArray },qty:=(7:Int):Entry }],gone:={ vec:=[(1:Int)],cloud:=[]:Past },recs:=[{ sku:={ data:=#[(65:UInt8)]:ByteArray },past:={ vec:=[(2:Int)],cloud:=[]:Past }:Record }]:Facts }).2])) (by exact(B2p fxF B2u).le (ZLe.cons (B5.agg fx_zF) ZLe.nil)) (oA 1 (.tup [.agg [.sl (List.map c46 (B9 { adds:=[{ dot:={ rep:=(0:Int),num:=(1:Int):Dot },sku:={ data:=#[(65:UInt8)]:ByteArray },qty:=(5:Int):Entry },{ dot:={ rep:=(1:Int),num:=(1:Int):Dot },sku:={ data:=#[(66:UInt8)]:ByteArray },qty:=(7:Int):Entry }],gone:={ vec:=[(1:Int)],cloud:=[]:Past },recs:=[{ sku:={ data:=#[(65:UInt8)]:ByteArray },past:={ vec:=[(2:Int)],cloud:=[]:Past }:Record }]:Facts }).1.adds),.sl (List.map c3 (B9 { adds:=[{ dot:={ rep:=(0:Int),num:=(1:Int):Dot },sku:={ data:=#[(65:UInt8)]:ByteArray },qty:=(5:Int):Entry },{ dot:={ rep:=(1:Int),num:=(1:Int):Dot },sku:={ data:=#[(66:UInt8)]:ByteArray },qty:=(7:Int):Entry }],gone:={ vec:=[(1:Int)],cloud:=[]:Past },recs:=[{ sku:={ data:=#[(65:UInt8)]:ByteArray },past:={ vec:=[(2:Int)],cloud:=[]:Past }:Record }]:Facts }).1.gone.vec),.sl (List.map A9 (B9 { adds:=[{ dot:={ rep:=(0:Int),num:=(1:Int):Dot },sku:={ data:=#[(65:UInt8)]:ByteArray },qty:=(5:Int):Entry },{ dot:={ rep:=(1:Int),num:=(1:Int):Dot },sku:={ data:=#[(66:UInt8)]:ByteArray },qty:=(7:Int):Entry }],gone:={ vec:=[(1:Int)],cloud:=[]:Past },recs:=[{ sku:={ data:=#[(65:UInt8)]:ByteArray },past:={ vec:=[(2:Int)],cloud:=[]:Past }:Record }]:Facts }).1.gone.cloud),.sl (List.map c54 (B9 { adds:=[{ dot:={ rep:=(0:Int),num:=(1:Int):Dot },sku:={ data:=#[(65:UInt8)]:ByteArray },qty:=(5:Int):Entry },{ dot:={ rep:=(1:Int),num:=(1:Int):Dot },sku:={ data:=#[(66:UInt8)]:ByteArray },qty:=(7:Int):Entry }],gone:={ vec:=[(1:Int)],cloud:=[]:Past },recs:=[{ sku:={ data:=#[(65:UInt8)]:ByteArray },past:={ vec:=[(2:Int)],cloud:=[]:Past }:Record }]:Facts }).1.recs)],.i .i64 ((B9 { adds:=[{ dot:={ rep:=(0:Int),num:=(1:Int):Dot },sku:={ data:=#[(65:UInt8)]:ByteArray },qty:=(5:Int):Entry },{ dot:={ rep:=(1:Int),num:=(1:Int):Dot },sku:={ data:=#[(66:UInt8)]:ByteArray },qty:=(7:Int):Entry }],gone:={ vec:=[(1:Int)],cloud:=[]:Past },recs:=[{ sku:={ data:=#[(65:UInt8)]:ByteArray },past:={ vec:=[(2:Int)],cloud:=[]:Past }:Record }]:Facts }).2)]) z0)) ?_
 refine sn<|sq<|rA cx [1,2,3,4] [1,2,4] (fO ((0:Int)≤(1:Int)) (fP (1≤none.getD (↑(List.map c46 [{ dot:={ rep:=(0:Int),num:=(1:Int):Dot },sku:={ data:=#[(65:UInt8)]:ByteArray },qty:=(5:Int):Entry },{ dot:={ rep:=(1:Int),num:=(1:Int):Dot },sku:={ data:=#[(66:UInt8)]:ByteArray },qty:=(7:Int):Entry }]).length:Int)) (by decide) (fP (none.getD (↑(List.map c46 [{ dot:={ rep:=(0:Int),num:=(1:Int):Dot },sku:={ data:=#[(65:UInt8)]:ByteArray },qty:=(5:Int):Entry },{ dot:={ rep:=(1:Int),num:=(1:Int):Dot },sku:={ data:=#[(66:UInt8)]:ByteArray },qty:=(7:Int):Entry }]).length:Int)≤(↑(List.map c46 [{ dot:={ rep:=(0:Int),num:=(1:Int):Dot },sku:={ data:=#[(65:UInt8)]:ByteArray },qty:=(5:Int):Entry },{ dot:={ rep:=(1:Int),num:=(1:Int):Dot },sku:={ data:=#[(66:UInt8)]:ByteArray },qty:=(7:Int):Entry }]).length:Int)) (by decide) (fX c46 [{ dot:={ rep:=(0:Int),num:=(1:Int):Dot },sku:={ data:=#[(65:UInt8)]:ByteArray },qty:=(5:Int):Entry },{ dot:={ rep:=(1:Int),num:=(1:Int):Dot },sku:={ data:=#[(66:UInt8)]:ByteArray },qty:=(7:Int):Entry }] 4 z0)))) ?_
 refine sn<|sq<|sq<|B1 (σ':=⟨[(4,.ptr (4) (0) (0) (0)),(44,.b (decide (¬(B9 { adds:=[{ dot:={ rep:=(0:Int),num:=(1:Int):Dot },sku:={ data:=#[(65:UInt8)]:ByteArray },qty:=(5:Int):Entry },{ dot:={ rep:=(1:Int),num:=(1:Int):Dot },sku:={ data:=#[(66:UInt8)]:ByteArray },qty:=(7:Int):Entry }],gone:={ vec:=[(1:Int)],cloud:=[]:Past },recs:=[{ sku:={ data:=#[(65:UInt8)]:ByteArray },past:={ vec:=[(2:Int)],cloud:=[]:Past }:Record }]:Facts }).2=0∨¬(B9 { adds:=[{ dot:={ rep:=(0:Int),num:=(1:Int):Dot },sku:={ data:=#[(65:UInt8)]:ByteArray },qty:=(5:Int):Entry },{ dot:={ rep:=(1:Int),num:=(1:Int):Dot },sku:={ data:=#[(66:UInt8)]:ByteArray },qty:=(7:Int):Entry }],gone:={ vec:=[(1:Int)],cloud:=[]:Past },recs:=[{ sku:={ data:=#[(65:UInt8)]:ByteArray },past:={ vec:=[(2:Int)],cloud:=[]:Past }:Record }]:Facts }).1={ adds:=[{ dot:={ rep:=(1:Int),num:=(1:Int):Dot },sku:={ dot:={ rep:=(1:Int),num:=(1:Int):Dot },sku:={ data:=#[(66:UInt8)]:ByteArray },qty:=(7:Int):Entry }.sku,qty:=(7:Int):Entry }],gone:={ vec:=[(1:Int),(1:Int)],cloud:=[]:Past },recs:=[{ sku:={ data:=#[(65:UInt8)]:ByteArray },past:={ vec:=[(2:Int)],cloud:=[]:Past }:Record }]:Facts }∨¬A2p { adds:=[{ dot:={ rep:=(0:Int),num:=(1:Int):Dot },sku:={ data:=#[(65:UInt8)]:ByteArray },qty:=(5:Int):Entry },{ dot:={ rep:=(1:Int),num:=(1:Int):Dot },sku:={ data:=#[(66:UInt8)]:ByteArray },qty:=(7:Int):Entry }],gone:={ vec:=[(1:Int)],cloud:=[]:Past },recs:=[{ sku:={ data:=#[(65:UInt8)]:ByteArray },past:={ vec:=[(2:Int)],cloud:=[]:Past }:Record }]:Facts } { adds:=[{ dot:={ rep:=(1:Int),num:=(1:Int):Dot },sku:={ dot:={ rep:=(1:Int),num:=(1:Int):Dot },sku:={ data:=#[(66:UInt8)]:ByteArray },qty:=(7:Int):Entry }.sku,qty:=(7:Int):Entry }],gone:={ vec:=[(1:Int),(1:Int)],cloud:=[]:Past },recs:=[{ sku:={ data:=#[(65:UInt8)]:ByteArray },past:={ vec:=[(2:Int)],cloud:=[]:Past }:Record }]:Facts }=true)))],[(4,⟨0,82,.var [.sl [[.i .i64 ((1:Int)),.i .i64 ((1:Int)),.s ({ dot:={ rep:=(1:Int),num:=(1:Int):Dot },sku:={ data:=#[(66:UInt8)]:ByteArray },qty:=(7:Int):Entry }.sku),.i .i64 ((7:Int))]],.sl (List.map c3 [(1:Int),(1:Int)]),.nl,.sl [[.s ({ data:=#[(65:UInt8)]:ByteArray }),.sl (List.map c3 [(2:Int)]),.nl]]]⟩)]⟩) ?_ ?_
 refine A5 (¬(B9 { adds:=[{ dot:={ rep:=(0:Int),num:=(1:Int):Dot },sku:={ data:=#[(65:UInt8)]:ByteArray },qty:=(5:Int):Entry },{ dot:={ rep:=(1:Int),num:=(1:Int):Dot },sku:={ data:=#[(66:UInt8)]:ByteArray },qty:=(7:Int):Entry }],gone:={ vec:=[(1:Int)],cloud:=[]:Past },recs:=[{ sku:={ data:=#[(65:UInt8)]:ByteArray },past:={ vec:=[(2:Int)],cloud:=[]:Past }:Record }]:Facts }).2=0) (fun h1=>?_) (fun h1=>?_)
 refine rG cx [4,44] [4] (tT 1 (H2 h1:AV.b ((B9 { adds:=[{ dot:={ rep:=(0:Int),num:=(1:Int):Dot },sku:={ data:=#[(65:UInt8)]:ByteArray },qty:=(5:Int):Entry },{ dot:={ rep:=(1:Int),num:=(1:Int):Dot },sku:={ data:=#[(66:UInt8)]:ByteArray },qty:=(7:Int):Entry }],gone:={ vec:=[(1:Int)],cloud:=[]:Past },recs:=[{ sku:={ data:=#[(65:UInt8)]:ByteArray },past:={ vec:=[(2:Int)],cloud:=[]:Past }:Record }]:Facts }).2 !=0)=AV.b true) (tD 13 true (¬(B9 { adds:=[{ dot:={ rep:=(0:Int),num:=(1:Int):Dot },sku:={ data:=#[(65:UInt8)]:ByteArray },qty:=(5:Int):Entry },{ dot:={ rep:=(1:Int),num:=(1:Int):Dot },sku:={ data:=#[(66:UInt8)]:ByteArray },qty:=(7:Int):Entry }],gone:={ vec:=[(1:Int)],cloud:=[]:Past },recs:=[{ sku:={ data:=#[(65:UInt8)]:ByteArray },past:={ vec:=[(2:Int)],cloud:=[]:Past }:Record }]:Facts }).2=0∨¬(B9 { adds:=[{ dot:={ rep:=(0:Int),num:=(1:Int):Dot },sku:={ data:=#[(65:UInt8)]:ByteArray },qty:=(5:Int):Entry },{ dot:={ rep:=(1:Int),num:=(1:Int):Dot },sku:={ data:=#[(66:UInt8)]:ByteArray },qty:=(7:Int):Entry }],gone:={ vec:=[(1:Int)],cloud:=[]:Past },recs:=[{ sku:={ data:=#[(65:UInt8)]:ByteArray },past:={ vec:=[(2:Int)],cloud:=[]:Past }:Record }]:Facts }).1={ adds:=[{ dot:={ rep:=(1:Int),num:=(1:Int):Dot },sku:={ dot:={ rep:=(1:Int),num:=(1:Int):Dot },sku:={ data:=#[(66:UInt8)]:ByteArray },qty:=(7:Int):Entry }.sku,qty:=(7:Int):Entry }],gone:={ vec:=[(1:Int),(1:Int)],cloud:=[]:Past },recs:=[{ sku:={ data:=#[(65:UInt8)]:ByteArray },past:={ vec:=[(2:Int)],cloud:=[]:Past }:Record }]:Facts }∨¬A2p { adds:=[{ dot:={ rep:=(0:Int),num:=(1:Int):Dot },sku:={ data:=#[(65:UInt8)]:ByteArray },qty:=(5:Int):Entry },{ dot:={ rep:=(1:Int),num:=(1:Int):Dot },sku:={ data:=#[(66:UInt8)]:ByteArray },qty:=(7:Int):Entry }],gone:={ vec:=[(1:Int)],cloud:=[]:Past },recs:=[{ sku:={ data:=#[(65:UInt8)]:ByteArray },past:={ vec:=[(2:Int)],cloud:=[]:Past }:Record }]:Facts } { adds:=[{ dot:={ rep:=(1:Int),num:=(1:Int):Dot },sku:={ dot:={ rep:=(1:Int),num:=(1:Int):Dot },sku:={ data:=#[(66:UInt8)]:ByteArray },qty:=(7:Int):Entry }.sku,qty:=(7:Int):Entry }],gone:={ vec:=[(1:Int),(1:Int)],cloud:=[]:Past },recs:=[{ sku:={ data:=#[(65:UInt8)]:ByteArray },past:={ vec:=[(2:Int)],cloud:=[]:Past }:Record }]:Facts }=true) (by simp only [eq_false h1,tsl]) z0)) ?_
 exact⟨rfl,by kernel_rfl⟩
 refine A5 (¬(B9 { adds:=[{ dot:={ rep:=(0:Int),num:=(1:Int):Dot },sku:={ data:=#[(65:UInt8)]:ByteArray },qty:=(5:Int):Entry },{ dot:={ rep:=(1:Int),num:=(1:Int):Dot },sku:={ data:=#[(66:UInt8)]:ByteArray },qty:=(7:Int):Entry }],gone:={ vec:=[(1:Int)],cloud:=[]:Past },recs:=[{ sku:={ data:=#[(65:UInt8)]:ByteArray },past:={ vec:=[(2:Int)],cloud:=[]:Past }:Record }]:Facts }).1={ adds:=[{ dot:={ rep:=(1:Int),num:=(1:Int):Dot },sku:={ dot:={ rep:=(1:Int),num:=(1:Int):Dot },sku:={ data:=#[(66:UInt8)]:ByteArray },qty:=(7:Int):Entry }.sku,qty:=(7:Int):Entry }],gone:={ vec:=[(1:Int),(1:Int)],cloud:=[]:Past },recs:=[{ sku:={ data:=#[(65:UInt8)]:ByteArray },past:={ vec:=[(2:Int)],cloud:=[]:Past }:Record }]:Facts }) (fun h2=>?_) (fun h2=>?_)
 refine rg (A:=(AV.b ((B9 { adds:=[{ dot:={ rep:=(0:Int),num:=(1:Int):Dot },sku:={ data:=#[(65:UInt8)]:ByteArray },qty:=(5:Int):Entry },{ dot:={ rep:=(1:Int),num:=(1:Int):Dot },sku:={ data:=#[(66:UInt8)]:ByteArray },qty:=(7:Int):Entry }],gone:={ vec:=[(1:Int)],cloud:=[]:Past },recs:=[{ sku:={ data:=#[(65:UInt8)]:ByteArray },past:={ vec:=[(2:Int)],cloud:=[]:Past }:Record }]:Facts }).2 !=0)=AV.b (decide ¬(B9 { adds:=[{ dot:={ rep:=(0:Int),num:=(1:Int):Dot },sku:={ data:=#[(65:UInt8)]:ByteArray },qty:=(5:Int):Entry },{ dot:={ rep:=(1:Int),num:=(1:Int):Dot },sku:={ data:=#[(66:UInt8)]:ByteArray },qty:=(7:Int):Entry }],gone:={ vec:=[(1:Int)],cloud:=[]:Past },recs:=[{ sku:={ data:=#[(65:UInt8)]:ByteArray },past:={ vec:=[(2:Int)],cloud:=[]:Past }:Record }]:Facts }).2=0))∧_∧_∧(Con Tryz.prog (58:Nat) [AV.agg [AV.sl (List.map c46 (B9 { adds:=[{ dot:={ rep:=(0:Int),num:=(1:Int):Dot },sku:={ data:=#[(65:UInt8)]:ByteArray },qty:=(5:Int):Entry },{ dot:={ rep:=(1:Int),num:=(1:Int):Dot },sku:={ data:=#[(66:UInt8)]:ByteArray },qty:=(7:Int):Entry }],gone:={ vec:=[(1:Int)],cloud:=[]:Past },recs:=[{ sku:={ data:=#[(65:UInt8)]:ByteArray },past:={ vec:=[(2:Int)],cloud:=[]:Past }:Record }]:Facts }).1.adds),AV.sl (List.map c3 (B9 { adds:=[{ dot:={ rep:=(0:Int),num:=(1:Int):Dot },sku:={ data:=#[(65:UInt8)]:ByteArray },qty:=(5:Int):Entry },{ dot:={ rep:=(1:Int),num:=(1:Int):Dot },sku:={ data:=#[(66:UInt8)]:ByteArray },qty:=(7:Int):Entry }],gone:={ vec:=[(1:Int)],cloud:=[]:Past },recs:=[{ sku:={ data:=#[(65:UInt8)]:ByteArray },past:={ vec:=[(2:Int)],cloud:=[]:Past }:Record }]:Facts }).1.gone.vec),AV.sl (List.map A9 (B9 { adds:=[{ dot:={ rep:=(0:Int),num:=(1:Int):Dot },sku:={ data:=#[(65:UInt8)]:ByteArray },qty:=(5:Int):Entry },{ dot:={ rep:=(1:Int),num:=(1:Int):Dot },sku:={ data:=#[(66:UInt8)]:ByteArray },qty:=(7:Int):Entry }],gone:={ vec:=[(1:Int)],cloud:=[]:Past },recs:=[{ sku:={ data:=#[(65:UInt8)]:ByteArray },past:={ vec:=[(2:Int)],cloud:=[]:Past }:Record }]:Facts }).1.gone.cloud),AV.sl (List.map c54 (B9 { adds:=[{ dot:={ rep:=(0:Int),num:=(1:Int):Dot },sku:={ data:=#[(65:UInt8)]:ByteArray },qty:=(5:Int):Entry },{ dot:={ rep:=(1:Int),num:=(1:Int):Dot },sku:={ data:=#[(66:UInt8)]:ByteArray },qty:=(7:Int):Entry }],gone:={ vec:=[(1:Int)],cloud:=[]:Past },recs:=[{ sku:={ data:=#[(65:UInt8)]:ByteArray },past:={ vec:=[(2:Int)],cloud:=[]:Past }:Record }]:Facts }).1.recs)],AV.agg [AV.sl [[AV.i .i64 (1:Int),AV.i .i64 (1:Int),AV.s { dot:={ rep:=(1:Int),num:=(1:Int):Dot },sku:={ data:=#[(66:UInt8)]:ByteArray },qty:=(7:Int):Entry }.sku,AV.i .i64 (7:Int)]],AV.sl (List.map c3 [(1:Int),(1:Int)]),AV.nl,AV.sl [[AV.s { data:=#[(65:UInt8)]:ByteArray },AV.sl (List.map c3 [(2:Int)]),AV.nl]]]] (AV.b (decide ((B9 { adds:=[{ dot:={ rep:=(0:Int),num:=(1:Int):Dot },sku:={ data:=#[(65:UInt8)]:ByteArray },qty:=(5:Int):Entry },{ dot:={ rep:=(1:Int),num:=(1:Int):Dot },sku:={ data:=#[(66:UInt8)]:ByteArray },qty:=(7:Int):Entry }],gone:={ vec:=[(1:Int)],cloud:=[]:Past },recs:=[{ sku:={ data:=#[(65:UInt8)]:ByteArray },past:={ vec:=[(2:Int)],cloud:=[]:Past }:Record }]:Facts }).1={ adds:=[{ dot:={ rep:=(1:Int),num:=(1:Int):Dot },sku:={ dot:={ rep:=(1:Int),num:=(1:Int):Dot },sku:={ data:=#[(66:UInt8)]:ByteArray },qty:=(7:Int):Entry }.sku,qty:=(7:Int):Entry }],gone:={ vec:=[(1:Int),(1:Int)],cloud:=[]:Past },recs:=[{ sku:={ data:=#[(65:UInt8)]:ByteArray },past:={ vec:=[(2:Int)],cloud:=[]:Past }:Record }]:Facts }))))∧(AV.b true=AV.b (decide (¬(B9 { adds:=[{ dot:={ rep:=(0:Int),num:=(1:Int):Dot },sku:={ data:=#[(65:UInt8)]:ByteArray },qty:=(5:Int):Entry },{ dot:={ rep:=(1:Int),num:=(1:Int):Dot },sku:={ data:=#[(66:UInt8)]:ByteArray },qty:=(7:Int):Entry }],gone:={ vec:=[(1:Int)],cloud:=[]:Past },recs:=[{ sku:={ data:=#[(65:UInt8)]:ByteArray },past:={ vec:=[(2:Int)],cloud:=[]:Past }:Record }]:Facts }).2=0∨¬(B9 { adds:=[{ dot:={ rep:=(0:Int),num:=(1:Int):Dot },sku:={ data:=#[(65:UInt8)]:ByteArray },qty:=(5:Int):Entry },{ dot:={ rep:=(1:Int),num:=(1:Int):Dot },sku:={ data:=#[(66:UInt8)]:ByteArray },qty:=(7:Int):Entry }],gone:={ vec:=[(1:Int)],cloud:=[]:Past },recs:=[{ sku:={ data:=#[(65:UInt8)]:ByteArray },past:={ vec:=[(2:Int)],cloud:=[]:Past }:Record }]:Facts }).1={ adds:=[{ dot:={ rep:=(1:Int),num:=(1:Int):Dot },sku:={ dot:={ rep:=(1:Int),num:=(1:Int):Dot },sku:={ data:=#[(66:UInt8)]:ByteArray },qty:=(7:Int):Entry }.sku,qty:=(7:Int):Entry }],gone:={ vec:=[(1:Int),(1:Int)],cloud:=[]:Past },recs:=[{ sku:={ data:=#[(65:UInt8)]:ByteArray },past:={ vec:=[(2:Int)],cloud:=[]:Past }:Record }]:Facts }∨¬A2p { adds:=[{ dot:={ rep:=(0:Int),num:=(1:Int):Dot },sku:={ data:=#[(65:UInt8)]:ByteArray },qty:=(5:Int):Entry },{ dot:={ rep:=(1:Int),num:=(1:Int):Dot },sku:={ data:=#[(66:UInt8)]:ByteArray },qty:=(7:Int):Entry }],gone:={ vec:=[(1:Int)],cloud:=[]:Past },recs:=[{ sku:={ data:=#[(65:UInt8)]:ByteArray },past:={ vec:=[(2:Int)],cloud:=[]:Past }:Record }]:Facts } { adds:=[{ dot:={ rep:=(1:Int),num:=(1:Int):Dot },sku:={ dot:={ rep:=(1:Int),num:=(1:Int):Dot },sku:={ data:=#[(66:UInt8)]:ByteArray },qty:=(7:Int):Entry }.sku,qty:=(7:Int):Entry }],gone:={ vec:=[(1:Int),(1:Int)],cloud:=[]:Past },recs:=[{ sku:={ data:=#[(65:UInt8)]:ByteArray },past:={ vec:=[(2:Int)],cloud:=[]:Past }:Record }]:Facts }=true)))) cx [(1,{ tell:=some (.b (decide ¬(B9 { adds:=[{ dot:={ rep:=(0:Int),num:=(1:Int):Dot },sku:={ data:=#[(65:UInt8)]:ByteArray },qty:=(5:Int):Entry },{ dot:={ rep:=(1:Int),num:=(1:Int):Dot },sku:={ data:=#[(66:UInt8)]:ByteArray },qty:=(7:Int):Entry }],gone:={ vec:=[(1:Int)],cloud:=[]:Past },recs:=[{ sku:={ data:=#[(65:UInt8)]:ByteArray },past:={ vec:=[(2:Int)],cloud:=[]:Past }:Record }]:Facts }).2=0)) }),(2,{ tell:=some (.b (false)) }),(5,{ val:=some (.b (decide ((B9 { adds:=[{ dot:={ rep:=(0:Int),num:=(1:Int):Dot },sku:={ data:=#[(65:UInt8)]:ByteArray },qty:=(5:Int):Entry },{ dot:={ rep:=(1:Int),num:=(1:Int):Dot },sku:={ data:=#[(66:UInt8)]:ByteArray },qty:=(7:Int):Entry }],gone:={ vec:=[(1:Int)],cloud:=[]:Past },recs:=[{ sku:={ data:=#[(65:UInt8)]:ByteArray },past:={ vec:=[(2:Int)],cloud:=[]:Past }:Record }]:Facts }).1={ adds:=[{ dot:={ rep:=(1:Int),num:=(1:Int):Dot },sku:={ dot:={ rep:=(1:Int),num:=(1:Int):Dot },sku:={ data:=#[(66:UInt8)]:ByteArray },qty:=(7:Int):Entry }.sku,qty:=(7:Int):Entry }],gone:={ vec:=[(1:Int),(1:Int)],cloud:=[]:Past },recs:=[{ sku:={ data:=#[(65:UInt8)]:ByteArray },past:={ vec:=[(2:Int)],cloud:=[]:Past }:Record }]:Facts }))),tell:=some (.b (false)) }),(13,{ tell:=some (.b (decide (¬(B9 { adds:=[{ dot:={ rep:=(0:Int),num:=(1:Int):Dot },sku:={ data:=#[(65:UInt8)]:ByteArray },qty:=(5:Int):Entry },{ dot:={ rep:=(1:Int),num:=(1:Int):Dot },sku:={ data:=#[(66:UInt8)]:ByteArray },qty:=(7:Int):Entry }],gone:={ vec:=[(1:Int)],cloud:=[]:Past },recs:=[{ sku:={ data:=#[(65:UInt8)]:ByteArray },past:={ vec:=[(2:Int)],cloud:=[]:Past }:Record }]:Facts }).2=0∨¬(B9 { adds:=[{ dot:={ rep:=(0:Int),num:=(1:Int):Dot },sku:={ data:=#[(65:UInt8)]:ByteArray },qty:=(5:Int):Entry },{ dot:={ rep:=(1:Int),num:=(1:Int):Dot },sku:={ data:=#[(66:UInt8)]:ByteArray },qty:=(7:Int):Entry }],gone:={ vec:=[(1:Int)],cloud:=[]:Past },recs:=[{ sku:={ data:=#[(65:UInt8)]:ByteArray },past:={ vec:=[(2:Int)],cloud:=[]:Past }:Record }]:Facts }).1={ adds:=[{ dot:={ rep:=(1:Int),num:=(1:Int):Dot },sku:={ dot:={ rep:=(1:Int),num:=(1:Int):Dot },sku:={ data:=#[(66:UInt8)]:ByteArray },qty:=(7:Int):Entry }.sku,qty:=(7:Int):Entry }],gone:={ vec:=[(1:Int),(1:Int)],cloud:=[]:Past },recs:=[{ sku:={ data:=#[(65:UInt8)]:ByteArray },past:={ vec:=[(2:Int)],cloud:=[]:Past }:Record }]:Facts }∨¬A2p { adds:=[{ dot:={ rep:=(0:Int),num:=(1:Int):Dot },sku:={ data:=#[(65:UInt8)]:ByteArray },qty:=(5:Int):Entry },{ dot:={ rep:=(1:Int),num:=(1:Int):Dot },sku:={ data:=#[(66:UInt8)]:ByteArray },qty:=(7:Int):Entry }],gone:={ vec:=[(1:Int)],cloud:=[]:Past },recs:=[{ sku:={ data:=#[(65:UInt8)]:ByteArray },past:={ vec:=[(2:Int)],cloud:=[]:Past }:Record }]:Facts } { adds:=[{ dot:={ rep:=(1:Int),num:=(1:Int):Dot },sku:={ dot:={ rep:=(1:Int),num:=(1:Int):Dot },sku:={ data:=#[(66:UInt8)]:ByteArray },qty:=(7:Int):Entry }.sku,qty:=(7:Int):Entry }],gone:={ vec:=[(1:Int),(1:Int)],cloud:=[]:Past },recs:=[{ sku:={ data:=#[(65:UInt8)]:ByteArray },past:={ vec:=[(2:Int)],cloud:=[]:Past }:Record }]:Facts }=true))) })] [4,44] [4] ⟨(A2u),(A0 h1),(A0 h2),(by exact absurd c1 h2),(by first | (simp only [eq_false h1,eq_false h2,tsl];done) | simp_all)⟩ ?_
 exact⟨rfl,by kernel_rfl⟩
 refine rG cx [4,44] [4] (tN 1 ((B9 { adds:=[{ dot:={ rep:=(0:Int),num:=(1:Int):Dot },sku:={ data:=#[(65:UInt8)]:ByteArray },qty:=(5:Int):Entry },{ dot:={ rep:=(1:Int),num:=(1:Int):Dot },sku:={ data:=#[(66:UInt8)]:ByteArray },qty:=(7:Int):Entry }],gone:={ vec:=[(1:Int)],cloud:=[]:Past },recs:=[{ sku:={ data:=#[(65:UInt8)]:ByteArray },past:={ vec:=[(2:Int)],cloud:=[]:Past }:Record }]:Facts }).2) (0:Int) (tT 2 (A0 h1) (fP (Con Tryz.prog (58:Nat) [AV.agg [AV.sl (List.map c46 (B9 { adds:=[{ dot:={ rep:=(0:Int),num:=(1:Int):Dot },sku:={ data:=#[(65:UInt8)]:ByteArray },qty:=(5:Int):Entry },{ dot:={ rep:=(1:Int),num:=(1:Int):Dot },sku:={ data:=#[(66:UInt8)]:ByteArray },qty:=(7:Int):Entry }],gone:={ vec:=[(1:Int)],cloud:=[]:Past },recs:=[{ sku:={ data:=#[(65:UInt8)]:ByteArray },past:={ vec:=[(2:Int)],cloud:=[]:Past }:Record }]:Facts }).1.adds),AV.sl (List.map c3 (B9 { adds:=[{ dot:={ rep:=(0:Int),num:=(1:Int):Dot },sku:={ data:=#[(65:UInt8)]:ByteArray },qty:=(5:Int):Entry },{ dot:={ rep:=(1:Int),num:=(1:Int):Dot },sku:={ data:=#[(66:UInt8)]:ByteArray },qty:=(7:Int):Entry }],gone:={ vec:=[(1:Int)],cloud:=[]:Past },recs:=[{ sku:={ data:=#[(65:UInt8)]:ByteArray },past:={ vec:=[(2:Int)],cloud:=[]:Past }:Record }]:Facts }).1.gone.vec),AV.sl (List.map A9 (B9 { adds:=[{ dot:={ rep:=(0:Int),num:=(1:Int):Dot },sku:={ data:=#[(65:UInt8)]:ByteArray },qty:=(5:Int):Entry },{ dot:={ rep:=(1:Int),num:=(1:Int):Dot },sku:={ data:=#[(66:UInt8)]:ByteArray },qty:=(7:Int):Entry }],gone:={ vec:=[(1:Int)],cloud:=[]:Past },recs:=[{ sku:={ data:=#[(65:UInt8)]:ByteArray },past:={ vec:=[(2:Int)],cloud:=[]:Past }:Record }]:Facts }).1.gone.cloud),AV.sl (List.map c54 (B9 { adds:=[{ dot:={ rep:=(0:Int),num:=(1:Int):Dot },sku:={ data:=#[(65:UInt8)]:ByteArray },qty:=(5:Int):Entry },{ dot:={ rep:=(1:Int),num:=(1:Int):Dot },sku:={ data:=#[(66:UInt8)]:ByteArray },qty:=(7:Int):Entry }],gone:={ vec:=[(1:Int)],cloud:=[]:Past },recs:=[{ sku:={ data:=#[(65:UInt8)]:ByteArray },past:={ vec:=[(2:Int)],cloud:=[]:Past }:Record }]:Facts }).1.recs)],AV.agg [AV.sl [[AV.i .i64 (1:Int),AV.i .i64 (1:Int),AV.s { dot:={ rep:=(1:Int),num:=(1:Int):Dot },sku:={ data:=#[(66:UInt8)]:ByteArray },qty:=(7:Int):Entry }.sku,AV.i .i64 (7:Int)]],AV.sl (List.map c3 [(1:Int),(1:Int)]),AV.nl,AV.sl [[AV.s { data:=#[(65:UInt8)]:ByteArray },AV.sl (List.map c3 [(2:Int)]),AV.nl]]]] (AV.b (decide ((B9 { adds:=[{ dot:={ rep:=(0:Int),num:=(1:Int):Dot },sku:={ data:=#[(65:UInt8)]:ByteArray },qty:=(5:Int):Entry },{ dot:={ rep:=(1:Int),num:=(1:Int):Dot },sku:={ data:=#[(66:UInt8)]:ByteArray },qty:=(7:Int):Entry }],gone:={ vec:=[(1:Int)],cloud:=[]:Past },recs:=[{ sku:={ data:=#[(65:UInt8)]:ByteArray },past:={ vec:=[(2:Int)],cloud:=[]:Past }:Record }]:Facts }).1={ adds:=[{ dot:={ rep:=(1:Int),num:=(1:Int):Dot },sku:={ dot:={ rep:=(1:Int),num:=(1:Int):Dot },sku:={ data:=#[(66:UInt8)]:ByteArray },qty:=(7:Int):Entry }.sku,qty:=(7:Int):Entry }],gone:={ vec:=[(1:Int),(1:Int)],cloud:=[]:Past },recs:=[{ sku:={ data:=#[(65:UInt8)]:ByteArray },past:={ vec:=[(2:Int)],cloud:=[]:Past }:Record }]:Facts })))) (by exact(Bf2 (B9 fxF).1 fxW (by rw[c1];exact B2v.1) (by rw[c1];decide)).le (ZLe.cons (B5.refl _) (ZLe.cons (B5.agg Bg0) ZLe.nil))) (tQ 6 ((B9 { adds:=[{ dot:={ rep:=(0:Int),num:=(1:Int):Dot },sku:={ data:=#[(65:UInt8)]:ByteArray },qty:=(5:Int):Entry },{ dot:={ rep:=(1:Int),num:=(1:Int):Dot },sku:={ data:=#[(66:UInt8)]:ByteArray },qty:=(7:Int):Entry }],gone:={ vec:=[(1:Int)],cloud:=[]:Past },recs:=[{ sku:={ data:=#[(65:UInt8)]:ByteArray },past:={ vec:=[(2:Int)],cloud:=[]:Past }:Record }]:Facts }).1={ adds:=[{ dot:={ rep:=(1:Int),num:=(1:Int):Dot },sku:={ dot:={ rep:=(1:Int),num:=(1:Int):Dot },sku:={ data:=#[(66:UInt8)]:ByteArray },qty:=(7:Int):Entry }.sku,qty:=(7:Int):Entry }],gone:={ vec:=[(1:Int),(1:Int)],cloud:=[]:Past },recs:=[{ sku:={ data:=#[(65:UInt8)]:ByteArray },past:={ vec:=[(2:Int)],cloud:=[]:Past }:Record }]:Facts }) (tT 7 (A0 h2) (fP (Con Tryz.prog (62:Nat) [AV.agg [AV.sl (List.map c46 [{ dot:={ rep:=(0:Int),num:=(1:Int):Dot },sku:={ data:=#[(65:UInt8)]:ByteArray },qty:=(5:Int):Entry },{ dot:={ rep:=(1:Int),num:=(1:Int):Dot },sku:={ data:=#[(66:UInt8)]:ByteArray },qty:=(7:Int):Entry }]),AV.sl (List.map c3 [(1:Int)]),AV.nl,AV.sl [[AV.s { data:=#[(65:UInt8)]:ByteArray },AV.sl (List.map c3 [(2:Int)]),AV.nl]]],AV.agg [AV.sl [[AV.i .i64 (1:Int),AV.i .i64 (1:Int),AV.s { dot:={ rep:=(1:Int),num:=(1:Int):Dot },sku:={ data:=#[(66:UInt8)]:ByteArray },qty:=(7:Int):Entry }.sku,AV.i .i64 (7:Int)]],AV.sl (List.map c3 [(1:Int),(1:Int)]),AV.nl,AV.sl [[AV.s { data:=#[(65:UInt8)]:ByteArray },AV.sl (List.map c3 [(2:Int)]),AV.nl]]]] (AV.b (A2p { adds:=[{ dot:={ rep:=(0:Int),num:=(1:Int):Dot },sku:={ data:=#[(65:UInt8)]:ByteArray },qty:=(5:Int):Entry },{ dot:={ rep:=(1:Int),num:=(1:Int):Dot },sku:={ data:=#[(66:UInt8)]:ByteArray },qty:=(7:Int):Entry }],gone:={ vec:=[(1:Int)],cloud:=[]:Past },recs:=[{ sku:={ data:=#[(65:UInt8)]:ByteArray },past:={ vec:=[(2:Int)],cloud:=[]:Past }:Record }]:Facts } { adds:=[{ dot:={ rep:=(1:Int),num:=(1:Int):Dot },sku:={ dot:={ rep:=(1:Int),num:=(1:Int):Dot },sku:={ data:=#[(66:UInt8)]:ByteArray },qty:=(7:Int):Entry }.sku,qty:=(7:Int):Entry }],gone:={ vec:=[(1:Int),(1:Int)],cloud:=[]:Past },recs:=[{ sku:={ data:=#[(65:UInt8)]:ByteArray },past:={ vec:=[(2:Int)],cloud:=[]:Past }:Record }]:Facts }))) (by exact(Be6 fxF fxW B2u B2v).le (ZLe.cons (B5.agg fx_zF) (ZLe.cons (B5.agg Bg0) ZLe.nil))) (tT 12 (C3:(AV.b !A2p { adds:=[{ dot:={ rep:=(0:Int),num:=(1:Int):Dot },sku:={ data:=#[(65:UInt8)]:ByteArray },qty:=(5:Int):Entry },{ dot:={ rep:=(1:Int),num:=(1:Int):Dot },sku:={ data:=#[(66:UInt8)]:ByteArray },qty:=(7:Int):Entry }],gone:={ vec:=[(1:Int)],cloud:=[]:Past },recs:=[{ sku:={ data:=#[(65:UInt8)]:ByteArray },past:={ vec:=[(2:Int)],cloud:=[]:Past }:Record }]:Facts } { adds:=[{ dot:={ rep:=(1:Int),num:=(1:Int):Dot },sku:={ dot:={ rep:=(1:Int),num:=(1:Int):Dot },sku:={ data:=#[(66:UInt8)]:ByteArray },qty:=(7:Int):Entry }.sku,qty:=(7:Int):Entry }],gone:={ vec:=[(1:Int),(1:Int)],cloud:=[]:Past },recs:=[{ sku:={ data:=#[(65:UInt8)]:ByteArray },past:={ vec:=[(2:Int)],cloud:=[]:Past }:Record }]:Facts })=AV.b (decide ¬A2p { adds:=[{ dot:={ rep:=(0:Int),num:=(1:Int):Dot },sku:={ data:=#[(65:UInt8)]:ByteArray },qty:=(5:Int):Entry },{ dot:={ rep:=(1:Int),num:=(1:Int):Dot },sku:={ data:=#[(66:UInt8)]:ByteArray },qty:=(7:Int):Entry }],gone:={ vec:=[(1:Int)],cloud:=[]:Past },recs:=[{ sku:={ data:=#[(65:UInt8)]:ByteArray },past:={ vec:=[(2:Int)],cloud:=[]:Past }:Record }]:Facts } { adds:=[{ dot:={ rep:=(1:Int),num:=(1:Int):Dot },sku:={ dot:={ rep:=(1:Int),num:=(1:Int):Dot },sku:={ data:=#[(66:UInt8)]:ByteArray },qty:=(7:Int):Entry }.sku,qty:=(7:Int):Entry }],gone:={ vec:=[(1:Int),(1:Int)],cloud:=[]:Past },recs:=[{ sku:={ data:=#[(65:UInt8)]:ByteArray },past:={ vec:=[(2:Int)],cloud:=[]:Past }:Record }]:Facts }=true)) (tT 13 (by first | (simp only [eq_false h1,eq_false h2,tsl];done) | simp_all:AV.b (decide ¬A2p { adds:=[{ dot:={ rep:=(0:Int),num:=(1:Int):Dot },sku:={ data:=#[(65:UInt8)]:ByteArray },qty:=(5:Int):Entry },{ dot:={ rep:=(1:Int),num:=(1:Int):Dot },sku:={ data:=#[(66:UInt8)]:ByteArray },qty:=(7:Int):Entry }],gone:={ vec:=[(1:Int)],cloud:=[]:Past },recs:=[{ sku:={ data:=#[(65:UInt8)]:ByteArray },past:={ vec:=[(2:Int)],cloud:=[]:Past }:Record }]:Facts } { adds:=[{ dot:={ rep:=(1:Int),num:=(1:Int):Dot },sku:={ dot:={ rep:=(1:Int),num:=(1:Int):Dot },sku:={ data:=#[(66:UInt8)]:ByteArray },qty:=(7:Int):Entry }.sku,qty:=(7:Int):Entry }],gone:={ vec:=[(1:Int),(1:Int)],cloud:=[]:Past },recs:=[{ sku:={ data:=#[(65:UInt8)]:ByteArray },past:={ vec:=[(2:Int)],cloud:=[]:Past }:Record }]:Facts }=true)=AV.b (decide (¬(B9 { adds:=[{ dot:={ rep:=(0:Int),num:=(1:Int):Dot },sku:={ data:=#[(65:UInt8)]:ByteArray },qty:=(5:Int):Entry },{ dot:={ rep:=(1:Int),num:=(1:Int):Dot },sku:={ data:=#[(66:UInt8)]:ByteArray },qty:=(7:Int):Entry }],gone:={ vec:=[(1:Int)],cloud:=[]:Past },recs:=[{ sku:={ data:=#[(65:UInt8)]:ByteArray },past:={ vec:=[(2:Int)],cloud:=[]:Past }:Record }]:Facts }).2=0∨¬(B9 { adds:=[{ dot:={ rep:=(0:Int),num:=(1:Int):Dot },sku:={ data:=#[(65:UInt8)]:ByteArray },qty:=(5:Int):Entry },{ dot:={ rep:=(1:Int),num:=(1:Int):Dot },sku:={ data:=#[(66:UInt8)]:ByteArray },qty:=(7:Int):Entry }],gone:={ vec:=[(1:Int)],cloud:=[]:Past },recs:=[{ sku:={ data:=#[(65:UInt8)]:ByteArray },past:={ vec:=[(2:Int)],cloud:=[]:Past }:Record }]:Facts }).1={ adds:=[{ dot:={ rep:=(1:Int),num:=(1:Int):Dot },sku:={ dot:={ rep:=(1:Int),num:=(1:Int):Dot },sku:={ data:=#[(66:UInt8)]:ByteArray },qty:=(7:Int):Entry }.sku,qty:=(7:Int):Entry }],gone:={ vec:=[(1:Int),(1:Int)],cloud:=[]:Past },recs:=[{ sku:={ data:=#[(65:UInt8)]:ByteArray },past:={ vec:=[(2:Int)],cloud:=[]:Past }:Record }]:Facts }∨¬A2p { adds:=[{ dot:={ rep:=(0:Int),num:=(1:Int):Dot },sku:={ data:=#[(65:UInt8)]:ByteArray },qty:=(5:Int):Entry },{ dot:={ rep:=(1:Int),num:=(1:Int):Dot },sku:={ data:=#[(66:UInt8)]:ByteArray },qty:=(7:Int):Entry }],gone:={ vec:=[(1:Int)],cloud:=[]:Past },recs:=[{ sku:={ data:=#[(65:UInt8)]:ByteArray },past:={ vec:=[(2:Int)],cloud:=[]:Past }:Record }]:Facts } { adds:=[{ dot:={ rep:=(1:Int),num:=(1:Int):Dot },sku:={ dot:={ rep:=(1:Int),num:=(1:Int):Dot },sku:={ data:=#[(66:UInt8)]:ByteArray },qty:=(7:Int):Entry }.sku,qty:=(7:Int):Entry }],gone:={ vec:=[(1:Int),(1:Int)],cloud:=[]:Past },recs:=[{ sku:={ data:=#[(65:UInt8)]:ByteArray },past:={ vec:=[(2:Int)],cloud:=[]:Past }:Record }]:Facts }=true))) (oA 5 (.b (decide ((B9 { adds:=[{ dot:={ rep:=(0:Int),num:=(1:Int):Dot },sku:={ data:=#[(65:UInt8)]:ByteArray },qty:=(5:Int):Entry },{ dot:={ rep:=(1:Int),num:=(1:Int):Dot },sku:={ data:=#[(66:UInt8)]:ByteArray },qty:=(7:Int):Entry }],gone:={ vec:=[(1:Int)],cloud:=[]:Past },recs:=[{ sku:={ data:=#[(65:UInt8)]:ByteArray },past:={ vec:=[(2:Int)],cloud:=[]:Past }:Record }]:Facts }).1={ adds:=[{ dot:={ rep:=(1:Int),num:=(1:Int):Dot },sku:={ dot:={ rep:=(1:Int),num:=(1:Int):Dot },sku:={ data:=#[(66:UInt8)]:ByteArray },qty:=(7:Int):Entry }.sku,qty:=(7:Int):Entry }],gone:={ vec:=[(1:Int),(1:Int)],cloud:=[]:Past },recs:=[{ sku:={ data:=#[(65:UInt8)]:ByteArray },past:={ vec:=[(2:Int)],cloud:=[]:Past }:Record }]:Facts }))) (oA 11 (.b (A2p { adds:=[{ dot:={ rep:=(0:Int),num:=(1:Int):Dot },sku:={ data:=#[(65:UInt8)]:ByteArray },qty:=(5:Int):Entry },{ dot:={ rep:=(1:Int),num:=(1:Int):Dot },sku:={ data:=#[(66:UInt8)]:ByteArray },qty:=(7:Int):Entry }],gone:={ vec:=[(1:Int)],cloud:=[]:Past },recs:=[{ sku:={ data:=#[(65:UInt8)]:ByteArray },past:={ vec:=[(2:Int)],cloud:=[]:Past }:Record }]:Facts } { adds:=[{ dot:={ rep:=(1:Int),num:=(1:Int):Dot },sku:={ dot:={ rep:=(1:Int),num:=(1:Int):Dot },sku:={ data:=#[(66:UInt8)]:ByteArray },qty:=(7:Int):Entry }.sku,qty:=(7:Int):Entry }],gone:={ vec:=[(1:Int),(1:Int)],cloud:=[]:Past },recs:=[{ sku:={ data:=#[(65:UInt8)]:ByteArray },past:={ vec:=[(2:Int)],cloud:=[]:Past }:Record }]:Facts })) z0)))))))))) ?_
 exact⟨rfl,by kernel_rfl⟩
 refine sn<|dC (¬(B9 { adds:=[{ dot:={ rep:=(0:Int),num:=(1:Int):Dot },sku:={ data:=#[(65:UInt8)]:ByteArray },qty:=(5:Int):Entry },{ dot:={ rep:=(1:Int),num:=(1:Int):Dot },sku:={ data:=#[(66:UInt8)]:ByteArray },qty:=(7:Int):Entry }],gone:={ vec:=[(1:Int)],cloud:=[]:Past },recs:=[{ sku:={ data:=#[(65:UInt8)]:ByteArray },past:={ vec:=[(2:Int)],cloud:=[]:Past }:Record }]:Facts }).2=0∨¬(B9 { adds:=[{ dot:={ rep:=(0:Int),num:=(1:Int):Dot },sku:={ data:=#[(65:UInt8)]:ByteArray },qty:=(5:Int):Entry },{ dot:={ rep:=(1:Int),num:=(1:Int):Dot },sku:={ data:=#[(66:UInt8)]:ByteArray },qty:=(7:Int):Entry }],gone:={ vec:=[(1:Int)],cloud:=[]:Past },recs:=[{ sku:={ data:=#[(65:UInt8)]:ByteArray },past:={ vec:=[(2:Int)],cloud:=[]:Past }:Record }]:Facts }).1={ adds:=[{ dot:={ rep:=(1:Int),num:=(1:Int):Dot },sku:={ dot:={ rep:=(1:Int),num:=(1:Int):Dot },sku:={ data:=#[(66:UInt8)]:ByteArray },qty:=(7:Int):Entry }.sku,qty:=(7:Int):Entry }],gone:={ vec:=[(1:Int),(1:Int)],cloud:=[]:Past },recs:=[{ sku:={ data:=#[(65:UInt8)]:ByteArray },past:={ vec:=[(2:Int)],cloud:=[]:Past }:Record }]:Facts }∨¬A2p { adds:=[{ dot:={ rep:=(0:Int),num:=(1:Int):Dot },sku:={ data:=#[(65:UInt8)]:ByteArray },qty:=(5:Int):Entry },{ dot:={ rep:=(1:Int),num:=(1:Int):Dot },sku:={ data:=#[(66:UInt8)]:ByteArray },qty:=(7:Int):Entry }],gone:={ vec:=[(1:Int)],cloud:=[]:Past },recs:=[{ sku:={ data:=#[(65:UInt8)]:ByteArray },past:={ vec:=[(2:Int)],cloud:=[]:Past }:Record }]:Facts } { adds:=[{ dot:={ rep:=(1:Int),num:=(1:Int):Dot },sku:={ dot:={ rep:=(1:Int),num:=(1:Int):Dot },sku:={ data:=#[(66:UInt8)]:ByteArray },qty:=(7:Int):Entry }.sku,qty:=(7:Int):Entry }],gone:={ vec:=[(1:Int),(1:Int)],cloud:=[]:Past },recs:=[{ sku:={ data:=#[(65:UInt8)]:ByteArray },past:={ vec:=[(2:Int)],cloud:=[]:Past }:Record }]:Facts }=true) (fun h3=>?_) fun h3=>?_
 refine sq<|rG cx [0] [] z0<|sn<|rT<|nR<|qR (.b (false)) (.eq ?g6);rotate_left
 refine sK<|sn<|sq<|rG cx [5,3] [5] (fP (Con Tryz.prog (64:Nat) [AV.agg [AV.sl [[AV.i .i64 (1:Int),AV.i .i64 (1:Int),AV.s { dot:={ rep:=(1:Int),num:=(1:Int):Dot },sku:={ data:=#[(66:UInt8)]:ByteArray },qty:=(7:Int):Entry }.sku,AV.i .i64 (7:Int)]],AV.sl (List.map c3 [(1:Int),(1:Int)]),AV.nl,AV.sl [[AV.s { data:=#[(65:UInt8)]:ByteArray },AV.sl (List.map c3 [(2:Int)]),AV.nl]]]] (AV.tup [AV.agg [AV.sl (List.map c46 (E7 { adds:=[{ dot:={ rep:=(1:Int),num:=(1:Int):Dot },sku:={ dot:={ rep:=(1:Int),num:=(1:Int):Dot },sku:={ data:=#[(66:UInt8)]:ByteArray },qty:=(7:Int):Entry }.sku,qty:=(7:Int):Entry }],gone:={ vec:=[(1:Int),(1:Int)],cloud:=[]:Past },recs:=[{ sku:={ data:=#[(65:UInt8)]:ByteArray },past:={ vec:=[(2:Int)],cloud:=[]:Past }:Record }]:Facts }).1.adds),AV.sl (List.map c3 (E7 { adds:=[{ dot:={ rep:=(1:Int),num:=(1:Int):Dot },sku:={ dot:={ rep:=(1:Int),num:=(1:Int):Dot },sku:={ data:=#[(66:UInt8)]:ByteArray },qty:=(7:Int):Entry }.sku,qty:=(7:Int):Entry }],gone:={ vec:=[(1:Int),(1:Int)],cloud:=[]:Past },recs:=[{ sku:={ data:=#[(65:UInt8)]:ByteArray },past:={ vec:=[(2:Int)],cloud:=[]:Past }:Record }]:Facts }).1.gone.vec),AV.sl (List.map A9 (E7 { adds:=[{ dot:={ rep:=(1:Int),num:=(1:Int):Dot },sku:={ dot:={ rep:=(1:Int),num:=(1:Int):Dot },sku:={ data:=#[(66:UInt8)]:ByteArray },qty:=(7:Int):Entry }.sku,qty:=(7:Int):Entry }],gone:={ vec:=[(1:Int),(1:Int)],cloud:=[]:Past },recs:=[{ sku:={ data:=#[(65:UInt8)]:ByteArray },past:={ vec:=[(2:Int)],cloud:=[]:Past }:Record }]:Facts }).1.gone.cloud),AV.sl (List.map c54 (E7 { adds:=[{ dot:={ rep:=(1:Int),num:=(1:Int):Dot },sku:={ dot:={ rep:=(1:Int),num:=(1:Int):Dot },sku:={ data:=#[(66:UInt8)]:ByteArray },qty:=(7:Int):Entry }.sku,qty:=(7:Int):Entry }],gone:={ vec:=[(1:Int),(1:Int)],cloud:=[]:Past },recs:=[{ sku:={ data:=#[(65:UInt8)]:ByteArray },past:={ vec:=[(2:Int)],cloud:=[]:Past }:Record }]:Facts }).1.recs)],AV.i .i64 (E7 { adds:=[{ dot:={ rep:=(1:Int),num:=(1:Int):Dot },sku:={ dot:={ rep:=(1:Int),num:=(1:Int):Dot },sku:={ data:=#[(66:UInt8)]:ByteArray },qty:=(7:Int):Entry }.sku,qty:=(7:Int):Entry }],gone:={ vec:=[(1:Int),(1:Int)],cloud:=[]:Past },recs:=[{ sku:={ data:=#[(65:UInt8)]:ByteArray },past:={ vec:=[(2:Int)],cloud:=[]:Past }:Record }]:Facts }).2])) (by exact(Be4 fxW B2v).le (ZLe.cons (B5.agg Bg0) ZLe.nil)) (oA 1 (.tup [.agg [.sl (List.map c46 (E7 { adds:=[{ dot:={ rep:=(1:Int),num:=(1:Int):Dot },sku:={ dot:={ rep:=(1:Int),num:=(1:Int):Dot },sku:={ data:=#[(66:UInt8)]:ByteArray },qty:=(7:Int):Entry }.sku,qty:=(7:Int):Entry }],gone:={ vec:=[(1:Int),(1:Int)],cloud:=[]:Past },recs:=[{ sku:={ data:=#[(65:UInt8)]:ByteArray },past:={ vec:=[(2:Int)],cloud:=[]:Past }:Record }]:Facts }).1.adds),.sl (List.map c3 (E7 { adds:=[{ dot:={ rep:=(1:Int),num:=(1:Int):Dot },sku:={ dot:={ rep:=(1:Int),num:=(1:Int):Dot },sku:={ data:=#[(66:UInt8)]:ByteArray },qty:=(7:Int):Entry }.sku,qty:=(7:Int):Entry }],gone:={ vec:=[(1:Int),(1:Int)],cloud:=[]:Past },recs:=[{ sku:={ data:=#[(65:UInt8)]:ByteArray },past:={ vec:=[(2:Int)],cloud:=[]:Past }:Record }]:Facts }).1.gone.vec),.sl (List.map A9 (E7 { adds:=[{ dot:={ rep:=(1:Int),num:=(1:Int):Dot },sku:={ dot:={ rep:=(1:Int),num:=(1:Int):Dot },sku:={ data:=#[(66:UInt8)]:ByteArray },qty:=(7:Int):Entry }.sku,qty:=(7:Int):Entry }],gone:={ vec:=[(1:Int),(1:Int)],cloud:=[]:Past },recs:=[{ sku:={ data:=#[(65:UInt8)]:ByteArray },past:={ vec:=[(2:Int)],cloud:=[]:Past }:Record }]:Facts }).1.gone.cloud),.sl (List.map c54 (E7 { adds:=[{ dot:={ rep:=(1:Int),num:=(1:Int):Dot },sku:={ dot:={ rep:=(1:Int),num:=(1:Int):Dot },sku:={ data:=#[(66:UInt8)]:ByteArray },qty:=(7:Int):Entry }.sku,qty:=(7:Int):Entry }],gone:={ vec:=[(1:Int),(1:Int)],cloud:=[]:Past },recs:=[{ sku:={ data:=#[(65:UInt8)]:ByteArray },past:={ vec:=[(2:Int)],cloud:=[]:Past }:Record }]:Facts }).1.recs)],.i .i64 ((E7 { adds:=[{ dot:={ rep:=(1:Int),num:=(1:Int):Dot },sku:={ dot:={ rep:=(1:Int),num:=(1:Int):Dot },sku:={ data:=#[(66:UInt8)]:ByteArray },qty:=(7:Int):Entry }.sku,qty:=(7:Int):Entry }],gone:={ vec:=[(1:Int),(1:Int)],cloud:=[]:Past },recs:=[{ sku:={ data:=#[(65:UInt8)]:ByteArray },past:={ vec:=[(2:Int)],cloud:=[]:Past }:Record }]:Facts }).2)]) z0)) ?_
 refine sn<|sq<|B1 (σ':=⟨[(0,.b (decide ((E7 { adds:=[{ dot:={ rep:=(1:Int),num:=(1:Int):Dot },sku:={ dot:={ rep:=(1:Int),num:=(1:Int):Dot },sku:={ data:=#[(66:UInt8)]:ByteArray },qty:=(7:Int):Entry }.sku,qty:=(7:Int):Entry }],gone:={ vec:=[(1:Int),(1:Int)],cloud:=[]:Past },recs:=[{ sku:={ data:=#[(65:UInt8)]:ByteArray },past:={ vec:=[(2:Int)],cloud:=[]:Past }:Record }]:Facts }).2=0∧(↑(E7 { adds:=[{ dot:={ rep:=(1:Int),num:=(1:Int):Dot },sku:={ dot:={ rep:=(1:Int),num:=(1:Int):Dot },sku:={ data:=#[(66:UInt8)]:ByteArray },qty:=(7:Int):Entry }.sku,qty:=(7:Int):Entry }],gone:={ vec:=[(1:Int),(1:Int)],cloud:=[]:Past },recs:=[{ sku:={ data:=#[(65:UInt8)]:ByteArray },past:={ vec:=[(2:Int)],cloud:=[]:Past }:Record }]:Facts }).1.adds.length:Int)=1∧(E7 { adds:=[{ dot:={ rep:=(1:Int),num:=(1:Int):Dot },sku:={ dot:={ rep:=(1:Int),num:=(1:Int):Dot },sku:={ data:=#[(66:UInt8)]:ByteArray },qty:=(7:Int):Entry }.sku,qty:=(7:Int):Entry }],gone:={ vec:=[(1:Int),(1:Int)],cloud:=[]:Past },recs:=[{ sku:={ data:=#[(65:UInt8)]:ByteArray },past:={ vec:=[(2:Int)],cloud:=[]:Past }:Record }]:Facts }).1.gone={ vec:=[(1:Int)],cloud:=[]:Past })))],[]⟩) ?_ ?_
 refine A5 ((E7 { adds:=[{ dot:={ rep:=(1:Int),num:=(1:Int):Dot },sku:={ dot:={ rep:=(1:Int),num:=(1:Int):Dot },sku:={ data:=#[(66:UInt8)]:ByteArray },qty:=(7:Int):Entry }.sku,qty:=(7:Int):Entry }],gone:={ vec:=[(1:Int),(1:Int)],cloud:=[]:Past },recs:=[{ sku:={ data:=#[(65:UInt8)]:ByteArray },past:={ vec:=[(2:Int)],cloud:=[]:Past }:Record }]:Facts }).2=0) (fun h5=>?_) (fun h5=>?_)
 refine A5 ((↑(E7 { adds:=[{ dot:={ rep:=(1:Int),num:=(1:Int):Dot },sku:={ dot:={ rep:=(1:Int),num:=(1:Int):Dot },sku:={ data:=#[(66:UInt8)]:ByteArray },qty:=(7:Int):Entry }.sku,qty:=(7:Int):Entry }],gone:={ vec:=[(1:Int),(1:Int)],cloud:=[]:Past },recs:=[{ sku:={ data:=#[(65:UInt8)]:ByteArray },past:={ vec:=[(2:Int)],cloud:=[]:Past }:Record }]:Facts }).1.adds.length:Int)=1) (fun h6=>?_) (fun h6=>?_)
 refine rG cx [0] [] (tT 1 (A4 h5) (tL 5 c46 ((E7 { adds:=[{ dot:={ rep:=(1:Int),num:=(1:Int):Dot },sku:={ dot:={ rep:=(1:Int),num:=(1:Int):Dot },sku:={ data:=#[(66:UInt8)]:ByteArray },qty:=(7:Int):Entry }.sku,qty:=(7:Int):Entry }],gone:={ vec:=[(1:Int),(1:Int)],cloud:=[]:Past },recs:=[{ sku:={ data:=#[(65:UInt8)]:ByteArray },past:={ vec:=[(2:Int)],cloud:=[]:Past }:Record }]:Facts }).1.adds) (tT 6 (A4 h6) (fP (Con Tryz.prog (86:Nat) [AV.agg [AV.sl (List.map c3 (E7 { adds:=[{ dot:={ rep:=(1:Int),num:=(1:Int):Dot },sku:={ dot:={ rep:=(1:Int),num:=(1:Int):Dot },sku:={ data:=#[(66:UInt8)]:ByteArray },qty:=(7:Int):Entry }.sku,qty:=(7:Int):Entry }],gone:={ vec:=[(1:Int),(1:Int)],cloud:=[]:Past },recs:=[{ sku:={ data:=#[(65:UInt8)]:ByteArray },past:={ vec:=[(2:Int)],cloud:=[]:Past }:Record }]:Facts }).1.gone.vec),AV.sl (List.map A9 (E7 { adds:=[{ dot:={ rep:=(1:Int),num:=(1:Int):Dot },sku:={ dot:={ rep:=(1:Int),num:=(1:Int):Dot },sku:={ data:=#[(66:UInt8)]:ByteArray },qty:=(7:Int):Entry }.sku,qty:=(7:Int):Entry }],gone:={ vec:=[(1:Int),(1:Int)],cloud:=[]:Past },recs:=[{ sku:={ data:=#[(65:UInt8)]:ByteArray },past:={ vec:=[(2:Int)],cloud:=[]:Past }:Record }]:Facts }).1.gone.cloud)],AV.agg [AV.sl (List.map c3 [(1:Int)]),AV.nl]] (AV.b (decide ((E7 { adds:=[{ dot:={ rep:=(1:Int),num:=(1:Int):Dot },sku:={ dot:={ rep:=(1:Int),num:=(1:Int):Dot },sku:={ data:=#[(66:UInt8)]:ByteArray },qty:=(7:Int):Entry }.sku,qty:=(7:Int):Entry }],gone:={ vec:=[(1:Int),(1:Int)],cloud:=[]:Past },recs:=[{ sku:={ data:=#[(65:UInt8)]:ByteArray },past:={ vec:=[(2:Int)],cloud:=[]:Past }:Record }]:Facts }).1.gone={ vec:=[(1:Int)],cloud:=[]:Past })))) (Con.le (Ag2 ((E7 { adds:=[{ dot:={ rep:=(1:Int),num:=(1:Int):Dot },sku:={ dot:={ rep:=(1:Int),num:=(1:Int):Dot },sku:={ data:=#[(66:UInt8)]:ByteArray },qty:=(7:Int):Entry }.sku,qty:=(7:Int):Entry }],gone:={ vec:=[(1:Int),(1:Int)],cloud:=[]:Past },recs:=[{ sku:={ data:=#[(65:UInt8)]:ByteArray },past:={ vec:=[(2:Int)],cloud:=[]:Past }:Record }]:Facts }).1.gone) ({ vec:=[(1:Int)],cloud:=[]:Past }) (by show(E7 fxW).1.gone.vec.length≤_;rw[Ai3];decide) (by show(E7 fxW).1.gone.cloud.length≤_;rw[Ai3];decide)) (ZLe.cons (B5.refl _) (ZLe.cons (B5.agg (ZLe.cons (B5.refl _) (ZLe.cons B5.nl ZLe.nil))) ZLe.nil))) (tD 15 (decide ((E7 { adds:=[{ dot:={ rep:=(1:Int),num:=(1:Int):Dot },sku:={ dot:={ rep:=(1:Int),num:=(1:Int):Dot },sku:={ data:=#[(66:UInt8)]:ByteArray },qty:=(7:Int):Entry }.sku,qty:=(7:Int):Entry }],gone:={ vec:=[(1:Int),(1:Int)],cloud:=[]:Past },recs:=[{ sku:={ data:=#[(65:UInt8)]:ByteArray },past:={ vec:=[(2:Int)],cloud:=[]:Past }:Record }]:Facts }).1.gone={ vec:=[(1:Int)],cloud:=[]:Past })) ((E7 { adds:=[{ dot:={ rep:=(1:Int),num:=(1:Int):Dot },sku:={ dot:={ rep:=(1:Int),num:=(1:Int):Dot },sku:={ data:=#[(66:UInt8)]:ByteArray },qty:=(7:Int):Entry }.sku,qty:=(7:Int):Entry }],gone:={ vec:=[(1:Int),(1:Int)],cloud:=[]:Past },recs:=[{ sku:={ data:=#[(65:UInt8)]:ByteArray },past:={ vec:=[(2:Int)],cloud:=[]:Past }:Record }]:Facts }).2=0∧(↑(E7 { adds:=[{ dot:={ rep:=(1:Int),num:=(1:Int):Dot },sku:={ dot:={ rep:=(1:Int),num:=(1:Int):Dot },sku:={ data:=#[(66:UInt8)]:ByteArray },qty:=(7:Int):Entry }.sku,qty:=(7:Int):Entry }],gone:={ vec:=[(1:Int),(1:Int)],cloud:=[]:Past },recs:=[{ sku:={ data:=#[(65:UInt8)]:ByteArray },past:={ vec:=[(2:Int)],cloud:=[]:Past }:Record }]:Facts }).1.adds.length:Int)=1∧(E7 { adds:=[{ dot:={ rep:=(1:Int),num:=(1:Int):Dot },sku:={ dot:={ rep:=(1:Int),num:=(1:Int):Dot },sku:={ data:=#[(66:UInt8)]:ByteArray },qty:=(7:Int):Entry }.sku,qty:=(7:Int):Entry }],gone:={ vec:=[(1:Int),(1:Int)],cloud:=[]:Past },recs:=[{ sku:={ data:=#[(65:UInt8)]:ByteArray },past:={ vec:=[(2:Int)],cloud:=[]:Past }:Record }]:Facts }).1.gone={ vec:=[(1:Int)],cloud:=[]:Past }) (by simp only [eq_true h5,eq_true h6,tsl]) (oA 13 (.b (decide ((E7 { adds:=[{ dot:={ rep:=(1:Int),num:=(1:Int):Dot },sku:={ dot:={ rep:=(1:Int),num:=(1:Int):Dot },sku:={ data:=#[(66:UInt8)]:ByteArray },qty:=(7:Int):Entry }.sku,qty:=(7:Int):Entry }],gone:={ vec:=[(1:Int),(1:Int)],cloud:=[]:Past },recs:=[{ sku:={ data:=#[(65:UInt8)]:ByteArray },past:={ vec:=[(2:Int)],cloud:=[]:Past }:Record }]:Facts }).1.gone={ vec:=[(1:Int)],cloud:=[]:Past }))) z0)))))) ?_
 exact⟨rfl,by kernel_rfl⟩
 refine rG cx [0] [] (tT 1 (A4 h5) (tL 5 c46 ((E7 { adds:=[{ dot:={ rep:=(1:Int),num:=(1:Int):Dot },sku:={ dot:={ rep:=(1:Int),num:=(1:Int):Dot },sku:={ data:=#[(66:UInt8)]:ByteArray },qty:=(7:Int):Entry }.sku,qty:=(7:Int):Entry }],gone:={ vec:=[(1:Int),(1:Int)],cloud:=[]:Past },recs:=[{ sku:={ data:=#[(65:UInt8)]:ByteArray },past:={ vec:=[(2:Int)],cloud:=[]:Past }:Record }]:Facts }).1.adds) (tT 6 (A0 h6) (tD 15 false ((E7 { adds:=[{ dot:={ rep:=(1:Int),num:=(1:Int):Dot },sku:={ dot:={ rep:=(1:Int),num:=(1:Int):Dot },sku:={ data:=#[(66:UInt8)]:ByteArray },qty:=(7:Int):Entry }.sku,qty:=(7:Int):Entry }],gone:={ vec:=[(1:Int),(1:Int)],cloud:=[]:Past },recs:=[{ sku:={ data:=#[(65:UInt8)]:ByteArray },past:={ vec:=[(2:Int)],cloud:=[]:Past }:Record }]:Facts }).2=0∧(↑(E7 { adds:=[{ dot:={ rep:=(1:Int),num:=(1:Int):Dot },sku:={ dot:={ rep:=(1:Int),num:=(1:Int):Dot },sku:={ data:=#[(66:UInt8)]:ByteArray },qty:=(7:Int):Entry }.sku,qty:=(7:Int):Entry }],gone:={ vec:=[(1:Int),(1:Int)],cloud:=[]:Past },recs:=[{ sku:={ data:=#[(65:UInt8)]:ByteArray },past:={ vec:=[(2:Int)],cloud:=[]:Past }:Record }]:Facts }).1.adds.length:Int)=1∧(E7 { adds:=[{ dot:={ rep:=(1:Int),num:=(1:Int):Dot },sku:={ dot:={ rep:=(1:Int),num:=(1:Int):Dot },sku:={ data:=#[(66:UInt8)]:ByteArray },qty:=(7:Int):Entry }.sku,qty:=(7:Int):Entry }],gone:={ vec:=[(1:Int),(1:Int)],cloud:=[]:Past },recs:=[{ sku:={ data:=#[(65:UInt8)]:ByteArray },past:={ vec:=[(2:Int)],cloud:=[]:Past }:Record }]:Facts }).1.gone={ vec:=[(1:Int)],cloud:=[]:Past }) (by simp only [eq_true h5,eq_false h6,tsl]) z0)))) ?_
 exact⟨rfl,by kernel_rfl⟩
 refine rG cx [0] [] (tT 1 (A0 h5) (tD 15 false ((E7 { adds:=[{ dot:={ rep:=(1:Int),num:=(1:Int):Dot },sku:={ dot:={ rep:=(1:Int),num:=(1:Int):Dot },sku:={ data:=#[(66:UInt8)]:ByteArray },qty:=(7:Int):Entry }.sku,qty:=(7:Int):Entry }],gone:={ vec:=[(1:Int),(1:Int)],cloud:=[]:Past },recs:=[{ sku:={ data:=#[(65:UInt8)]:ByteArray },past:={ vec:=[(2:Int)],cloud:=[]:Past }:Record }]:Facts }).2=0∧(↑(E7 { adds:=[{ dot:={ rep:=(1:Int),num:=(1:Int):Dot },sku:={ dot:={ rep:=(1:Int),num:=(1:Int):Dot },sku:={ data:=#[(66:UInt8)]:ByteArray },qty:=(7:Int):Entry }.sku,qty:=(7:Int):Entry }],gone:={ vec:=[(1:Int),(1:Int)],cloud:=[]:Past },recs:=[{ sku:={ data:=#[(65:UInt8)]:ByteArray },past:={ vec:=[(2:Int)],cloud:=[]:Past }:Record }]:Facts }).1.adds.length:Int)=1∧(E7 { adds:=[{ dot:={ rep:=(1:Int),num:=(1:Int):Dot },sku:={ dot:={ rep:=(1:Int),num:=(1:Int):Dot },sku:={ data:=#[(66:UInt8)]:ByteArray },qty:=(7:Int):Entry }.sku,qty:=(7:Int):Entry }],gone:={ vec:=[(1:Int),(1:Int)],cloud:=[]:Past },recs:=[{ sku:={ data:=#[(65:UInt8)]:ByteArray },past:={ vec:=[(2:Int)],cloud:=[]:Past }:Record }]:Facts }).1.gone={ vec:=[(1:Int)],cloud:=[]:Past }) (by simp only [eq_false h5,tsl]) z0)) ?_
 exact⟨rfl,by kernel_rfl⟩
 refine sn<|rT<|qR (.b (decide ((E7 { adds:=[{ dot:={ rep:=(1:Int),num:=(1:Int):Dot },sku:={ dot:={ rep:=(1:Int),num:=(1:Int):Dot },sku:={ data:=#[(66:UInt8)]:ByteArray },qty:=(7:Int):Entry }.sku,qty:=(7:Int):Entry }],gone:={ vec:=[(1:Int),(1:Int)],cloud:=[]:Past },recs:=[{ sku:={ data:=#[(65:UInt8)]:ByteArray },past:={ vec:=[(2:Int)],cloud:=[]:Past }:Record }]:Facts }).2=0∧(↑(E7 { adds:=[{ dot:={ rep:=(1:Int),num:=(1:Int):Dot },sku:={ dot:={ rep:=(1:Int),num:=(1:Int):Dot },sku:={ data:=#[(66:UInt8)]:ByteArray },qty:=(7:Int):Entry }.sku,qty:=(7:Int):Entry }],gone:={ vec:=[(1:Int),(1:Int)],cloud:=[]:Past },recs:=[{ sku:={ data:=#[(65:UInt8)]:ByteArray },past:={ vec:=[(2:Int)],cloud:=[]:Past }:Record }]:Facts }).1.adds.length:Int)=1∧(E7 { adds:=[{ dot:={ rep:=(1:Int),num:=(1:Int):Dot },sku:={ dot:={ rep:=(1:Int),num:=(1:Int):Dot },sku:={ data:=#[(66:UInt8)]:ByteArray },qty:=(7:Int):Entry }.sku,qty:=(7:Int):Entry }],gone:={ vec:=[(1:Int),(1:Int)],cloud:=[]:Past },recs:=[{ sku:={ data:=#[(65:UInt8)]:ByteArray },past:={ vec:=[(2:Int)],cloud:=[]:Past }:Record }]:Facts }).1.gone={ vec:=[(1:Int)],cloud:=[]:Past }))) (.eq ?g10);rotate_left
 case g6 =>
  rcases h3 with h3 | h3 | h3
  ·exact absurd c2 h3
  ·exact absurd c1 h3
  ·exact absurd Bf5 h3
 case g10 =>
  show AV.b (decide ((E7 fxW).2=0∧((E7 fxW).1.adds.length:Int)=1∧(E7 fxW).1.gone=⟨[1],[]⟩))=AV.b true
  rw[Ai3]
  rfl
theorem con70(a b:List Fate)(hl:a.length≤4611686018427387904):Con Tryz.prog 70 [.sl (a.map L7),.sl (b.map L7)] (.b (decide (a=b))) :=
 by
 refine lN 0 L7 (a) Tryz.func70 fun hl_0=>lN 1 L7 (b) Tryz.func70 fun hl_1=>sC A6 [.tmp 4] 26 Tryz.func70 ?_
 intro e0 cx
 refine sq<|rG cx [0,1] [] z0<|sn<|sq<|sq<|rG cx [0,1,10] [] (tL 1 L7 a (tL 3 L7 b (tN 4 (↑a.length:Int) (↑b.length:Int) z0)))<|sn<|dC (¬(↑a.length:Int)=(↑b.length:Int)) (fun hh0=>?_) fun hh0=>?_
 refine sq<|rG cx [4] [] z0<|sn<|rT<|nR<|qR (.b (false)) (.eq (by rw[decide_eq_false (fun k=>hh0 (by rw[k]))]))
 refine sK<|sn<|sq<|sq<|rG cx [0,1,5] [] z0<|sn<|bL 0<|sL (X:=Int) (fun x=>⟨[(0,.sl (List.map L7 a)),(1,.sl (List.map L7 b)),(5,.i .i64 (x))],[]⟩) (fun x ↦ B9a a b x) (fun x ↦ A4z a b x) [0,1,5] [] ((0:Int)) (show A4z a b (0:Int)from(by exact⟨by omega,by omega,by omega,fun j hj=>by omega⟩)) ?_
 intro i1 h_2
 obtain⟨hh3,hh4,hh5,h6⟩:0≤i1∧i1≤(↑a.length:Int)∧a.length=b.length∧∀(j:Nat),(↑j:Int) < i1→a[j]! = b[j]!:=h_2
 refine sq<|rD cx [0,1,5,14] [] (tL 2 L7 a (zB 3 (i1 <(↑a.length:Int)))) (fun h7=>?_) fun h7=>?_
 refine sK<|sn<|sq<|bL 1<|sq<|rA cx [0,1,5,25] [] (fA (0≤i1) (fG L7 a i1.toNat (fR 4 (fN 4 4 (fA (0≤i1) (fG L7 b i1.toNat (fR 4 (fN 4 4 (fT (X5 (eq112 a[i1.toNat]! b[i1.toNat]!)) (oR 2 (L7 a[i1.toNat]!) (oR 6 (L7 b[i1.toNat]!) (oA 8 (.b (decide ¬a[i1.toNat]! = b[i1.toNat]!)) z0))))))))))))<|sn<|dC (¬a[i1.toNat]! = b[i1.toNat]!) (fun h8=>?_) fun h8=>?_
 refine sq<|rG cx [4] [] z0<|sn<|rT<|bR<|nR<|nR<|bR<|nR<|qR (.b (false)) (.eq (by rw[decide_eq_false (fun k=>h8 (by rw[k]))]))
 refine sK<|bN<|sn<|rG cx [0,1,5] [] (tW 1 (i1+1) z0)<|sn<|nX (i1+1) (show((↑a.length:Int)-(i1+1)).toNat <((↑a.length:Int)-i1).toNat from(by omega)) (show A4z a b (i1+1)from ?g3);rotate_left
 refine eX 0<|nE<|nE<|bH<|sn<|sq<|rG cx [4] [] z0<|sn<|rT<|qR (.b (true)) (.eq (by rw[decide_eq_true (I5 hh5 fun j hj=>h6 j (by omega))]))
 case g3 =>
  refine⟨by omega,by omega,hh5,fun j hj=>?_⟩
  by_cases e:j=i1.toNat
  ·rw[e];exact Classical.not_not.1 h8
  ·exact h6 j (by omega)
theorem con12(x:KCase)(hf:szB 1 x.f)(kf:szL x.f)(hd:x.dots.length≤1048576)(ha:x.f.adds.length≤1048576):Con Tryz.prog 12 [.agg (c104 x)] (.b true) :=
 by
 have B:=A6c hf
 have SL:=fun s=>Bf9 x.f s
 refine sC A6 [.tmp 2] 119 Tryz.func12 ?_
 intro e0 cx
 refine sq<|rG cx [1] [1] z0<|sn<|sq<|sq<|rG cx [1,17] [1] (fT (con55 ) (oA 0 (.b (true)) z0))<|sn<|L5 (by kernel_rfl) (by kernel_rfl)<|sK<|sn<|sq<|rG cx [1,3] [1,18] (fR 44 (fR 2 (fR 2 (fX c44 x.dots 2 (fS c44 [] c44 x.dots (fP (((List.map c44 []).length+(List.map c44 x.dots).length)*(16:Nat)≤(140737488355328:Nat)) (by(simp only [Go.maxLen,List.length_map,List.length_append,List.length_cons,List.length_nil];omega)) (fM c44 [] x.dots (oV 3 { rows:=some (List.map c44 ([]++x.dots)) } z0))))))))<|sn<|sq<|sq<|rG cx [1,3,4] [1,18] z0<|sn<|bL 0<|sL (X:=Int×List Entry×List Int×List Span×List Record×List Entry×List Int×List Span×List Record×List Entry×List Int×List Span×List Record×List Entry×List Int×List Span×List Record×List Dot×ByteArray×List Dot) (fun x=>⟨[(1,.ptr (1) (0) (0) (0)),(3,.own 18 0),(4,.i .i64 (x.1))],[(1,⟨0,104,.var [.sl (List.map c46 x.2.1),.sl (List.map c3 x.2.2.1),.sl (List.map A9 x.2.2.2.1),.sl (List.map c54 x.2.2.2.2.1),.sl (List.map c46 x.2.2.2.2.2.1),.sl (List.map c3 x.2.2.2.2.2.2.1),.sl (List.map A9 x.2.2.2.2.2.2.2.1),.sl (List.map c54 x.2.2.2.2.2.2.2.2.1),.sl (List.map c46 x.2.2.2.2.2.2.2.2.2.1),.sl (List.map c3 x.2.2.2.2.2.2.2.2.2.2.1),.sl (List.map A9 x.2.2.2.2.2.2.2.2.2.2.2.1),.sl (List.map c54 x.2.2.2.2.2.2.2.2.2.2.2.2.1),.sl (List.map c46 x.2.2.2.2.2.2.2.2.2.2.2.2.2.1),.sl (List.map c3 x.2.2.2.2.2.2.2.2.2.2.2.2.2.2.1),.sl (List.map A9 x.2.2.2.2.2.2.2.2.2.2.2.2.2.2.2.1),.sl (List.map c54 x.2.2.2.2.2.2.2.2.2.2.2.2.2.2.2.2.1),.sl (List.map c44 x.2.2.2.2.2.2.2.2.2.2.2.2.2.2.2.2.2.1),.s (x.2.2.2.2.2.2.2.2.2.2.2.2.2.2.2.2.2.2.1)]⟩),(18,⟨0,44,.row 2 (List.map c44 x.2.2.2.2.2.2.2.2.2.2.2.2.2.2.2.2.2.2.2)⟩)]⟩) (fun x_1 ↦ decKa x x_1.1 x_1.2.1 x_1.2.2.1 x_1.2.2.2.1 x_1.2.2.2.2.1 x_1.2.2.2.2.2.1 x_1.2.2.2.2.2.2.1 x_1.2.2.2.2.2.2.2.1 x_1.2.2.2.2.2.2.2.2.1 x_1.2.2.2.2.2.2.2.2.2.1 x_1.2.2.2.2.2.2.2.2.2.2.1 x_1.2.2.2.2.2.2.2.2.2.2.2.1 x_1.2.2.2.2.2.2.2.2.2.2.2.2.1 x_1.2.2.2.2.2.2.2.2.2.2.2.2.2.1 x_1.2.2.2.2.2.2.2.2.2.2.2.2.2.2.1 x_1.2.2.2.2.2.2.2.2.2.2.2.2.2.2.2.1 x_1.2.2.2.2.2.2.2.2.2.2.2.2.2.2.2.2.1 x_1.2.2.2.2.2.2.2.2.2.2.2.2.2.2.2.2.2.1 x_1.2.2.2.2.2.2.2.2.2.2.2.2.2.2.2.2.2.2.1 x_1.2.2.2.2.2.2.2.2.2.2.2.2.2.2.2.2.2.2.2) (fun x_1 ↦ Bf6 x x_1.1 x_1.2.1 x_1.2.2.1 x_1.2.2.2.1 x_1.2.2.2.2.1 x_1.2.2.2.2.2.1 x_1.2.2.2.2.2.2.1 x_1.2.2.2.2.2.2.2.1 x_1.2.2.2.2.2.2.2.2.1 x_1.2.2.2.2.2.2.2.2.2.1 x_1.2.2.2.2.2.2.2.2.2.2.1 x_1.2.2.2.2.2.2.2.2.2.2.2.1 x_1.2.2.2.2.2.2.2.2.2.2.2.2.1 x_1.2.2.2.2.2.2.2.2.2.2.2.2.2.1 x_1.2.2.2.2.2.2.2.2.2.2.2.2.2.2.1 x_1.2.2.2.2.2.2.2.2.2.2.2.2.2.2.2.1 x_1.2.2.2.2.2.2.2.2.2.2.2.2.2.2.2.2.1 x_1.2.2.2.2.2.2.2.2.2.2.2.2.2.2.2.2.2.1 x_1.2.2.2.2.2.2.2.2.2.2.2.2.2.2.2.2.2.2.1 x_1.2.2.2.2.2.2.2.2.2.2.2.2.2.2.2.2.2.2.2) [1,3,4] [1,18] (((0:Int),x.f.adds,x.f.gone.vec,x.f.gone.cloud,x.f.recs,x.g.adds,x.g.gone.vec,x.g.gone.cloud,x.g.recs,x.h.adds,x.h.gone.vec,x.h.gone.cloud,x.h.recs,x.s.adds,x.s.gone.vec,x.s.gone.cloud,x.s.recs,x.dots,x.sku,[]++x.dots)) (show Bf6 x (0:Int) x.f.adds x.f.gone.vec x.f.gone.cloud x.f.recs x.g.adds x.g.gone.vec x.g.gone.cloud x.g.recs x.h.adds x.h.gone.vec x.h.gone.cloud x.h.recs x.s.adds x.s.gone.vec x.s.gone.cloud x.s.recs x.dots x.sku ([]++x.dots)from(by exact⟨⟨⟨rfl,rfl,rfl,rfl⟩,⟨rfl,rfl,rfl,rfl⟩,⟨rfl,rfl,rfl,rfl⟩,⟨rfl,rfl,rfl,rfl⟩,rfl,rfl⟩,by omega,by omega,by simp⟩)) ?_
 rintro⟨i0,ff1,ff2,ff3,ff4,gg5,gg6,gg7,gg8,h9,h10,h11,h12,s13,s14,s15,s16,d17,s18,l19⟩ h_20
 obtain⟨h21,h22,h23,h24⟩:eqK x ff1 ff2 ff3 ff4 gg5 gg6 gg7 gg8 h9 h10 h11 h12 s13 s14 s15 s16 d17 s18∧0≤i0∧i0≤(↑x.f.adds.length:Int)∧(↑l19.length:Int)=(↑x.dots.length:Int)+i0:=h_20
 refine sq<|rD cx [1,3,4,27] [1,18] (tL 4 c46 ff1 (zB 5 (i0 <(↑ff1.length:Int)))) (fun h25=>?_) fun h25=>?_
 refine sK<|sn<|sq<|bL 1<|rG cx [1,3,4] [1,18] (fA (0≤i0) (fG c46 ff1 i0.toNat (fR 4 (fN 2 4 (fR 44 (fR 2 (fR 2 (fX c44 [ff1[i0.toNat]!.dot] 2 (fS c44 l19 c44 [ff1[i0.toNat]!.dot] (fP (((List.map c44 l19).length+(List.map c44 [ff1[i0.toNat]!.dot]).length)*(16:Nat)≤(140737488355328:Nat)) (by(simp only [Go.maxLen,List.length_map,List.length_append,List.length_cons,List.length_nil];omega)) (fM c44 l19 [ff1[i0.toNat]!.dot] (oR 5 (c46 ff1[i0.toNat]!) (oV 9 { rows:=some (List.map c44 (l19++[ff1[i0.toNat]!.dot])) } z0)))))))))))))<|bN<|sn<|rG cx [1,3,4] [1,18] (tW 1 (i0+1) z0)<|sn<|nX ((i0+1,ff1,ff2,ff3,ff4,gg5,gg6,gg7,gg8,h9,h10,h11,h12,s13,s14,s15,s16,d17,s18,l19++[ff1[i0.toNat]!.dot])) (show((↑x.f.adds.length:Int)-(i0+1)).toNat <((↑x.f.adds.length:Int)-i0).toNat from ?g1) (show Bf6 x (i0+1) ff1 ff2 ff3 ff4 gg5 gg6 gg7 gg8 h9 h10 h11 h12 s13 s14 s15 s16 d17 s18 (l19++[ff1[i0.toNat]!.dot])from ?g2);rotate_left 2
 refine eX 0<|nE<|nE<|bH<|sn<|sq<|sq<|rG cx [1,3,5] [1,18] z0<|sn<|bL 2<|sL (X:=Int×List Entry×List Int×List Span×List Record×List Entry×List Int×List Span×List Record×List Entry×List Int×List Span×List Record×List Entry×List Int×List Span×List Record×List Dot×ByteArray×List Dot) (fun x=>⟨[(1,.ptr (1) (0) (0) (0)),(3,.own 18 0),(5,.i .i64 (x.1))],[(1,⟨0,104,.var [.sl (List.map c46 x.2.1),.sl (List.map c3 x.2.2.1),.sl (List.map A9 x.2.2.2.1),.sl (List.map c54 x.2.2.2.2.1),.sl (List.map c46 x.2.2.2.2.2.1),.sl (List.map c3 x.2.2.2.2.2.2.1),.sl (List.map A9 x.2.2.2.2.2.2.2.1),.sl (List.map c54 x.2.2.2.2.2.2.2.2.1),.sl (List.map c46 x.2.2.2.2.2.2.2.2.2.1),.sl (List.map c3 x.2.2.2.2.2.2.2.2.2.2.1),.sl (List.map A9 x.2.2.2.2.2.2.2.2.2.2.2.1),.sl (List.map c54 x.2.2.2.2.2.2.2.2.2.2.2.2.1),.sl (List.map c46 x.2.2.2.2.2.2.2.2.2.2.2.2.2.1),.sl (List.map c3 x.2.2.2.2.2.2.2.2.2.2.2.2.2.2.1),.sl (List.map A9 x.2.2.2.2.2.2.2.2.2.2.2.2.2.2.2.1),.sl (List.map c54 x.2.2.2.2.2.2.2.2.2.2.2.2.2.2.2.2.1),.sl (List.map c44 x.2.2.2.2.2.2.2.2.2.2.2.2.2.2.2.2.2.1),.s (x.2.2.2.2.2.2.2.2.2.2.2.2.2.2.2.2.2.2.1)]⟩),(18,⟨0,44,.row 2 (List.map c44 x.2.2.2.2.2.2.2.2.2.2.2.2.2.2.2.2.2.2.2)⟩)]⟩) (fun x ↦ decKb x.1 x.2.1 x.2.2.1 x.2.2.2.1 x.2.2.2.2.1 x.2.2.2.2.2.1 x.2.2.2.2.2.2.1 x.2.2.2.2.2.2.2.1 x.2.2.2.2.2.2.2.2.1 x.2.2.2.2.2.2.2.2.2.1 x.2.2.2.2.2.2.2.2.2.2.1 x.2.2.2.2.2.2.2.2.2.2.2.1 x.2.2.2.2.2.2.2.2.2.2.2.2.1 x.2.2.2.2.2.2.2.2.2.2.2.2.2.1 x.2.2.2.2.2.2.2.2.2.2.2.2.2.2.1 x.2.2.2.2.2.2.2.2.2.2.2.2.2.2.2.1 x.2.2.2.2.2.2.2.2.2.2.2.2.2.2.2.2.1 x.2.2.2.2.2.2.2.2.2.2.2.2.2.2.2.2.2.1 x.2.2.2.2.2.2.2.2.2.2.2.2.2.2.2.2.2.2.1 x.2.2.2.2.2.2.2.2.2.2.2.2.2.2.2.2.2.2.2) (fun x_1 ↦ Bf7 x x_1.1 x_1.2.1 x_1.2.2.1 x_1.2.2.2.1 x_1.2.2.2.2.1 x_1.2.2.2.2.2.1 x_1.2.2.2.2.2.2.1 x_1.2.2.2.2.2.2.2.1 x_1.2.2.2.2.2.2.2.2.1 x_1.2.2.2.2.2.2.2.2.2.1 x_1.2.2.2.2.2.2.2.2.2.2.1 x_1.2.2.2.2.2.2.2.2.2.2.2.1 x_1.2.2.2.2.2.2.2.2.2.2.2.2.1 x_1.2.2.2.2.2.2.2.2.2.2.2.2.2.1 x_1.2.2.2.2.2.2.2.2.2.2.2.2.2.2.1 x_1.2.2.2.2.2.2.2.2.2.2.2.2.2.2.2.1 x_1.2.2.2.2.2.2.2.2.2.2.2.2.2.2.2.2.1 x_1.2.2.2.2.2.2.2.2.2.2.2.2.2.2.2.2.2.1 x_1.2.2.2.2.2.2.2.2.2.2.2.2.2.2.2.2.2.2.1 x_1.2.2.2.2.2.2.2.2.2.2.2.2.2.2.2.2.2.2.2) [1,3,5] [1,18] (((0:Int),ff1,ff2,ff3,ff4,gg5,gg6,gg7,gg8,h9,h10,h11,h12,s13,s14,s15,s16,d17,s18,l19)) (show Bf7 x (0:Int) ff1 ff2 ff3 ff4 gg5 gg6 gg7 gg8 h9 h10 h11 h12 s13 s14 s15 s16 d17 s18 l19 from ?g3) ?_;rotate_left
 rintro⟨i26,f27,f28,f29,f30,g31,g32,g33,g34,h35,h36,h37,h38,s39,s40,s41,s42,d43,s44,l45⟩ h_46
 obtain⟨h47,h48,h49,h50⟩:eqK x f27 f28 f29 f30 g31 g32 g33 g34 h35 h36 h37 h38 s39 s40 s41 s42 d43 s44∧0≤i26∧i26≤(↑l45.length:Int)∧(↑l45.length:Int)=(↑x.dots.length:Int)+(↑x.f.adds.length:Int):=h_46
 refine sq<|rD cx [1,3,5,43] [1,18] (tL 2 c44 l45 (zB 3 (i26 <(↑l45.length:Int)))) (fun h51=>?_) fun h51=>?_
 refine sK<|sn<|sq<|bL 3<|sq<|rA cx [1,3,5,6,7] [1,18,6] (fA (0≤i26) (fP (i26.toNat <(List.map c44 l45).length) (by(first | omega | (simp only [List.length_map];omega))) (fR 2 (fP (E.rowAt { ver:=0,ty:=44,k:=BK.row (2) (List.map c44 l45):Blk } i26.toNat (c44 l45[i26.toNat]!)) ?g4 (fP (0+(2:Nat)≤(c44 l45[i26.toNat]!).length) (by exact Nat.le_refl _) (fT (con66 ({ adds:=f27,gone:={ vec:=f28,cloud:=f29:Past },recs:=f30:Facts }) (l45[i26.toNat]!) ?g6) (oR 5 (c44 l45[i26.toNat]!) (oA 6 (.tup [.agg [.i .i64 ((L3 { adds:=f27,gone:={ vec:=f28,cloud:=f29:Past },recs:=f30:Facts } l45[i26.toNat]!).1.dot.rep),.i .i64 ((L3 { adds:=f27,gone:={ vec:=f28,cloud:=f29:Past },recs:=f30:Facts } l45[i26.toNat]!).1.dot.num),.i .i64 ((L3 { adds:=f27,gone:={ vec:=f28,cloud:=f29:Past },recs:=f30:Facts } l45[i26.toNat]!).1.kind),.i .i64 ((L3 { adds:=f27,gone:={ vec:=f28,cloud:=f29:Past },recs:=f30:Facts } l45[i26.toNat]!).1.recs)],.i .i64 ((L3 { adds:=f27,gone:={ vec:=f28,cloud:=f29:Past },recs:=f30:Facts } l45[i26.toNat]!).2)]) z0)))))))) ?_;rotate_left 2
 refine sn<|sq<|rA cx [1,3,5,6,7,8,9] [1,18,6,8] (fA (0≤i26) (fP (i26.toNat <(List.map c44 l45).length) (by(first | omega | (simp only [List.length_map];omega))) (fR 2 (fP (E.rowAt { ver:=0,ty:=44,k:=BK.row (2) (List.map c44 l45):Blk } i26.toNat (c44 l45[i26.toNat]!)) ?g7 (fP (0+(2:Nat)≤(c44 l45[i26.toNat]!).length) (by exact Nat.le_refl _) (fT (con67 ({ adds:=f27,gone:={ vec:=f28,cloud:=f29:Past },recs:=f30:Facts }) (l45[i26.toNat]!) ?g9 ?g10) (oR 5 (c44 l45[i26.toNat]!) (oA 6 (.tup [.agg [.i .i64 ((L3 { adds:=f27,gone:={ vec:=f28,cloud:=f29:Past },recs:=f30:Facts } l45[i26.toNat]!).1.dot.rep),.i .i64 ((L3 { adds:=f27,gone:={ vec:=f28,cloud:=f29:Past },recs:=f30:Facts } l45[i26.toNat]!).1.dot.num),.i .i64 ((L3 { adds:=f27,gone:={ vec:=f28,cloud:=f29:Past },recs:=f30:Facts } l45[i26.toNat]!).1.kind),.i .i64 ((L3 { adds:=f27,gone:={ vec:=f28,cloud:=f29:Past },recs:=f30:Facts } l45[i26.toNat]!).1.recs)],.i .i64 ((L3 { adds:=f27,gone:={ vec:=f28,cloud:=f29:Past },recs:=f30:Facts } l45[i26.toNat]!).2)]) z0)))))))) ?_;rotate_left 3
 refine sn<|sq<|rG cx [1,3,5,73] [1,18] (fT (A5h (eq112 (L3 { adds:=f27,gone:={ vec:=f28,cloud:=f29:Past },recs:=f30:Facts } l45[i26.toNat]!).1 (L3 { adds:=f27,gone:={ vec:=f28,cloud:=f29:Past },recs:=f30:Facts } l45[i26.toNat]!).1) (Eq.refl (L3 { adds:=f27,gone:={ vec:=f28,cloud:=f29:Past },recs:=f30:Facts } l45[i26.toNat]!).1)) (tT 6 (A17:AV.b ((L3 { adds:=f27,gone:={ vec:=f28,cloud:=f29:Past },recs:=f30:Facts } l45[i26.toNat]!).2 !=(L3 { adds:=f27,gone:={ vec:=f28,cloud:=f29:Past },recs:=f30:Facts } l45[i26.toNat]!).2)=AV.b false) (oA 2 (.b (false)) z0)))<|sn<|L5 (by kernel_rfl) (by kernel_rfl)<|sK<|bN<|sn<|rG cx [1,3,5] [1,18] (tW 1 (i26+1) z0)<|sn<|nX ((i26+1,f27,f28,f29,f30,g31,g32,g33,g34,h35,h36,h37,h38,s39,s40,s41,s42,d43,s44,l45)) (show((↑l45.length:Int)-(i26+1)).toNat <((↑l45.length:Int)-i26).toNat from(by omega)) (show Bf7 x (i26+1) f27 f28 f29 f30 g31 g32 g33 g34 h35 h36 h37 h38 s39 s40 s41 s42 d43 s44 l45 from ?g11);rotate_left
 refine eX 2<|nE<|nE<|bH<|sn<|sq<|rG cx [1,10,11] [1] (fT (con68 ({ adds:=f27,gone:={ vec:=f28,cloud:=f29:Past },recs:=f30:Facts }) (s44) ?g12) (oA 4 (.tup [.sl (List.map L7 (W5 { adds:=f27,gone:={ vec:=f28,cloud:=f29:Past },recs:=f30:Facts } s44).1),.i .i64 ((W5 { adds:=f27,gone:={ vec:=f28,cloud:=f29:Past },recs:=f30:Facts } s44).2)]) z0)) ?_;rotate_left
 refine sn<|sq<|rG cx [1,10,11,12,13] [1] (fT (con69 ({ adds:=f27,gone:={ vec:=f28,cloud:=f29:Past },recs:=f30:Facts }) (s44) ?g13 ?g14) (oA 4 (.tup [.sl (List.map L7 (W5 { adds:=f27,gone:={ vec:=f28,cloud:=f29:Past },recs:=f30:Facts } s44).1),.i .i64 ((W5 { adds:=f27,gone:={ vec:=f28,cloud:=f29:Past },recs:=f30:Facts } s44).2)]) z0)) ?_;rotate_left 2
 refine sn<|sq<|sq<|rG cx [1,98] [1] (tT 2 (A17:AV.b ((W5 { adds:=f27,gone:={ vec:=f28,cloud:=f29:Past },recs:=f30:Facts } s44).2 !=(W5 { adds:=f27,gone:={ vec:=f28,cloud:=f29:Past },recs:=f30:Facts } s44).2)=AV.b false) (fT (con70 ((W5 { adds:=f27,gone:={ vec:=f28,cloud:=f29:Past },recs:=f30:Facts } s44).1) ((W5 { adds:=f27,gone:={ vec:=f28,cloud:=f29:Past },recs:=f30:Facts } s44).1) ?g15) (tQ 7 ((W5 { adds:=f27,gone:={ vec:=f28,cloud:=f29:Past },recs:=f30:Facts } s44).1=(W5 { adds:=f27,gone:={ vec:=f28,cloud:=f29:Past },recs:=f30:Facts } s44).1) (oA 6 (.b (decide ((W5 { adds:=f27,gone:={ vec:=f28,cloud:=f29:Past },recs:=f30:Facts } s44).1=(W5 { adds:=f27,gone:={ vec:=f28,cloud:=f29:Past },recs:=f30:Facts } s44).1))) z0)))) ?_;rotate_left
 refine sn<|A5d (¬(W5 { adds:=f27,gone:={ vec:=f28,cloud:=f29:Past },recs:=f30:Facts } s44).1=(W5 { adds:=f27,gone:={ vec:=f28,cloud:=f29:Past },recs:=f30:Facts } s44).1) (by kernel_rfl) (by kernel_rfl) (fun h52=>absurd h52 (fun hn=>hn rfl)) (fun h52=>?_)
 refine sK<|sn<|sq<|rG cx [1,14,11] [1,14] (fT (con71 ({ adds:=f27,gone:={ vec:=f28,cloud:=f29:Past },recs:=f30:Facts }) ?g16) (oA 2 (.tup [.agg [.i .i64 ((W6 { adds:=f27,gone:={ vec:=f28,cloud:=f29:Past },recs:=f30:Facts }).1.adds),.i .i64 ((W6 { adds:=f27,gone:={ vec:=f28,cloud:=f29:Past },recs:=f30:Facts }).1.gone),.i .i64 ((W6 { adds:=f27,gone:={ vec:=f28,cloud:=f29:Past },recs:=f30:Facts }).1.recs)],.i .i64 ((W6 { adds:=f27,gone:={ vec:=f28,cloud:=f29:Past },recs:=f30:Facts }).2)]) z0)) ?_;rotate_left
 refine sn<|sq<|rG cx [14,11,15,13] [14,15] (fT (con72 ({ adds:=f27,gone:={ vec:=f28,cloud:=f29:Past },recs:=f30:Facts }) ?g17 ?g18) (oA 2 (.tup [.agg [.i .i64 ((W6 { adds:=f27,gone:={ vec:=f28,cloud:=f29:Past },recs:=f30:Facts }).1.adds),.i .i64 ((W6 { adds:=f27,gone:={ vec:=f28,cloud:=f29:Past },recs:=f30:Facts }).1.gone),.i .i64 ((W6 { adds:=f27,gone:={ vec:=f28,cloud:=f29:Past },recs:=f30:Facts }).1.recs)],.i .i64 ((W6 { adds:=f27,gone:={ vec:=f28,cloud:=f29:Past },recs:=f30:Facts }).2)]) z0)) ?_;rotate_left 2
 refine sn<|sq<|rG cx [2] [] (fT (A5h (eq120 (W6 { adds:=f27,gone:={ vec:=f28,cloud:=f29:Past },recs:=f30:Facts }).1 (W6 { adds:=f27,gone:={ vec:=f28,cloud:=f29:Past },recs:=f30:Facts }).1) (Eq.refl (W6 { adds:=f27,gone:={ vec:=f28,cloud:=f29:Past },recs:=f30:Facts }).1)) (tT 6 (A16:AV.b ((W6 { adds:=f27,gone:={ vec:=f28,cloud:=f29:Past },recs:=f30:Facts }).2 ==(W6 { adds:=f27,gone:={ vec:=f28,cloud:=f29:Past },recs:=f30:Facts }).2)=AV.b true) (oA 2 (.b (true)) z0)))<|sn<|rT ?_
 exact A3h (r:=.b (true)) (obl:=[]) (by kernel_rfl) trivial (B5.refl _)
 case g1=>revert i0 ff1 ff2 ff3 ff4 gg5 gg6 gg7 gg8 h9 h10 h11 h12 s13 s14 s15 s16 d17 s18 l19 h21 h22 h23 h24 h25;intro i f1 f2 f3 f4 g1 g2 g3 g4 h1 h2 h3 h4 s1 s2 s3 s4 ds sk l e h0 h1 h2 h3;obtain⟨⟨rfl,rfl,rfl,rfl⟩,⟨rfl,rfl,rfl,rfl⟩,⟨rfl,rfl,rfl,rfl⟩,⟨rfl,rfl,rfl,rfl⟩,rfl,rfl⟩:=e;omega
 case g2=>revert i0 ff1 ff2 ff3 ff4 gg5 gg6 gg7 gg8 h9 h10 h11 h12 s13 s14 s15 s16 d17 s18 l19 h21 h22 h23 h24 h25;intro i f1 f2 f3 f4 g1 g2 g3 g4 h1 h2 h3 h4 s1 s2 s3 s4 ds sk l e h0 h1 h2 h3;obtain⟨⟨rfl,rfl,rfl,rfl⟩,⟨rfl,rfl,rfl,rfl⟩,⟨rfl,rfl,rfl,rfl⟩,⟨rfl,rfl,rfl,rfl⟩,rfl,rfl⟩:=e;exact⟨⟨⟨rfl,rfl,rfl,rfl⟩,⟨rfl,rfl,rfl,rfl⟩,⟨rfl,rfl,rfl,rfl⟩,⟨rfl,rfl,rfl,rfl⟩,rfl,rfl⟩,by omega,by omega,by rw[List.length_append,List.length_singleton];omega⟩
 case g3=>revert i0 ff1 ff2 ff3 ff4 gg5 gg6 gg7 gg8 h9 h10 h11 h12 s13 s14 s15 s16 d17 s18 l19 h21 h22 h23 h24 h25;intro i f1 f2 f3 f4 g1 g2 g3 g4 h1 h2 h3 h4 s1 s2 s3 s4 ds sk l e h0 h1 h2 h3;obtain⟨⟨rfl,rfl,rfl,rfl⟩,⟨rfl,rfl,rfl,rfl⟩,⟨rfl,rfl,rfl,rfl⟩,⟨rfl,rfl,rfl,rfl⟩,rfl,rfl⟩:=e;exact⟨⟨⟨rfl,rfl,rfl,rfl⟩,⟨rfl,rfl,rfl,rfl⟩,⟨rfl,rfl,rfl,rfl⟩,⟨rfl,rfl,rfl,rfl⟩,rfl,rfl⟩,by omega,by omega,by omega⟩
 case g4=>revert i0 ff1 ff2 ff3 ff4 gg5 gg6 gg7 gg8 h9 h10 h11 h12 s13 s14 s15 s16 d17 s18 l19 h21 h22 h23 h24 h25 i26 f27 f28 f29 f30 g31 g32 g33 g34 h35 h36 h37 h38 s39 s40 s41 s42 d43 s44 l45 h47 h48 h49 h50 h51;intro i f1 f2 f3 f4 g1 g2 g3 g4 h1 h2 h3 h4 s1 s2 s3 s4 ds sk l e h0 h1 h2 h3 j f1' f2' f3' f4' g1' g2' g3' g4' h1' h2' h3' h4' s1' s2' s3' s4' ds' sk' l' e' k0 k1 k2 k3;exact B39 k0 k3
 case g6=>revert i0 ff1 ff2 ff3 ff4 gg5 gg6 gg7 gg8 h9 h10 h11 h12 s13 s14 s15 s16 d17 s18 l19 h21 h22 h23 h24 h25 i26 f27 f28 f29 f30 g31 g32 g33 g34 h35 h36 h37 h38 s39 s40 s41 s42 d43 s44 l45 h47 h48 h49 h50 h51;intro i f1 f2 f3 f4 g1 g2 g3 g4 h1 h2 h3 h4 s1 s2 s3 s4 ds sk l e h0 h1 h2 h3 j f1' f2' f3' f4' g1' g2' g3' g4' h1' h2' h3' h4' s1' s2' s3' s4' ds' sk' l' e' k0 k1 k2 k3;obtain⟨⟨rfl,rfl,rfl,rfl⟩,⟨rfl,rfl,rfl,rfl⟩,⟨rfl,rfl,rfl,rfl⟩,⟨rfl,rfl,rfl,rfl⟩,rfl,rfl⟩:=e';exact B
 case g7=>revert i0 ff1 ff2 ff3 ff4 gg5 gg6 gg7 gg8 h9 h10 h11 h12 s13 s14 s15 s16 d17 s18 l19 h21 h22 h23 h24 h25 i26 f27 f28 f29 f30 g31 g32 g33 g34 h35 h36 h37 h38 s39 s40 s41 s42 d43 s44 l45 h47 h48 h49 h50 h51;intro i f1 f2 f3 f4 g1 g2 g3 g4 h1 h2 h3 h4 s1 s2 s3 s4 ds sk l e h0 h1 h2 h3 j f1' f2' f3' f4' g1' g2' g3' g4' h1' h2' h3' h4' s1' s2' s3' s4' ds' sk' l' e' k0 k1 k2 k3;exact B39 k0 k3
 case g9=>revert i0 ff1 ff2 ff3 ff4 gg5 gg6 gg7 gg8 h9 h10 h11 h12 s13 s14 s15 s16 d17 s18 l19 h21 h22 h23 h24 h25 i26 f27 f28 f29 f30 g31 g32 g33 g34 h35 h36 h37 h38 s39 s40 s41 s42 d43 s44 l45 h47 h48 h49 h50 h51;intro i f1 f2 f3 f4 g1 g2 g3 g4 h1 h2 h3 h4 s1 s2 s3 s4 ds sk l e h0 h1 h2 h3 j f1' f2' f3' f4' g1' g2' g3' g4' h1' h2' h3' h4' s1' s2' s3' s4' ds' sk' l' e' k0 k1 k2 k3;obtain⟨⟨rfl,rfl,rfl,rfl⟩,⟨rfl,rfl,rfl,rfl⟩,⟨rfl,rfl,rfl,rfl⟩,⟨rfl,rfl,rfl,rfl⟩,rfl,rfl⟩:=e';exact hf.1
 case g10=>revert i0 ff1 ff2 ff3 ff4 gg5 gg6 gg7 gg8 h9 h10 h11 h12 s13 s14 s15 s16 d17 s18 l19 h21 h22 h23 h24 h25 i26 f27 f28 f29 f30 g31 g32 g33 g34 h35 h36 h37 h38 s39 s40 s41 s42 d43 s44 l45 h47 h48 h49 h50 h51;intro i f1 f2 f3 f4 g1 g2 g3 g4 h1 h2 h3 h4 s1 s2 s3 s4 ds sk l e h0 h1 h2 h3 j f1' f2' f3' f4' g1' g2' g3' g4' h1' h2' h3' h4' s1' s2' s3' s4' ds' sk' l' e' k0 k1 k2 k3;obtain⟨⟨rfl,rfl,rfl,rfl⟩,⟨rfl,rfl,rfl,rfl⟩,⟨rfl,rfl,rfl,rfl⟩,⟨rfl,rfl,rfl,rfl⟩,rfl,rfl⟩:=e';exact kf
 case g11=>revert i0 ff1 ff2 ff3 ff4 gg5 gg6 gg7 gg8 h9 h10 h11 h12 s13 s14 s15 s16 d17 s18 l19 h21 h22 h23 h24 h25 i26 f27 f28 f29 f30 g31 g32 g33 g34 h35 h36 h37 h38 s39 s40 s41 s42 d43 s44 l45 h47 h48 h49 h50 h51;intro i f1 f2 f3 f4 g1 g2 g3 g4 h1 h2 h3 h4 s1 s2 s3 s4 ds sk l e h0 h1 h2 h3 j f1' f2' f3' f4' g1' g2' g3' g4' h1' h2' h3' h4' s1' s2' s3' s4' ds' sk' l' e' k0 k1 k2 k3;obtain⟨⟨rfl,rfl,rfl,rfl⟩,⟨rfl,rfl,rfl,rfl⟩,⟨rfl,rfl,rfl,rfl⟩,⟨rfl,rfl,rfl,rfl⟩,rfl,rfl⟩:=e';exact⟨⟨⟨rfl,rfl,rfl,rfl⟩,⟨rfl,rfl,rfl,rfl⟩,⟨rfl,rfl,rfl,rfl⟩,⟨rfl,rfl,rfl,rfl⟩,rfl,rfl⟩,by omega,by omega,by omega⟩
 case g12=>revert i0 ff1 ff2 ff3 ff4 gg5 gg6 gg7 gg8 h9 h10 h11 h12 s13 s14 s15 s16 d17 s18 l19 h21 h22 h23 h24 h25 i26 f27 f28 f29 f30 g31 g32 g33 g34 h35 h36 h37 h38 s39 s40 s41 s42 d43 s44 l45 h47 h48 h49 h50 h51;intro i f1 f2 f3 f4 g1 g2 g3 g4 h1 h2 h3 h4 s1 s2 s3 s4 ds sk l e h0 h1 h2 h3 j f1' f2' f3' f4' g1' g2' g3' g4' h1' h2' h3' h4' s1' s2' s3' s4' ds' sk' l' e' k0 k1 k2 k3;obtain⟨⟨rfl,rfl,rfl,rfl⟩,⟨rfl,rfl,rfl,rfl⟩,⟨rfl,rfl,rfl,rfl⟩,⟨rfl,rfl,rfl,rfl⟩,rfl,rfl⟩:=e';exact B
 case g13=>revert i0 ff1 ff2 ff3 ff4 gg5 gg6 gg7 gg8 h9 h10 h11 h12 s13 s14 s15 s16 d17 s18 l19 h21 h22 h23 h24 h25 i26 f27 f28 f29 f30 g31 g32 g33 g34 h35 h36 h37 h38 s39 s40 s41 s42 d43 s44 l45 h47 h48 h49 h50 h51;intro i f1 f2 f3 f4 g1 g2 g3 g4 h1 h2 h3 h4 s1 s2 s3 s4 ds sk l e h0 h1 h2 h3 j f1' f2' f3' f4' g1' g2' g3' g4' h1' h2' h3' h4' s1' s2' s3' s4' ds' sk' l' e' k0 k1 k2 k3;obtain⟨⟨rfl,rfl,rfl,rfl⟩,⟨rfl,rfl,rfl,rfl⟩,⟨rfl,rfl,rfl,rfl⟩,⟨rfl,rfl,rfl,rfl⟩,rfl,rfl⟩:=e';exact hf.1
 case g14=>revert i0 ff1 ff2 ff3 ff4 gg5 gg6 gg7 gg8 h9 h10 h11 h12 s13 s14 s15 s16 d17 s18 l19 h21 h22 h23 h24 h25 i26 f27 f28 f29 f30 g31 g32 g33 g34 h35 h36 h37 h38 s39 s40 s41 s42 d43 s44 l45 h47 h48 h49 h50 h51;intro i f1 f2 f3 f4 g1 g2 g3 g4 h1 h2 h3 h4 s1 s2 s3 s4 ds sk l e h0 h1 h2 h3 j f1' f2' f3' f4' g1' g2' g3' g4' h1' h2' h3' h4' s1' s2' s3' s4' ds' sk' l' e' k0 k1 k2 k3;obtain⟨⟨rfl,rfl,rfl,rfl⟩,⟨rfl,rfl,rfl,rfl⟩,⟨rfl,rfl,rfl,rfl⟩,⟨rfl,rfl,rfl,rfl⟩,rfl,rfl⟩:=e';exact kf
 case g15=>revert i0 ff1 ff2 ff3 ff4 gg5 gg6 gg7 gg8 h9 h10 h11 h12 s13 s14 s15 s16 d17 s18 l19 h21 h22 h23 h24 h25 i26 f27 f28 f29 f30 g31 g32 g33 g34 h35 h36 h37 h38 s39 s40 s41 s42 d43 s44 l45 h47 h48 h49 h50 h51;intro i f1 f2 f3 f4 g1 g2 g3 g4 h1 h2 h3 h4 s1 s2 s3 s4 ds sk l e h0 h1 h2 h3 j f1' f2' f3' f4' g1' g2' g3' g4' h1' h2' h3' h4' s1' s2' s3' s4' ds' sk' l' e' k0 k1 k2 k3;obtain⟨⟨rfl,rfl,rfl,rfl⟩,⟨rfl,rfl,rfl,rfl⟩,⟨rfl,rfl,rfl,rfl⟩,⟨rfl,rfl,rfl,rfl⟩,rfl,rfl⟩:=e';exact Nat.le_trans (SL _) (by omega)
 case g16=>revert i0 ff1 ff2 ff3 ff4 gg5 gg6 gg7 gg8 h9 h10 h11 h12 s13 s14 s15 s16 d17 s18 l19 h21 h22 h23 h24 h25 i26 f27 f28 f29 f30 g31 g32 g33 g34 h35 h36 h37 h38 s39 s40 s41 s42 d43 s44 l45 h47 h48 h49 h50 h51 h52;intro i f1 f2 f3 f4 g1 g2 g3 g4 h1 h2 h3 h4 s1 s2 s3 s4 ds sk l e h0 h1 h2 h3 j f1' f2' f3' f4' g1' g2' g3' g4' h1' h2' h3' h4' s1' s2' s3' s4' ds' sk' l' e' k0 k1 k2 k3 k4;obtain⟨⟨rfl,rfl,rfl,rfl⟩,⟨rfl,rfl,rfl,rfl⟩,⟨rfl,rfl,rfl,rfl⟩,⟨rfl,rfl,rfl,rfl⟩,rfl,rfl⟩:=e';exact B
 case g17=>revert i0 ff1 ff2 ff3 ff4 gg5 gg6 gg7 gg8 h9 h10 h11 h12 s13 s14 s15 s16 d17 s18 l19 h21 h22 h23 h24 h25 i26 f27 f28 f29 f30 g31 g32 g33 g34 h35 h36 h37 h38 s39 s40 s41 s42 d43 s44 l45 h47 h48 h49 h50 h51 h52;intro i f1 f2 f3 f4 g1 g2 g3 g4 h1 h2 h3 h4 s1 s2 s3 s4 ds sk l e h0 h1 h2 h3 j f1' f2' f3' f4' g1' g2' g3' g4' h1' h2' h3' h4' s1' s2' s3' s4' ds' sk' l' e' k0 k1 k2 k3 k4;obtain⟨⟨rfl,rfl,rfl,rfl⟩,⟨rfl,rfl,rfl,rfl⟩,⟨rfl,rfl,rfl,rfl⟩,⟨rfl,rfl,rfl,rfl⟩,rfl,rfl⟩:=e';exact hf.1
 case g18=>revert i0 ff1 ff2 ff3 ff4 gg5 gg6 gg7 gg8 h9 h10 h11 h12 s13 s14 s15 s16 d17 s18 l19 h21 h22 h23 h24 h25 i26 f27 f28 f29 f30 g31 g32 g33 g34 h35 h36 h37 h38 s39 s40 s41 s42 d43 s44 l45 h47 h48 h49 h50 h51 h52;intro i f1 f2 f3 f4 g1 g2 g3 g4 h1 h2 h3 h4 s1 s2 s3 s4 ds sk l e h0 h1 h2 h3 j f1' f2' f3' f4' g1' g2' g3' g4' h1' h2' h3' h4' s1' s2' s3' s4' ds' sk' l' e' k0 k1 k2 k3 k4;obtain⟨⟨rfl,rfl,rfl,rfl⟩,⟨rfl,rfl,rfl,rfl⟩,⟨rfl,rfl,rfl,rfl⟩,⟨rfl,rfl,rfl,rfl⟩,rfl,rfl⟩:=e';exact kf
theorem con11(x:KCase)(hf:szB 1 x.f)(hg:szB 1 x.g)(hh:szB 1 x.h)(hs:szB 1 x.s)(kf:szL x.f)(kg:szL x.g)(kh:szL x.h)(ks:szL x.s):Con Tryz.prog 11 [.agg (c104 x)] (.b true) :=
 by
 have A:∀ {i:Int},0≤i→i <(([x.f,x.g,x.h]:List Facts).length:Int)→szB 7 ([x.f,x.g,x.h]:List Facts)[i.toNat]!:=Aq7 (A6c hf) (A6c hg) (A6c hh)
 have A2:∀ {i:Int},0≤i→i <(([x.f,x.g,x.h]:List Facts).length:Int)→szL ([x.f,x.g,x.h]:List Facts)[i.toNat]!:=Aq7 kf kg kh
 refine sC A6 [.tmp 2] 130 Tryz.func11 ?_
 intro e0 cx
 refine sq<|rG cx [1] [1] z0<|sn<|sq<|sq<|rG cx [1,16] [1] (fT (con55 ) (oA 0 (.b (true)) z0))<|sn<|L5 (by kernel_rfl) (by kernel_rfl)<|sK<|sn<|sq<|rG cx [1,3] [1,23] z0<|sn<|sq<|sq<|rG cx [1,3,4] [1,23] z0<|sn<|bL 0<|sL (X:=Int×List Entry×List Int×List Span×List Record×List Entry×List Int×List Span×List Record×List Entry×List Int×List Span×List Record×List Entry×List Int×List Span×List Record×List Dot×ByteArray×List Facts) (fun x=>⟨[(1,.ptr (1) (0) (0) (0)),(3,.own 23 0),(4,.i .i64 (x.1))],[(1,⟨0,104,.var [.sl (List.map c46 x.2.1),.sl (List.map c3 x.2.2.1),.sl (List.map A9 x.2.2.2.1),.sl (List.map c54 x.2.2.2.2.1),.sl (List.map c46 x.2.2.2.2.2.1),.sl (List.map c3 x.2.2.2.2.2.2.1),.sl (List.map A9 x.2.2.2.2.2.2.2.1),.sl (List.map c54 x.2.2.2.2.2.2.2.2.1),.sl (List.map c46 x.2.2.2.2.2.2.2.2.2.1),.sl (List.map c3 x.2.2.2.2.2.2.2.2.2.2.1),.sl (List.map A9 x.2.2.2.2.2.2.2.2.2.2.2.1),.sl (List.map c54 x.2.2.2.2.2.2.2.2.2.2.2.2.1),.sl (List.map c46 x.2.2.2.2.2.2.2.2.2.2.2.2.2.1),.sl (List.map c3 x.2.2.2.2.2.2.2.2.2.2.2.2.2.2.1),.sl (List.map A9 x.2.2.2.2.2.2.2.2.2.2.2.2.2.2.2.1),.sl (List.map c54 x.2.2.2.2.2.2.2.2.2.2.2.2.2.2.2.2.1),.sl (List.map c44 x.2.2.2.2.2.2.2.2.2.2.2.2.2.2.2.2.2.1),.s (x.2.2.2.2.2.2.2.2.2.2.2.2.2.2.2.2.2.2.1)]⟩),(23,⟨0,36,.row 4 (List.map c36 x.2.2.2.2.2.2.2.2.2.2.2.2.2.2.2.2.2.2.2)⟩)]⟩) (fun x ↦ decSt x.1 x.2.1 x.2.2.1 x.2.2.2.1 x.2.2.2.2.1 x.2.2.2.2.2.1 x.2.2.2.2.2.2.1 x.2.2.2.2.2.2.2.1 x.2.2.2.2.2.2.2.2.1 x.2.2.2.2.2.2.2.2.2.1 x.2.2.2.2.2.2.2.2.2.2.1 x.2.2.2.2.2.2.2.2.2.2.2.1 x.2.2.2.2.2.2.2.2.2.2.2.2.1 x.2.2.2.2.2.2.2.2.2.2.2.2.2.1 x.2.2.2.2.2.2.2.2.2.2.2.2.2.2.1 x.2.2.2.2.2.2.2.2.2.2.2.2.2.2.2.1 x.2.2.2.2.2.2.2.2.2.2.2.2.2.2.2.2.1 x.2.2.2.2.2.2.2.2.2.2.2.2.2.2.2.2.2.1 x.2.2.2.2.2.2.2.2.2.2.2.2.2.2.2.2.2.2.1 x.2.2.2.2.2.2.2.2.2.2.2.2.2.2.2.2.2.2.2) (fun x_1 ↦ Bf8 x x_1.1 x_1.2.1 x_1.2.2.1 x_1.2.2.2.1 x_1.2.2.2.2.1 x_1.2.2.2.2.2.1 x_1.2.2.2.2.2.2.1 x_1.2.2.2.2.2.2.2.1 x_1.2.2.2.2.2.2.2.2.1 x_1.2.2.2.2.2.2.2.2.2.1 x_1.2.2.2.2.2.2.2.2.2.2.1 x_1.2.2.2.2.2.2.2.2.2.2.2.1 x_1.2.2.2.2.2.2.2.2.2.2.2.2.1 x_1.2.2.2.2.2.2.2.2.2.2.2.2.2.1 x_1.2.2.2.2.2.2.2.2.2.2.2.2.2.2.1 x_1.2.2.2.2.2.2.2.2.2.2.2.2.2.2.2.1 x_1.2.2.2.2.2.2.2.2.2.2.2.2.2.2.2.2.1 x_1.2.2.2.2.2.2.2.2.2.2.2.2.2.2.2.2.2.1 x_1.2.2.2.2.2.2.2.2.2.2.2.2.2.2.2.2.2.2.1 x_1.2.2.2.2.2.2.2.2.2.2.2.2.2.2.2.2.2.2.2) [1,3,4] [1,23] (((0:Int),x.f.adds,x.f.gone.vec,x.f.gone.cloud,x.f.recs,x.g.adds,x.g.gone.vec,x.g.gone.cloud,x.g.recs,x.h.adds,x.h.gone.vec,x.h.gone.cloud,x.h.recs,x.s.adds,x.s.gone.vec,x.s.gone.cloud,x.s.recs,x.dots,x.sku,[x.f,x.g,x.h])) (show Bf8 x (0:Int) x.f.adds x.f.gone.vec x.f.gone.cloud x.f.recs x.g.adds x.g.gone.vec x.g.gone.cloud x.g.recs x.h.adds x.h.gone.vec x.h.gone.cloud x.h.recs x.s.adds x.s.gone.vec x.s.gone.cloud x.s.recs x.dots x.sku [x.f,x.g,x.h]from(by exact⟨⟨⟨rfl,rfl,rfl,rfl⟩,⟨rfl,rfl,rfl,rfl⟩,⟨rfl,rfl,rfl,rfl⟩,⟨rfl,rfl,rfl,rfl⟩,rfl,rfl⟩,rfl,by omega,by omega⟩)) ?_
 rintro⟨i0,ff1,ff2,ff3,ff4,gg5,gg6,gg7,gg8,h9,h10,h11,h12,s13,s14,s15,s16,d17,s18,f19⟩ h_20
 obtain⟨h21,h22,h23,h24⟩:eqK x ff1 ff2 ff3 ff4 gg5 gg6 gg7 gg8 h9 h10 h11 h12 s13 s14 s15 s16 d17 s18∧f19=[x.f,x.g,x.h]∧0≤i0∧i0≤3:=h_20
 refine sq<|rD cx [1,3,4,27] [1,23] (tL 2 c36 f19 (zB 3 (i0 <(↑f19.length:Int)))) (fun h25=>?_) fun h25=>?_
 refine sK<|sn<|sq<|bL 1<|sq<|rG cx [1,3,4,5,6] [1,23,5] (fA (0≤i0) (fP (i0.toNat <(List.map c36 f19).length) (by(first | omega | (simp only [List.length_map];omega))) (fR 4 (fP (E.rowAt { ver:=0,ty:=36,k:=BK.row (4) (List.map c36 f19):Blk } i0.toNat (c36 f19[i0.toNat]!)) ?g1 (fP (0+(4:Nat)≤(c36 f19[i0.toNat]!).length) (by exact Nat.le_refl _) (fT (B2p (f19[i0.toNat]!) ?g3) (oR 3 (c36 f19[i0.toNat]!) (oA 4 (.tup [.agg [.sl (List.map c46 (B9 f19[i0.toNat]!).1.adds),.sl (List.map c3 (B9 f19[i0.toNat]!).1.gone.vec),.sl (List.map A9 (B9 f19[i0.toNat]!).1.gone.cloud),.sl (List.map c54 (B9 f19[i0.toNat]!).1.recs)],.i .i64 ((B9 f19[i0.toNat]!).2)]) z0)))))))) ?_;rotate_left 2
 refine sn<|sq<|rG cx [1,3,4,5,6,7,8] [1,23,5,7] (fA (0≤i0) (fP (i0.toNat <(List.map c36 f19).length) (by(first | omega | (simp only [List.length_map];omega))) (fR 4 (fP (E.rowAt { ver:=0,ty:=36,k:=BK.row (4) (List.map c36 f19):Blk } i0.toNat (c36 f19[i0.toNat]!)) ?g4 (fP (0+(4:Nat)≤(c36 f19[i0.toNat]!).length) (by exact Nat.le_refl _) (fT (con57 (f19[i0.toNat]!) ?g6 ?g7) (oR 3 (c36 f19[i0.toNat]!) (oA 4 (.tup [.agg [.sl (List.map c46 (B9 f19[i0.toNat]!).1.adds),.sl (List.map c3 (B9 f19[i0.toNat]!).1.gone.vec),.sl (List.map A9 (B9 f19[i0.toNat]!).1.gone.cloud),.sl (List.map c54 (B9 f19[i0.toNat]!).1.recs)],.i .i64 ((B9 f19[i0.toNat]!).2)]) z0)))))))) ?_;rotate_left 3
 refine sn<|sq<|sq<|rG cx [1,3,4,7,54] [1,23,7] (tT 2 (A17:AV.b ((B9 f19[i0.toNat]!).2 !=(B9 f19[i0.toNat]!).2)=AV.b false) (fT (Bf2 ((B9 f19[i0.toNat]!).1) ((B9 f19[i0.toNat]!).1) ?g8 ?g9) (tQ 7 ((B9 f19[i0.toNat]!).1=(B9 f19[i0.toNat]!).1) (oA 6 (.b (decide ((B9 f19[i0.toNat]!).1=(B9 f19[i0.toNat]!).1))) z0)))) ?_;rotate_left 2
 refine sn<|A5d (¬(B9 f19[i0.toNat]!).1=(B9 f19[i0.toNat]!).1) (by kernel_rfl) (by kernel_rfl) (fun h26=>absurd h26 (fun hn=>hn rfl)) (fun h26=>?_)
 refine sK<|sn<|sq<|rG cx [1,3,4,7,9,6] [1,23,7,9] (fA (0≤i0) (fP (i0.toNat <(List.map c36 f19).length) (by(first | omega | (simp only [List.length_map];omega))) (fR 4 (fP (E.rowAt { ver:=0,ty:=36,k:=BK.row (4) (List.map c36 f19):Blk } i0.toNat (c36 f19[i0.toNat]!)) ?g10 (fP (0+(4:Nat)≤(c36 f19[i0.toNat]!).length) (by exact Nat.le_refl _) (fT (con59 (f19[i0.toNat]!) ?g12) (oR 3 (c36 f19[i0.toNat]!) (oA 4 (.tup [.agg [.sl (List.map c46 (N4 f19[i0.toNat]!).1.adds),.sl (List.map c3 (N4 f19[i0.toNat]!).1.gone.vec),.sl (List.map A9 (N4 f19[i0.toNat]!).1.gone.cloud),.sl (List.map c54 (N4 f19[i0.toNat]!).1.recs)],.i .i64 ((N4 f19[i0.toNat]!).2)]) z0)))))))) ?_;rotate_left 2
 refine sn<|sq<|rG cx [1,3,4,7,9,6,10,8] [1,23,7,9,10] (fA (0≤i0) (fP (i0.toNat <(List.map c36 f19).length) (by(first | omega | (simp only [List.length_map];omega))) (fR 4 (fP (E.rowAt { ver:=0,ty:=36,k:=BK.row (4) (List.map c36 f19):Blk } i0.toNat (c36 f19[i0.toNat]!)) ?g13 (fP (0+(4:Nat)≤(c36 f19[i0.toNat]!).length) (by exact Nat.le_refl _) (fT (con60 (f19[i0.toNat]!) ?g15 ?g16) (oR 3 (c36 f19[i0.toNat]!) (oA 4 (.tup [.agg [.sl (List.map c46 (N4 f19[i0.toNat]!).1.adds),.sl (List.map c3 (N4 f19[i0.toNat]!).1.gone.vec),.sl (List.map A9 (N4 f19[i0.toNat]!).1.gone.cloud),.sl (List.map c54 (N4 f19[i0.toNat]!).1.recs)],.i .i64 ((N4 f19[i0.toNat]!).2)]) z0)))))))) ?_;rotate_left 3
 refine sn<|sq<|sq<|rG cx [1,3,4,7,79] [1,23,7] (tT 2 (A17:AV.b ((N4 f19[i0.toNat]!).2 !=(N4 f19[i0.toNat]!).2)=AV.b false) (fT (con61 ((N4 f19[i0.toNat]!).1) ((N4 f19[i0.toNat]!).1) ?g17 ?g18) (tQ 7 ((N4 f19[i0.toNat]!).1=(N4 f19[i0.toNat]!).1) (oA 6 (.b (decide ((N4 f19[i0.toNat]!).1=(N4 f19[i0.toNat]!).1))) z0)))) ?_;rotate_left 2
 refine sn<|A5d (¬(N4 f19[i0.toNat]!).1=(N4 f19[i0.toNat]!).1) (by kernel_rfl) (by kernel_rfl) (fun h27=>absurd h27 (fun hn=>hn rfl)) (fun h27=>?_)
 refine sK<|sn<|sq<|rA cx [1,3,4,109] [1,23] (fA (0≤i0) (fP (i0.toNat <(List.map c36 f19).length) (by(first | omega | (simp only [List.length_map];omega))) (fR 4 (fP (E.rowAt { ver:=0,ty:=36,k:=BK.row (4) (List.map c36 f19):Blk } i0.toNat (c36 f19[i0.toNat]!)) ?g19 (fP (0+(4:Nat)≤(c36 f19[i0.toNat]!).length) (by exact Nat.le_refl _) (fT (Be6 (f19[i0.toNat]!) ({ adds:=s13,gone:={ vec:=s14,cloud:=s15:Past },recs:=s16:Facts }) ?g21 ?g22) (fA (0≤i0) (fP (i0.toNat <(List.map c36 f19).length) (by(first | omega | (simp only [List.length_map];omega))) (fR 4 (fP (E.rowAt { ver:=0,ty:=36,k:=BK.row (4) (List.map c36 f19):Blk } i0.toNat (c36 f19[i0.toNat]!)) ?g23 (fP (0+(4:Nat)≤(c36 f19[i0.toNat]!).length) (by exact Nat.le_refl _) (fT (con63 (f19[i0.toNat]!) ({ adds:=s13,gone:={ vec:=s14,cloud:=s15:Past },recs:=s16:Facts }) ?g25 ?g26) (tT 14 (A93:(AV.b !A2p f19[i0.toNat]! { adds:=s13,gone:={ vec:=s14,cloud:=s15:Past },recs:=s16:Facts } == A2p f19[i0.toNat]! { adds:=s13,gone:={ vec:=s14,cloud:=s15:Past },recs:=s16:Facts })=AV.b false) (fA (0≤i0) (fP (i0.toNat <(List.map c36 f19).length) (by(first | omega | (simp only [List.length_map];omega))) (fR 4 (fP (E.rowAt { ver:=0,ty:=36,k:=BK.row (4) (List.map c36 f19):Blk } i0.toNat (c36 f19[i0.toNat]!)) ?g27 (fP (0+(4:Nat)≤(c36 f19[i0.toNat]!).length) (by exact Nat.le_refl _) (fT (Be6 (f19[i0.toNat]!) ((B9 f19[i0.toNat]!).1) ?g29 ?g30) (fA (0≤i0) (fP (i0.toNat <(List.map c36 f19).length) (by(first | omega | (simp only [List.length_map];omega))) (fR 4 (fP (E.rowAt { ver:=0,ty:=36,k:=BK.row (4) (List.map c36 f19):Blk } i0.toNat (c36 f19[i0.toNat]!)) ?g31 (fP (0+(4:Nat)≤(c36 f19[i0.toNat]!).length) (by exact Nat.le_refl _) (fT (con63 (f19[i0.toNat]!) ((B9 f19[i0.toNat]!).1) ?g33 ?g34) (tT 28 (A93:(AV.b !A2p f19[i0.toNat]! (B9 f19[i0.toNat]!).1 == A2p f19[i0.toNat]! (B9 f19[i0.toNat]!).1)=AV.b false) (oR 3 (c36 f19[i0.toNat]!) (oA 6 (.b (A2p f19[i0.toNat]! { adds:=s13,gone:={ vec:=s14,cloud:=s15:Past },recs:=s16:Facts })) (oR 10 (c36 f19[i0.toNat]!) (oA 13 (.b (A2p f19[i0.toNat]! { adds:=s13,gone:={ vec:=s14,cloud:=s15:Past },recs:=s16:Facts })) (oR 19 (c36 f19[i0.toNat]!) (oA 21 (.b (A2p f19[i0.toNat]! (B9 f19[i0.toNat]!).1)) (oR 25 (c36 f19[i0.toNat]!) (oA 27 (.b (A2p f19[i0.toNat]! (B9 f19[i0.toNat]!).1)) z0)))))))))))))))))))))))))))))))))) ?_;rotate_left 12
 refine sn<|L5 (by kernel_rfl) (by kernel_rfl)<|sK<|bN<|sn<|rG cx [1,3,4] [1,23] (tW 1 (i0+1) z0)<|sn<|nX ((i0+1,ff1,ff2,ff3,ff4,gg5,gg6,gg7,gg8,h9,h10,h11,h12,s13,s14,s15,s16,d17,s18,f19)) (show(3-(i0+1)).toNat <(3-i0).toNat from ?g35) (show Bf8 x (i0+1) ff1 ff2 ff3 ff4 gg5 gg6 gg7 gg8 h9 h10 h11 h12 s13 s14 s15 s16 d17 s18 f19 from ?g36);rotate_left 2
 refine eX 0<|nE<|nE<|bH<|sn<|sq<|rG cx [1,11,12] [1,11] (fT (Be4 ({ adds:=s13,gone:={ vec:=s14,cloud:=s15:Past },recs:=s16:Facts }) ?g37) (oA 2 (.tup [.agg [.sl (List.map c46 (E7 { adds:=s13,gone:={ vec:=s14,cloud:=s15:Past },recs:=s16:Facts }).1.adds),.sl (List.map c3 (E7 { adds:=s13,gone:={ vec:=s14,cloud:=s15:Past },recs:=s16:Facts }).1.gone.vec),.sl (List.map A9 (E7 { adds:=s13,gone:={ vec:=s14,cloud:=s15:Past },recs:=s16:Facts }).1.gone.cloud),.sl (List.map c54 (E7 { adds:=s13,gone:={ vec:=s14,cloud:=s15:Past },recs:=s16:Facts }).1.recs)],.i .i64 ((E7 { adds:=s13,gone:={ vec:=s14,cloud:=s15:Past },recs:=s16:Facts }).2)]) z0)) ?_;rotate_left
 refine sn<|sq<|rG cx [11,12,13,14] [11,13] (fT (con65 ({ adds:=s13,gone:={ vec:=s14,cloud:=s15:Past },recs:=s16:Facts }) ?g38 ?g39) (oA 2 (.tup [.agg [.sl (List.map c46 (E7 { adds:=s13,gone:={ vec:=s14,cloud:=s15:Past },recs:=s16:Facts }).1.adds),.sl (List.map c3 (E7 { adds:=s13,gone:={ vec:=s14,cloud:=s15:Past },recs:=s16:Facts }).1.gone.vec),.sl (List.map A9 (E7 { adds:=s13,gone:={ vec:=s14,cloud:=s15:Past },recs:=s16:Facts }).1.gone.cloud),.sl (List.map c54 (E7 { adds:=s13,gone:={ vec:=s14,cloud:=s15:Past },recs:=s16:Facts }).1.recs)],.i .i64 ((E7 { adds:=s13,gone:={ vec:=s14,cloud:=s15:Past },recs:=s16:Facts }).2)]) z0)) ?_;rotate_left 2
 refine sn<|sq<|rG cx [2] [] (tT 2 (A16:AV.b ((E7 { adds:=s13,gone:={ vec:=s14,cloud:=s15:Past },recs:=s16:Facts }).2 ==(E7 { adds:=s13,gone:={ vec:=s14,cloud:=s15:Past },recs:=s16:Facts }).2)=AV.b true) (fT (con61 ((E7 { adds:=s13,gone:={ vec:=s14,cloud:=s15:Past },recs:=s16:Facts }).1) ((E7 { adds:=s13,gone:={ vec:=s14,cloud:=s15:Past },recs:=s16:Facts }).1) ?g40 ?g41) (oA 6 (.b (decide ((E7 { adds:=s13,gone:={ vec:=s14,cloud:=s15:Past },recs:=s16:Facts }).1=(E7 { adds:=s13,gone:={ vec:=s14,cloud:=s15:Past },recs:=s16:Facts }).1))) z0))) ?_;rotate_left 2
 refine sn<|rT<|qR (.b (decide ((E7 { adds:=s13,gone:={ vec:=s14,cloud:=s15:Past },recs:=s16:Facts }).1=(E7 { adds:=s13,gone:={ vec:=s14,cloud:=s15:Past },recs:=s16:Facts }).1))) (.eq (by exact congrArg AV.b (decide_eq_true rfl)))
 case g1=>revert i0 ff1 ff2 ff3 ff4 gg5 gg6 gg7 gg8 h9 h10 h11 h12 s13 s14 s15 s16 d17 s18 f19 h21 h22 h23 h24 h25;intro i f1 f2 f3 f4 g1 g2 g3 g4 h1 h2 h3 h4 s1 s2 s3 s4 ds sk l e d h0 h1 h2;obtain⟨⟨rfl,rfl,rfl,rfl⟩,⟨rfl,rfl,rfl,rfl⟩,⟨rfl,rfl,rfl,rfl⟩,⟨rfl,rfl,rfl,rfl⟩,rfl,rfl⟩:=e;subst d;exact B39 h0 h2
 case g3=>revert i0 ff1 ff2 ff3 ff4 gg5 gg6 gg7 gg8 h9 h10 h11 h12 s13 s14 s15 s16 d17 s18 f19 h21 h22 h23 h24 h25;intro i f1 f2 f3 f4 g1 g2 g3 g4 h1 h2 h3 h4 s1 s2 s3 s4 ds sk l e d h0 h1 h2;obtain⟨⟨rfl,rfl,rfl,rfl⟩,⟨rfl,rfl,rfl,rfl⟩,⟨rfl,rfl,rfl,rfl⟩,⟨rfl,rfl,rfl,rfl⟩,rfl,rfl⟩:=e;subst d;exact A h0 h2
 case g4=>revert i0 ff1 ff2 ff3 ff4 gg5 gg6 gg7 gg8 h9 h10 h11 h12 s13 s14 s15 s16 d17 s18 f19 h21 h22 h23 h24 h25;intro i f1 f2 f3 f4 g1 g2 g3 g4 h1 h2 h3 h4 s1 s2 s3 s4 ds sk l e d h0 h1 h2;obtain⟨⟨rfl,rfl,rfl,rfl⟩,⟨rfl,rfl,rfl,rfl⟩,⟨rfl,rfl,rfl,rfl⟩,⟨rfl,rfl,rfl,rfl⟩,rfl,rfl⟩:=e;subst d;exact B39 h0 h2
 case g6=>revert i0 ff1 ff2 ff3 ff4 gg5 gg6 gg7 gg8 h9 h10 h11 h12 s13 s14 s15 s16 d17 s18 f19 h21 h22 h23 h24 h25;intro i f1 f2 f3 f4 g1 g2 g3 g4 h1 h2 h3 h4 s1 s2 s3 s4 ds sk l e d h0 h1 h2;obtain⟨⟨rfl,rfl,rfl,rfl⟩,⟨rfl,rfl,rfl,rfl⟩,⟨rfl,rfl,rfl,rfl⟩,⟨rfl,rfl,rfl,rfl⟩,rfl,rfl⟩:=e;subst d;exact(A h0 h2).1
 case g7=>revert i0 ff1 ff2 ff3 ff4 gg5 gg6 gg7 gg8 h9 h10 h11 h12 s13 s14 s15 s16 d17 s18 f19 h21 h22 h23 h24 h25;intro i f1 f2 f3 f4 g1 g2 g3 g4 h1 h2 h3 h4 s1 s2 s3 s4 ds sk l e d h0 h1 h2;obtain⟨⟨rfl,rfl,rfl,rfl⟩,⟨rfl,rfl,rfl,rfl⟩,⟨rfl,rfl,rfl,rfl⟩,⟨rfl,rfl,rfl,rfl⟩,rfl,rfl⟩:=e;subst d;exact A2 h0 h2
 case g8=>revert i0 ff1 ff2 ff3 ff4 gg5 gg6 gg7 gg8 h9 h10 h11 h12 s13 s14 s15 s16 d17 s18 f19 h21 h22 h23 h24 h25;intro i f1 f2 f3 f4 g1 g2 g3 g4 h1 h2 h3 h4 s1 s2 s3 s4 ds sk l e d h0 h1 h2;obtain⟨⟨rfl,rfl,rfl,rfl⟩,⟨rfl,rfl,rfl,rfl⟩,⟨rfl,rfl,rfl,rfl⟩,⟨rfl,rfl,rfl,rfl⟩,rfl,rfl⟩:=e;subst d;exact(B2w (A h0 h2)).1
 case g9=>revert i0 ff1 ff2 ff3 ff4 gg5 gg6 gg7 gg8 h9 h10 h11 h12 s13 s14 s15 s16 d17 s18 f19 h21 h22 h23 h24 h25;intro i f1 f2 f3 f4 g1 g2 g3 g4 h1 h2 h3 h4 s1 s2 s3 s4 ds sk l e d h0 h1 h2;obtain⟨⟨rfl,rfl,rfl,rfl⟩,⟨rfl,rfl,rfl,rfl⟩,⟨rfl,rfl,rfl,rfl⟩,⟨rfl,rfl,rfl,rfl⟩,rfl,rfl⟩:=e;subst d;exact Nat.le_trans (B2w (A h0 h2)).2.1 (by decide)
 case g10=>revert i0 ff1 ff2 ff3 ff4 gg5 gg6 gg7 gg8 h9 h10 h11 h12 s13 s14 s15 s16 d17 s18 f19 h21 h22 h23 h24 h25 h26;intro i f1 f2 f3 f4 g1 g2 g3 g4 h1 h2 h3 h4 s1 s2 s3 s4 ds sk l e d h0 h1 h2 _;obtain⟨⟨rfl,rfl,rfl,rfl⟩,⟨rfl,rfl,rfl,rfl⟩,⟨rfl,rfl,rfl,rfl⟩,⟨rfl,rfl,rfl,rfl⟩,rfl,rfl⟩:=e;subst d;exact B39 h0 h2
 case g12=>revert i0 ff1 ff2 ff3 ff4 gg5 gg6 gg7 gg8 h9 h10 h11 h12 s13 s14 s15 s16 d17 s18 f19 h21 h22 h23 h24 h25 h26;intro i f1 f2 f3 f4 g1 g2 g3 g4 h1 h2 h3 h4 s1 s2 s3 s4 ds sk l e d h0 h1 h2 _;obtain⟨⟨rfl,rfl,rfl,rfl⟩,⟨rfl,rfl,rfl,rfl⟩,⟨rfl,rfl,rfl,rfl⟩,⟨rfl,rfl,rfl,rfl⟩,rfl,rfl⟩:=e;subst d;exact A h0 h2
 case g13=>revert i0 ff1 ff2 ff3 ff4 gg5 gg6 gg7 gg8 h9 h10 h11 h12 s13 s14 s15 s16 d17 s18 f19 h21 h22 h23 h24 h25 h26;intro i f1 f2 f3 f4 g1 g2 g3 g4 h1 h2 h3 h4 s1 s2 s3 s4 ds sk l e d h0 h1 h2 _;obtain⟨⟨rfl,rfl,rfl,rfl⟩,⟨rfl,rfl,rfl,rfl⟩,⟨rfl,rfl,rfl,rfl⟩,⟨rfl,rfl,rfl,rfl⟩,rfl,rfl⟩:=e;subst d;exact B39 h0 h2
 case g15=>revert i0 ff1 ff2 ff3 ff4 gg5 gg6 gg7 gg8 h9 h10 h11 h12 s13 s14 s15 s16 d17 s18 f19 h21 h22 h23 h24 h25 h26;intro i f1 f2 f3 f4 g1 g2 g3 g4 h1 h2 h3 h4 s1 s2 s3 s4 ds sk l e d h0 h1 h2 _;obtain⟨⟨rfl,rfl,rfl,rfl⟩,⟨rfl,rfl,rfl,rfl⟩,⟨rfl,rfl,rfl,rfl⟩,⟨rfl,rfl,rfl,rfl⟩,rfl,rfl⟩:=e;subst d;exact(A h0 h2).1
 case g16=>revert i0 ff1 ff2 ff3 ff4 gg5 gg6 gg7 gg8 h9 h10 h11 h12 s13 s14 s15 s16 d17 s18 f19 h21 h22 h23 h24 h25 h26;intro i f1 f2 f3 f4 g1 g2 g3 g4 h1 h2 h3 h4 s1 s2 s3 s4 ds sk l e d h0 h1 h2 _;obtain⟨⟨rfl,rfl,rfl,rfl⟩,⟨rfl,rfl,rfl,rfl⟩,⟨rfl,rfl,rfl,rfl⟩,⟨rfl,rfl,rfl,rfl⟩,rfl,rfl⟩:=e;subst d;exact A2 h0 h2
 case g17=>revert i0 ff1 ff2 ff3 ff4 gg5 gg6 gg7 gg8 h9 h10 h11 h12 s13 s14 s15 s16 d17 s18 f19 h21 h22 h23 h24 h25 h26;intro i f1 f2 f3 f4 g1 g2 g3 g4 h1 h2 h3 h4 s1 s2 s3 s4 ds sk l e d h0 h1 h2 _;obtain⟨⟨rfl,rfl,rfl,rfl⟩,⟨rfl,rfl,rfl,rfl⟩,⟨rfl,rfl,rfl,rfl⟩,⟨rfl,rfl,rfl,rfl⟩,rfl,rfl⟩:=e;subst d;exact B2y.1
 case g18=>revert i0 ff1 ff2 ff3 ff4 gg5 gg6 gg7 gg8 h9 h10 h11 h12 s13 s14 s15 s16 d17 s18 f19 h21 h22 h23 h24 h25 h26;intro i f1 f2 f3 f4 g1 g2 g3 g4 h1 h2 h3 h4 s1 s2 s3 s4 ds sk l e d h0 h1 h2 _;obtain⟨⟨rfl,rfl,rfl,rfl⟩,⟨rfl,rfl,rfl,rfl⟩,⟨rfl,rfl,rfl,rfl⟩,⟨rfl,rfl,rfl,rfl⟩,rfl,rfl⟩:=e;subst d;exact Nat.le_trans B2y.2 (Nat.le_trans (A h0 h2).2.1 (by decide))
 case g19=>revert i0 ff1 ff2 ff3 ff4 gg5 gg6 gg7 gg8 h9 h10 h11 h12 s13 s14 s15 s16 d17 s18 f19 h21 h22 h23 h24 h25 h26 h27;intro i f1 f2 f3 f4 g1 g2 g3 g4 h1 h2 h3 h4 s1 s2 s3 s4 ds sk l e d h0 h1 h2 _ _;obtain⟨⟨rfl,rfl,rfl,rfl⟩,⟨rfl,rfl,rfl,rfl⟩,⟨rfl,rfl,rfl,rfl⟩,⟨rfl,rfl,rfl,rfl⟩,rfl,rfl⟩:=e;subst d;exact B39 h0 h2
 case g21=>revert i0 ff1 ff2 ff3 ff4 gg5 gg6 gg7 gg8 h9 h10 h11 h12 s13 s14 s15 s16 d17 s18 f19 h21 h22 h23 h24 h25 h26 h27;intro i f1 f2 f3 f4 g1 g2 g3 g4 h1 h2 h3 h4 s1 s2 s3 s4 ds sk l e d h0 h1 h2 _ _;obtain⟨⟨rfl,rfl,rfl,rfl⟩,⟨rfl,rfl,rfl,rfl⟩,⟨rfl,rfl,rfl,rfl⟩,⟨rfl,rfl,rfl,rfl⟩,rfl,rfl⟩:=e;subst d;exact A h0 h2
 case g22=>revert i0 ff1 ff2 ff3 ff4 gg5 gg6 gg7 gg8 h9 h10 h11 h12 s13 s14 s15 s16 d17 s18 f19 h21 h22 h23 h24 h25 h26 h27;intro i f1 f2 f3 f4 g1 g2 g3 g4 h1 h2 h3 h4 s1 s2 s3 s4 ds sk l e d h0 h1 h2 _ _;obtain⟨⟨rfl,rfl,rfl,rfl⟩,⟨rfl,rfl,rfl,rfl⟩,⟨rfl,rfl,rfl,rfl⟩,⟨rfl,rfl,rfl,rfl⟩,rfl,rfl⟩:=e;subst d;exact A6c hs
 case g23=>revert i0 ff1 ff2 ff3 ff4 gg5 gg6 gg7 gg8 h9 h10 h11 h12 s13 s14 s15 s16 d17 s18 f19 h21 h22 h23 h24 h25 h26 h27;intro i f1 f2 f3 f4 g1 g2 g3 g4 h1 h2 h3 h4 s1 s2 s3 s4 ds sk l e d h0 h1 h2 _ _;obtain⟨⟨rfl,rfl,rfl,rfl⟩,⟨rfl,rfl,rfl,rfl⟩,⟨rfl,rfl,rfl,rfl⟩,⟨rfl,rfl,rfl,rfl⟩,rfl,rfl⟩:=e;subst d;exact B39 h0 h2
 case g25=>revert i0 ff1 ff2 ff3 ff4 gg5 gg6 gg7 gg8 h9 h10 h11 h12 s13 s14 s15 s16 d17 s18 f19 h21 h22 h23 h24 h25 h26 h27;intro i f1 f2 f3 f4 g1 g2 g3 g4 h1 h2 h3 h4 s1 s2 s3 s4 ds sk l e d h0 h1 h2 _ _;obtain⟨⟨rfl,rfl,rfl,rfl⟩,⟨rfl,rfl,rfl,rfl⟩,⟨rfl,rfl,rfl,rfl⟩,⟨rfl,rfl,rfl,rfl⟩,rfl,rfl⟩:=e;subst d;exact(A h0 h2).1
 case g26=>revert i0 ff1 ff2 ff3 ff4 gg5 gg6 gg7 gg8 h9 h10 h11 h12 s13 s14 s15 s16 d17 s18 f19 h21 h22 h23 h24 h25 h26 h27;intro i f1 f2 f3 f4 g1 g2 g3 g4 h1 h2 h3 h4 s1 s2 s3 s4 ds sk l e d h0 h1 h2 _ _;obtain⟨⟨rfl,rfl,rfl,rfl⟩,⟨rfl,rfl,rfl,rfl⟩,⟨rfl,rfl,rfl,rfl⟩,⟨rfl,rfl,rfl,rfl⟩,rfl,rfl⟩:=e;subst d;exact A2 h0 h2
 case g27=>revert i0 ff1 ff2 ff3 ff4 gg5 gg6 gg7 gg8 h9 h10 h11 h12 s13 s14 s15 s16 d17 s18 f19 h21 h22 h23 h24 h25 h26 h27;intro i f1 f2 f3 f4 g1 g2 g3 g4 h1 h2 h3 h4 s1 s2 s3 s4 ds sk l e d h0 h1 h2 _ _;obtain⟨⟨rfl,rfl,rfl,rfl⟩,⟨rfl,rfl,rfl,rfl⟩,⟨rfl,rfl,rfl,rfl⟩,⟨rfl,rfl,rfl,rfl⟩,rfl,rfl⟩:=e;subst d;exact B39 h0 h2
 case g29=>revert i0 ff1 ff2 ff3 ff4 gg5 gg6 gg7 gg8 h9 h10 h11 h12 s13 s14 s15 s16 d17 s18 f19 h21 h22 h23 h24 h25 h26 h27;intro i f1 f2 f3 f4 g1 g2 g3 g4 h1 h2 h3 h4 s1 s2 s3 s4 ds sk l e d h0 h1 h2 _ _;obtain⟨⟨rfl,rfl,rfl,rfl⟩,⟨rfl,rfl,rfl,rfl⟩,⟨rfl,rfl,rfl,rfl⟩,⟨rfl,rfl,rfl,rfl⟩,rfl,rfl⟩:=e;subst d;exact A h0 h2
 case g30=>revert i0 ff1 ff2 ff3 ff4 gg5 gg6 gg7 gg8 h9 h10 h11 h12 s13 s14 s15 s16 d17 s18 f19 h21 h22 h23 h24 h25 h26 h27;intro i f1 f2 f3 f4 g1 g2 g3 g4 h1 h2 h3 h4 s1 s2 s3 s4 ds sk l e d h0 h1 h2 _ _;obtain⟨⟨rfl,rfl,rfl,rfl⟩,⟨rfl,rfl,rfl,rfl⟩,⟨rfl,rfl,rfl,rfl⟩,⟨rfl,rfl,rfl,rfl⟩,rfl,rfl⟩:=e;subst d;exact B2w (A h0 h2)
 case g31=>revert i0 ff1 ff2 ff3 ff4 gg5 gg6 gg7 gg8 h9 h10 h11 h12 s13 s14 s15 s16 d17 s18 f19 h21 h22 h23 h24 h25 h26 h27;intro i f1 f2 f3 f4 g1 g2 g3 g4 h1 h2 h3 h4 s1 s2 s3 s4 ds sk l e d h0 h1 h2 _ _;obtain⟨⟨rfl,rfl,rfl,rfl⟩,⟨rfl,rfl,rfl,rfl⟩,⟨rfl,rfl,rfl,rfl⟩,⟨rfl,rfl,rfl,rfl⟩,rfl,rfl⟩:=e;subst d;exact B39 h0 h2
 case g33=>revert i0 ff1 ff2 ff3 ff4 gg5 gg6 gg7 gg8 h9 h10 h11 h12 s13 s14 s15 s16 d17 s18 f19 h21 h22 h23 h24 h25 h26 h27;intro i f1 f2 f3 f4 g1 g2 g3 g4 h1 h2 h3 h4 s1 s2 s3 s4 ds sk l e d h0 h1 h2 _ _;obtain⟨⟨rfl,rfl,rfl,rfl⟩,⟨rfl,rfl,rfl,rfl⟩,⟨rfl,rfl,rfl,rfl⟩,⟨rfl,rfl,rfl,rfl⟩,rfl,rfl⟩:=e;subst d;exact(A h0 h2).1
 case g34=>revert i0 ff1 ff2 ff3 ff4 gg5 gg6 gg7 gg8 h9 h10 h11 h12 s13 s14 s15 s16 d17 s18 f19 h21 h22 h23 h24 h25 h26 h27;intro i f1 f2 f3 f4 g1 g2 g3 g4 h1 h2 h3 h4 s1 s2 s3 s4 ds sk l e d h0 h1 h2 _ _;obtain⟨⟨rfl,rfl,rfl,rfl⟩,⟨rfl,rfl,rfl,rfl⟩,⟨rfl,rfl,rfl,rfl⟩,⟨rfl,rfl,rfl,rfl⟩,rfl,rfl⟩:=e;subst d;exact A2 h0 h2
 case g35=>revert i0 ff1 ff2 ff3 ff4 gg5 gg6 gg7 gg8 h9 h10 h11 h12 s13 s14 s15 s16 d17 s18 f19 h21 h22 h23 h24 h25 h26 h27;intro i f1 f2 f3 f4 g1 g2 g3 g4 h1 h2 h3 h4 s1 s2 s3 s4 ds sk l e d h0 h1 h2 _ _;obtain⟨⟨rfl,rfl,rfl,rfl⟩,⟨rfl,rfl,rfl,rfl⟩,⟨rfl,rfl,rfl,rfl⟩,⟨rfl,rfl,rfl,rfl⟩,rfl,rfl⟩:=e;subst d;have h2:i < 3:=h2;omega
 case g36=>revert i0 ff1 ff2 ff3 ff4 gg5 gg6 gg7 gg8 h9 h10 h11 h12 s13 s14 s15 s16 d17 s18 f19 h21 h22 h23 h24 h25 h26 h27;intro i f1 f2 f3 f4 g1 g2 g3 g4 h1 h2 h3 h4 s1 s2 s3 s4 ds sk l e d h0 h1 h2 _ _;obtain⟨⟨rfl,rfl,rfl,rfl⟩,⟨rfl,rfl,rfl,rfl⟩,⟨rfl,rfl,rfl,rfl⟩,⟨rfl,rfl,rfl,rfl⟩,rfl,rfl⟩:=e;subst d;have h2:i < 3:=h2;exact⟨⟨⟨rfl,rfl,rfl,rfl⟩,⟨rfl,rfl,rfl,rfl⟩,⟨rfl,rfl,rfl,rfl⟩,⟨rfl,rfl,rfl,rfl⟩,rfl,rfl⟩,rfl,by omega,by omega⟩
 case g37=>revert i0 ff1 ff2 ff3 ff4 gg5 gg6 gg7 gg8 h9 h10 h11 h12 s13 s14 s15 s16 d17 s18 f19 h21 h22 h23 h24 h25;intro i f1 f2 f3 f4 g1 g2 g3 g4 h1 h2 h3 h4 s1 s2 s3 s4 ds sk l e d h0 h1 h2;obtain⟨⟨rfl,rfl,rfl,rfl⟩,⟨rfl,rfl,rfl,rfl⟩,⟨rfl,rfl,rfl,rfl⟩,⟨rfl,rfl,rfl,rfl⟩,rfl,rfl⟩:=e;subst d;exact A6c hs
 case g38=>revert i0 ff1 ff2 ff3 ff4 gg5 gg6 gg7 gg8 h9 h10 h11 h12 s13 s14 s15 s16 d17 s18 f19 h21 h22 h23 h24 h25;intro i f1 f2 f3 f4 g1 g2 g3 g4 h1 h2 h3 h4 s1 s2 s3 s4 ds sk l e d h0 h1 h2;obtain⟨⟨rfl,rfl,rfl,rfl⟩,⟨rfl,rfl,rfl,rfl⟩,⟨rfl,rfl,rfl,rfl⟩,⟨rfl,rfl,rfl,rfl⟩,rfl,rfl⟩:=e;subst d;exact hs.1
 case g39=>revert i0 ff1 ff2 ff3 ff4 gg5 gg6 gg7 gg8 h9 h10 h11 h12 s13 s14 s15 s16 d17 s18 f19 h21 h22 h23 h24 h25;intro i f1 f2 f3 f4 g1 g2 g3 g4 h1 h2 h3 h4 s1 s2 s3 s4 ds sk l e d h0 h1 h2;obtain⟨⟨rfl,rfl,rfl,rfl⟩,⟨rfl,rfl,rfl,rfl⟩,⟨rfl,rfl,rfl,rfl⟩,⟨rfl,rfl,rfl,rfl⟩,rfl,rfl⟩:=e;subst d;exact ks
 case g40=>revert i0 ff1 ff2 ff3 ff4 gg5 gg6 gg7 gg8 h9 h10 h11 h12 s13 s14 s15 s16 d17 s18 f19 h21 h22 h23 h24 h25;intro i f1 f2 f3 f4 g1 g2 g3 g4 h1 h2 h3 h4 s1 s2 s3 s4 ds sk l e d h0 h1 h2;obtain⟨⟨rfl,rfl,rfl,rfl⟩,⟨rfl,rfl,rfl,rfl⟩,⟨rfl,rfl,rfl,rfl⟩,⟨rfl,rfl,rfl,rfl⟩,rfl,rfl⟩:=e;subst d;exact B2x.1
 case g41=>revert i0 ff1 ff2 ff3 ff4 gg5 gg6 gg7 gg8 h9 h10 h11 h12 s13 s14 s15 s16 d17 s18 f19 h21 h22 h23 h24 h25;intro i f1 f2 f3 f4 g1 g2 g3 g4 h1 h2 h3 h4 s1 s2 s3 s4 ds sk l e d h0 h1 h2;obtain⟨⟨rfl,rfl,rfl,rfl⟩,⟨rfl,rfl,rfl,rfl⟩,⟨rfl,rfl,rfl,rfl⟩,⟨rfl,rfl,rfl,rfl⟩,rfl,rfl⟩:=e;subst d;exact Nat.le_trans B2x.2 (Nat.le_trans hs.2.1 (by decide))
end Go.Proofs.YtphcaholhacnpaaGreat
namespace Go.E
open Go.RowKit Go.ChangeShapes Go.WideShapes Go.ChangeAt
def TyA(T:Tab)(L n t:Nat)(av:AV):Prop :=
 match look T t with
 | some ti=>if ti.isAgg then ∃ cs,av=.agg cs∧TyC T L n t cs else TyC T L n t [av]
 | none=>False
def B6m(T:Tab)(L n:Nat):List Nat→List AV→Prop
 | [],[]=>True
 | t :: ts,a :: aL=>TyA T L n t a∧B6m T L n ts aL
 | _,_=>False
section
variable {P : Program} {T : Tab} {H : Type} {enc : TypeId × Value → H} {W : World} {spare : Nat → Bool} {held : Bool}
theorem A58(hT:TabOk P T){n t:Nat}{ti:TI}(hti:look T t=some ti)(hp:L9 T n t=true)(hg:ti.isAgg=false){r:Reach}{base:Nat}{v:Value}(hv:Value.okWide P W r base t v):v.oneCell'=true∨∃ x,v=x∧v.cells=#[v]:=by
 have hu:=(hT t ti hti).1
 unfold Value.okWide at hv
 rw[hu]at hv
 cases n with
 | zero=>simp [L9]at hp
 | succ n =>
  unfold L9 at hp
  rw[hti]at hp
  simp only at hp
  unfold TI.isAgg at hg
  cases hd:ti.desc with
  | bool=>rw[hd]at hv;simp only [Cell.okWide,hu,hd,Cell.ok]at hv;cases v <;> simp_all [Value.oneCell',Value.cells]
  | int k=>rw[hd]at hv;simp only [Cell.okWide,hu,hd,Cell.ok]at hv;cases v <;> simp_all [Value.oneCell',Value.cells]
  | string=>rw[hd]at hv;simp only [Cell.okWide,hu,hd,Cell.ok]at hv;cases v <;> simp_all [Value.oneCell',Value.cells]
  | slice e=>rw[hd]at hv;simp only [Cell.okWide,hu,hd,Cell.ok]at hv;cases v <;> simp_all [Value.oneCell',Value.cells]
  | struct fs=>rw[hd]at hg;simp at hg
  | array k e=>rw[hd]at hg;simp at hg
  | _=>rw[hd]at hp;first | exact absurd hp Bool.false_ne_true | cases hp
theorem B6n(hT:TabOk P T){n t:Nat}(hp:L9 T n t=true){r:Reach}{base:Nat}{v:Value}{d:DataW H}{ps:List MemPlace}(hv:Value.okWide P W r base t v)
  (hd:DataW.Trod enc P W 0 spare held t v d ps) (hw:∀ m∈d.weights P t,m≤reachBytes) {L:Nat} (hL:bulkD d≤L):∃ av,RelV0 (fun k=>k < W.heap.size) W av v∧TyA T L n t av:=by
 obtain⟨ti,hti⟩:=R9 hp
 obtain⟨fuel,hf⟩:=hd
 obtain⟨avs,hc,hty⟩:=B4g hT n t hp fuel _ _ _ hf hw L hL
 by_cases hg:ti.isAgg=true
 ·have hu:=(hT t ti hti).1
  have hv':=hv
  unfold Value.okWide at hv'
  rw[hu]at hv'
  have:∃ cs,v=.agg cs:=by
   unfold TI.isAgg at hg
   split at hg
   ·rename_i fs hd;rw[hd]at hv';obtain⟨cs,h,_⟩:=hv';exact⟨cs,h⟩
   ·rename_i k e hd;rw[hd]at hv';obtain⟨cs,h,_⟩:=hv';exact⟨cs,h⟩
   ·cases hg
  obtain⟨cs,rfl⟩:=this
  refine⟨.agg avs,?_,by unfold TyA;rw[hti];simp only [hg,if_true];exact⟨avs,rfl,hty⟩⟩
  have:=RelV0.agg (S:=fun k=>k < W.heap.size) (w:=W) avs cs.toList (by rw[hc.1];simp [Value.cells]) (fun u hu=>hc.2.1 u (by simpa [Value.cells]using hu)) (fun j a u ha hu=>hc.2.2 j a u ha (by simpa [Value.cells]using hu))
  simpa using this
 ·have hg':ti.isAgg=false:=by simpa using hg
  have h1:v.cells.toList=[v]:=by
   rcases A58 hT hti hp hg' hv with h | ⟨_,_,h⟩
   ·cases v <;> simp_all [Value.oneCell',Value.cells]
   ·rw[h]
  rw[h1]at hc
  obtain⟨c1,_,c3⟩:=hc
  match avs,c1,c3,hty with
  | [a],_,c3,hty=>exact⟨a,c3 0 a v rfl rfl,by unfold TyA;rw[hti];simp only [hg',Bool.false_eq_true,if_false];exact hty⟩
theorem Ac2(hT:TabOk P T){L n:Nat}{r:Reach}{base:Nat}:∀(ts:List Nat) (vs:List Value) (ds:List (DataW H)) (ps:List MemPlace),(∀ t∈ts,L9 T n t=true) →
  (∀(j:Nat) t v,ts[j]?=some t→vs[j]?=some v→Value.okWide P W r base t v)→DataW.TrodAll enc P W 0 spare held ts vs ds ps→(∀ m∈DataW.weightsEach P ts ds,m≤reachBytes)→bulkDs ds≤L →
  ∃ avs:List AV,avs.length=vs.length∧(∀(j:Nat) (a:AV) (u:Value),avs[j]?=some a→vs[j]?=some u→RelV0 (fun k=>k < W.heap.size) W a u)∧B6m T L n ts avs∧ds.length=ts.length
 | [],[],[],ps,_,_,_,_,_=>⟨[],rfl,fun j a u ha=>by simp at ha,trivial,rfl⟩
 | t :: ts,v :: vs,d :: ds,ps,hp,hv,hA,hw,hL=>by
  simp only [bulkDs]at hL
  obtain⟨p,q,h1,h2,_⟩:=hA
  obtain⟨a,e1,e2⟩:=B6n hT (hp t (by simp)) (hv 0 t v rfl rfl) h1 (fun m hm=>hw m (by simp only [DataW.weightsEach,List.mem_append];exact .inl hm)) (L:=L) (by omega)
  obtain⟨aL,f1,f2,f3,f4⟩:=Ac2 (L:=L) hT ts vs ds q (fun t ht=>hp t (List.mem_cons_of_mem _ ht)) (fun j t v ht hv'=>hv (j+1) t v (by simpa using ht) (by simpa using hv')) h2 (fun m hm=>hw m (by simp only [DataW.weightsEach,List.mem_append];exact .inr hm)) (by omega)
  refine⟨a :: aL,by simp [f1],fun j b u hb hu=>?_,⟨e2,f3⟩,by simp [f4]⟩
  cases j with
  | zero=>simp at hb hu;subst hb hu;exact e1
  | succ j=>exact f2 j b u (by simpa using hb) (by simpa using hu)
 | [],_ :: _,_,_,_,_,hA,_,_=>hA.elim
 | [],[],_ :: _,_,_,_,hA,_,_=>hA.elim
 | _ :: _,[],_,_,_,_,hA,_,_=>hA.elim
 | _ :: _,_ :: _,[],_,_,_,hA,_,_=>hA.elim
theorem A1r(hl:laidOutB P=true){W':World}(hb:Below W.heap.size W W'):∀(ts:List Nat) (vs:List Value) (ds:List (DataW H)) (ps:List MemPlace),(∀ t∈ts,P.readableRec t=true∧t < P.types.size) →
  (∀ x∈ps,x.block < W.heap.size)→DataW.TrodAll enc P W 0 (fun _=>true) true ts vs ds ps→DataW.TrodAll enc P W' 0 (fun b=>decide (b < W.heap.size)) true ts vs ds ps
 | [],[],[],ps,_,_,h=>h
 | t :: ts,v :: vs,d :: ds,ps,hr,hlt,h=>by
  obtain⟨p,q,h1,h2,rfl⟩:=h
  exact⟨p,q,Below.trod hl (hr t (by simp)).1 (hr t (by simp)).2 h1 hb (fun x hx=>hlt x (List.mem_append_left _ hx)),
   A1r hl hb ts vs ds q (fun t ht=>hr t (List.mem_cons_of_mem _ ht)) (fun x hx=>hlt x (List.mem_append_right _ hx)) h2,rfl⟩
 | [],_ :: _,_,_,_,_,hA=>hA.elim
 | [],[],_ :: _,_,_,_,hA=>hA.elim
 | _ :: _,[],_,_,_,_,hA=>hA.elim
 | _ :: _,_ :: _,[],_,_,_,hA=>hA.elim
end
theorem B6o{T:Tab}{C:Checked}{f:FuncId}{fn:Func}{s:ChangeSpec}{H:Type}{enc:TypeId×Value→H}(ts:List Nat)(tb L n:Nat)
  (hT:TabOk C.prog T) (hl:laidOutB C.prog=true)
  (hts:fn.params=ts.toArray) (htb:fn.resultTypes=#[tb]) (hub:C.prog.underlying tb=some .bool) (hpl:ts.all (fun t=>L9 T n t && C.prog.readableRec t && Nat.blt t C.prog.types.size)=true)
  (hvars:s.vars=[]) (hspec:∀ ds:List (DataW H),ds.length=ts.length→s.fn H (ds++[])={ results:=[.lit (.bool true)],args:=ds })
  (hcon:∀ avs,B6m T L n ts avs→Con C.prog f avs (.b true)) {W:World} {base:Nat} {args:Array Value} {ds gs:List (DataW H)} {before:List MemPlace} {us:List Nat}
  (hval:∀(j:Nat) t v,fn.params[j]?=some t→args[j]?=some v→Value.okWide C.prog W .any base t v) (hW:DataW.Whole enc C.prog fn.params.toList s.vars false W args.toList ds gs before)
  (hsz:(DataW.weightsEach C.prog (fn.params.toList++us) (ds++gs)).all (·≤reachBytes)=true) (hbk:bulkDs (ds++gs)≤L) :
  Calls C.prog f args W fun e W'=>∃ v,e=.returned v∧s.post enc C.prog fn false true false false W args v W':=by
 have hW':=hW
 obtain⟨p,q,hA,hV,rfl,_,_⟩:=hW
 rw[hvars]at hV
 obtain⟨rfl,rfl⟩:=trodVars_none hV
 rw[List.append_nil]at hW' hbk
 have hpars:fn.params.toList=ts:=by rw[hts]
 have hA':DataW.TrodAll enc C.prog W 0 (fun _=>true) true ts args.toList ds p:=by rw[← hpars];exact hA
 have hpl':∀ t∈ts,L9 T n t=true∧C.prog.readableRec t=true∧t < C.prog.types.size:=by
  intro t ht
  have:=List.all_eq_true.1 hpl t ht
  simp only [Bool.and_eq_true]at this
  exact⟨this.1.1,this.1.2,by simpa using this.2⟩
 have hw:∀ m∈DataW.weightsEach C.prog ts ds,m≤reachBytes:=by
  intro m hm
  have hsz':=hsz
  rw[List.append_nil,hpars]at hsz'
  have hsub:∀(ts us:List Nat) (ds:List (DataW H)),∀ m∈DataW.weightsEach C.prog ts ds,m∈DataW.weightsEach C.prog (ts++us) ds:=by
   intro ts us ds
   induction ts generalizing ds with
   | nil=>intro m hm;cases ds <;> simp [DataW.weightsEach]at hm
   | cons t ts ih =>
    intro m hm
    cases ds with
    | nil=>simp [DataW.weightsEach]at hm
    | cons d ds =>
     simp only [DataW.weightsEach,List.cons_append,List.mem_append]at hm ⊢
     rcases hm with hm | hm
     ·exact .inl hm
     ·exact .inr (ih ds m hm)
  have:=List.all_eq_true.1 hsz' m (hsub ts _ ds m hm)
  simpa using this
 obtain⟨avs,h1,h2,h3,h4⟩:=Ac2 hT ts args.toList ds p (fun t ht=>(hpl' t ht).1) (fun j t v ht hv=>hval j t v (by rw[hts];simpa using ht) (by simpa using hv)) hA' hw hbk
 have hlt:∀ x∈p,x.block < W.heap.size:=fun x hx=>hW'.lt x hx
 have hsp:=hspec ds h4
 have:=(hcon avs h3).2 W (fun k=>k < W.heap.size) args.toList (fun _ h=>h) (by rw[h1]) h2
 rw[Array.toArray_toList]at this
 refine this.mono fun e W' ⟨v,he,hr,hb⟩=>?_
 cases hr with
 | b =>
  refine⟨_,he,ds,[],p,[],p,[],hW',?_,?_,?_,hb.frame _,fun h=>by cases h⟩
  ·rw[hsp,htb]
   exact trodAll_mk1 (shut_bool hub true)
  ·rw[hsp,hpars]
   exact A1r hl hb ts args.toList ds p (fun t ht=>(hpl' t ht).2) hlt hA'
  ·rw[hsp,hvars]
   rfl
theorem Y5{T:Tab}{C:Checked}{os:Os}{f:FuncId}{fn:Func}{s:ChangeSpec}{u:OpenSpec}{k:(H:Type)→List (DataW H)→Bool}{conds:List PathCond}{H:Type}{enc:TypeId×Value→H}(F:Stop.Interp)(ts:List Nat)(tb L n:Nat)
  (hu:u={ OpenSpec.ofChange s with cond:=some k }) (hk:∀ ds:List (DataW H),k H ds=true→bulkDs ds≤L)
  (hT:TabOk C.prog T) (hl:laidOutB C.prog=true) (own:ownKnob C.prog.godebug=none) (started:os.Started) (noInit:C.prog.inits.idxOf? f=none) (hfn:C.prog.funcs[f]?=some fn)
  (hts:fn.params=ts.toArray) (htb:fn.resultTypes=#[tb]) (hub:C.prog.underlying tb=some .bool) (hpl:ts.all (fun t=>L9 T n t && C.prog.readableRec t && Nat.blt t C.prog.types.size)=true)
  (hvars:s.vars=[]) (hspec:∀ ds:List (DataW H),ds.length=ts.length→s.fn H (ds++[])={ results:=[.lit (.bool true)],args:=ds })
  (witness:∃(w:World) (tape:Tape) (i:Input),w.os=os∧(w.forCall tape i).Shaped C.prog∧i.vars=[]∧Input.okWide C.prog (w.forCall tape i) .any w.heap.size f i ∧
   u.pre6 enc C.prog fn conds false (w.forCall tape i).memory i.args∧({}:Assume).holds C.prog (lone (Frame.enter C.prog f i.args .normal) [] (w.forCall tape i)))
  (hcon:∀ avs,B6m T L n ts avs→Con C.prog f avs (.b true)) :
  ReturnsInHanded {} C os f .any (u.pre6 enc C.prog fn conds false) ((u.at F).post enc C.prog fn false true false false):=by
 subst hu
 refine returnsInHanded_of_cond_sized (k:=k) rfl own started noInit hfn witness ?_
 intro W base args ds gs before hval hW _ hkk hsz _
 exact B6o ts tb L n hT hl hts htb hub hpl hvars hspec hcon hval hW hsz (hk _ hkk)
theorem O5{α:Type}{g:α→List AV}{Q:α→Prop}{C:List AV→Prop}(h:∀ r,C r→∃ x,r=g x∧Q x):∀(rows:List (List AV)),(∀ r∈rows,C r)→∃ xs:List α,rows=xs.map g∧∀ x∈xs,Q x
 | [],_=>⟨[],rfl,fun x hx=>by simp at hx⟩
 | r :: rows,hr=>by
  obtain⟨x,h1,h2⟩:=h r (hr r (by simp))
  obtain⟨xs,h3,h4⟩:=O5 h rows fun q hq=>hr q (List.mem_cons_of_mem _ hq)
  refine⟨x :: xs,by rw[h1,h3];rfl,fun y hy=>?_⟩
  rcases List.mem_cons.1 hy with rfl | hy
  ·exact h2
  ·exact h4 y hy
end Go.E
namespace Go.Proofs.YtphcaholhacnpaaGreat
open Go.E
set_option maxRecDepth 100000
set_option maxHeartbeats 4000000
open Go.ChangeShapes Go.WideShapes Go.ChangeAt Go.RowKit Go
theorem Tryz.own:Go.ownKnob Tryz.prog.godebug=none:=by kernel_rfl
theorem Tryz.laidOut:laidOutB Tryz.prog=true:=by kernel_rfl
def inr(n:Int):Prop:=-9223372036854775808≤n∧n≤9223372036854775807
theorem ty3{L n:Nat}{cs:List AV}(h:TyC tab L (n+1) 3 cs):∃ x,cs=c3 x∧inr x:=by
 obtain⟨x,rfl,h1,h2⟩:=h
 exact⟨x,rfl,h1,h2⟩
theorem ty44{L n:Nat}{cs:List AV}(h:TyC tab L (n+2) 44 cs):∃ d:Dot,cs=c44 d∧inr d.rep∧inr d.num:=by
 obtain⟨a,b,rfl,ha,c,d,rfl,hc,rfl⟩:=h
 obtain⟨x,rfl,hx⟩:=ty3 ha
 obtain⟨y,rfl,hy⟩:=ty3 hc
 exact⟨⟨x,y⟩,rfl,hx,hy⟩
theorem ty9{L n:Nat}{cs:List AV}(h:TyC tab L (n+1) 9 cs):∃ s:ByteArray,cs=[.s s]∧s.size≤140737488351232:=by
 obtain⟨s,rfl,_,h2,_⟩:=h
 exact⟨s,rfl,h2⟩
theorem ty141{L n:Nat}{cs:List AV}(h:TyC tab L (n+2) 141 cs):∃ d:Span,cs=A9 d∧inr d.rep∧inr d.lo∧inr d.hi:=by
 obtain⟨a,b,rfl,ha,c,d,rfl,hc,e,f,rfl,he,rfl⟩:=h
 obtain⟨x,rfl,hx⟩:=ty3 ha
 obtain⟨y,rfl,hy⟩:=ty3 hc
 obtain⟨z,rfl,hz⟩:=ty3 he
 exact⟨⟨x,y,z⟩,rfl,hx,hy,hz⟩
def inE(e:Entry):Prop:=inr e.dot.rep∧inr e.dot.num∧e.sku.size≤140737488351232∧inr e.qty
theorem ty46{L n:Nat}{cs:List AV}(h:TyC tab L (n+3) 46 cs):∃ e:Entry,cs=c46 e∧inE e:=by
 obtain⟨a,b,rfl,ha,c,d,rfl,hc,e,f,rfl,he,rfl⟩:=h
 obtain⟨x,rfl,hx⟩:=ty44 ha
 obtain⟨y,rfl,hy⟩:=ty9 hc
 obtain⟨z,rfl,hz⟩:=ty3 he
 exact⟨⟨x,y,z⟩,rfl,hx.1,hx.2,hy,hz⟩
theorem ty22{L n:Nat}{cs:List AV}(h:TyC tab L (n+4) 22 cs):∃ xs:List Entry,cs=[.sl (xs.map c46)]∧((∀ x∈xs,inE x)∧xs.length*40≤140737488351232)∧xs.length≤L:=by
 obtain⟨rows,rfl,h1,h2,hL,h3⟩:=h
 obtain⟨xs,rfl,hx⟩:=O5 (fun r hr=>ty46 hr) rows h3
 exact⟨xs,rfl,⟨hx,by rw[List.length_map]at h2;exact h2⟩,by rw[List.length_map]at hL;exact hL⟩
mutual
theorem bulk_eq {H : Type} : ∀ d : DataW H, Rows.uptoBulk d = bulkD d
  | .lit l => by cases l <;> simp [Rows.uptoBulk, bulkD]
  | .nil => by simp [Rows.uptoBulk, bulkD]
  | .ptr d => by simp only [Rows.uptoBulk, bulkD, bulk_eq d]
  | .slice elems spare => by simp only [Rows.uptoBulk, bulkD, bulks_eq elems, bulks_eq spare]
  | .agg parts => by simp only [Rows.uptoBulk, bulkD, bulks_eq parts]
  | .iface _ d => by simp only [Rows.uptoBulk, bulkD, bulk_eq d]
  | .map entries => by simp only [Rows.uptoBulk, bulkD, bulkm_eq entries]
  | .held _ => by simp [Rows.uptoBulk, bulkD]
theorem bulks_eq {H : Type} : ∀ l : List (DataW H), Rows.uptoBulkAll l = bulkDs l
  | [] => by simp [Rows.uptoBulkAll, bulkDs]
  | d :: r => by simp only [Rows.uptoBulkAll, bulkDs, bulk_eq d, bulks_eq r]
theorem bulkm_eq {H : Type} : ∀ l : List (Lit × DataW H), Rows.uptoBulkEntries l = bulkDm l
  | [] => by simp [Rows.uptoBulkEntries, bulkDm]
  | x :: r => by simp only [Rows.uptoBulkEntries, bulkDm, bulke_eq x, bulkm_eq r]
theorem bulke_eq {H : Type} : ∀ x : Lit × DataW H, Rows.uptoBulkEntry x = bulkDe x
  | (l, d) => by cases l <;> simp only [Rows.uptoBulkEntry, bulkDe, bulk_eq d]
end
theorem A6e{H:Type}(ds:List (DataW H))(h:Rows.uptoSmall H ds=true):bulkDs ds≤1048576:=by
 rw[← bulks_eq]
 exact of_decide_eq_true h
end Go.Proofs.YtphcaholhacnpaaGreat
namespace Go.Proofs.YtphcaholhacnpaaGreat
open Go.E
set_option maxRecDepth 100000
set_option maxHeartbeats 4000000
def inPL(L:Nat)(p:Past):Prop:=szP p∧p.cloud.length≤L∧p.vec.length≤L
theorem ly23{L n:Nat}{cs:List AV}(h:TyC tab L (n+2) 23 cs):∃ xs:List Int,cs=c23 xs∧xs.length*8≤140737488351232∧xs.length≤L:=by
 obtain⟨rows,rfl,h1,h2,hL,h3⟩:=h
 obtain⟨xs,rfl,hx⟩:=O5 (fun r hr=>ty3 hr) rows h3
 exact⟨xs,rfl,by rw[List.length_map]at h2;exact h2,by rw[List.length_map]at hL;exact hL⟩
theorem ly24{L n:Nat}{cs:List AV}(h:TyC tab L (n+3) 24 cs):∃ xs:List Span,cs=[.sl (xs.map A9)]∧xs.length*24≤140737488351232∧xs.length≤L:=by
 obtain⟨rows,rfl,h1,h2,hL,h3⟩:=h
 obtain⟨xs,rfl,hx⟩:=O5 (fun r hr=>ty141 hr) rows h3
 exact⟨xs,rfl,by rw[List.length_map]at h2;exact h2,by rw[List.length_map]at hL;exact hL⟩
theorem ly26{L n:Nat}{cs:List AV}(h:TyC tab L (n+4) 26 cs):∃ p:Past,cs=c26 p∧inPL L p:=by
 obtain⟨a,b,rfl,ha,c,d,rfl,hc,rfl⟩:=h
 obtain⟨x,rfl,hx⟩:=ly23 (L:=L) (n:=n+1) ha
 obtain⟨y,rfl,hy⟩:=ly24 hc
 exact⟨⟨x,y⟩,rfl,⟨by simp only;omega,by simp only;omega⟩,hy.2,hx.2⟩
theorem ly54{L n:Nat}{cs:List AV}(h:TyC tab L (n+5) 54 cs):∃ r:Record,cs=c54 r∧inPL L r.past:=by
 obtain⟨a,b,rfl,ha,c,d,rfl,hc,rfl⟩:=h
 obtain⟨x,rfl,hx⟩:=ty9 (L:=L) (n:=n+3) ha
 obtain⟨y,rfl,hy⟩:=ly26 hc
 exact⟨⟨x,y⟩,rfl,hy⟩
def inRL(L:Nat)(rs:List Record):Prop:=(∀ r∈rs,inPL L r.past)∧rs.length*64≤140737488351232∧rs.length≤L
theorem ly34{L n:Nat}{cs:List AV}(h:TyC tab L (n+6) 34 cs):∃ rs:List Record,cs=[.sl (rs.map c54)]∧inRL L rs:=by
 obtain⟨rows,rfl,h1,h2,hL,h3⟩:=h
 obtain⟨xs,rfl,hx⟩:=O5 (fun r hr=>ly54 hr) rows h3
 exact⟨xs,rfl,hx,by rw[List.length_map]at h2;exact h2,by rw[List.length_map]at hL;exact hL⟩
def B6p(L:Nat)(f:Facts):Prop:=(f.adds.length*40≤140737488351232∧f.adds.length≤L)∧inPL L f.gone∧inRL L f.recs
theorem ly36{L n:Nat}{cs:List AV}(h:TyC tab L (n+7) 36 cs):∃ f:Facts,cs=c36 f∧B6p L f:=by
 obtain⟨a,b,rfl,ha,c,d,rfl,hc,e,g,rfl,he,rfl⟩:=h
 obtain⟨x,rfl,hx⟩:=ty22 (L:=L) (n:=n+2) ha
 obtain⟨y,rfl,hy⟩:=ly26 (L:=L) (n:=n+2) hc
 obtain⟨z,rfl,hz⟩:=ly34 he
 exact⟨⟨x,y,z⟩,rfl,⟨hx.1.2,hx.2⟩,hy,hz⟩
theorem inF_sz{L:Nat}{f:Facts}(h:B6p L f):szF f:=⟨h.2.1.1,fun r hr=>(h.2.2.1 r hr).1⟩
end Go.Proofs.YtphcaholhacnpaaGreat
namespace Go.Proofs.YtphcaholhacnpaaGreat
open Go.E
set_option maxRecDepth 100000
set_option maxHeartbeats 4000000
theorem B2z{L M:Nat}(hM:M=L+1):∀ {rs:List Record},(∀ r∈rs,r.past.cloud.length≤L)→A52 rs≤rs.length*M
 | [],_=>by simp [A52]
 | r :: rs,h=>by
  have h1:=h r (by simp)
  have h2:=B2z hM (rs:=rs) (fun x hx=>h x (by simp [hx]))
  simp only [A52,List.map_cons,List.sum_cons,List.length_cons,Nat.add_mul]at *
  omega
theorem Bg1{f:Facts}(h1:szF f)(h2:f.recs.length≤1048576)(h3:A52 f.recs≤1099512676352):szB 1 f:=by
 unfold szB
 rw[Nat.one_mul,Nat.one_mul]
 exact⟨h1,h2,h3⟩
theorem B30{f:Facts}(h:B6p 1048576 f):szB 1 f:=by
 have h0:f.recs.length≤1048576:=h.2.2.2.2
 have h1:A52 f.recs≤f.recs.length*1048577:=B2z (L:=1048576) rfl (fun r hr=>(h.2.2.1 r hr).2.1)
 have h2:f.recs.length*1048577≤1048576*1048577:=Nat.mul_le_mul_right _ h0
 exact Bg1 (inF_sz h) h0 (Nat.le_trans h1 (Nat.le_trans h2 (by decide)))
end Go.Proofs.YtphcaholhacnpaaGreat
namespace Go.Proofs.YtphcaholhacnpaaGreat
open Go.E
set_option maxRecDepth 100000
set_option maxHeartbeats 4000000
theorem ly82{L n:Nat}{cs:List AV}(h:TyC tab L (n+7) 82 cs):∃ f:Facts,cs=c82 f∧B6p L f:=by
 obtain⟨a,b,rfl,ha,c,d,rfl,hc,e,g,rfl,he,rfl⟩:=h
 obtain⟨x,rfl,hx⟩:=ty22 (L:=L) (n:=n+2) ha
 obtain⟨y,rfl,hy⟩:=ly26 (L:=L) (n:=n+2) hc
 obtain⟨z,rfl,hz⟩:=ly34 he
 exact⟨⟨x,y,z⟩,rfl,⟨hx.1.2,hx.2⟩,hy,hz⟩
theorem B31{f:Facts}(h:B6p 1048576 f):szL f:=⟨h.1.1,by have:=h.2.2.2.2;omega⟩
end Go.Proofs.YtphcaholhacnpaaGreat
namespace Go.Proofs.YtphcaholhacnpaaGreat
open Go.E
set_option maxRecDepth 100000
set_option maxHeartbeats 4000000
theorem ly48{L n:Nat}{cs:List AV}(h:TyC tab L (n+3) 48 cs):∃ xs:List Dot,cs=[.sl (xs.map c44)]∧xs.length≤L:=by
 obtain⟨rows,rfl,h1,h2,hL,h3⟩:=h
 obtain⟨xs,rfl,hx⟩:=O5 (fun r hr=>ty44 hr) rows h3
 exact⟨xs,rfl,by rw[List.length_map]at hL;exact hL⟩
def inKL(L:Nat)(c:KCase):Prop:=B6p L c.f∧B6p L c.g∧B6p L c.h∧B6p L c.s∧c.dots.length≤L
theorem ly104{L n:Nat}{cs:List AV}(h:TyC tab L (n+8) 104 cs):∃ c:KCase,cs=c104 c∧inKL L c:=by
 obtain⟨a,b,rfl,ha,a2,b2,rfl,ha2,a3,b3,rfl,ha3,a4,b4,rfl,ha4,a5,b5,rfl,ha5,a6,b6,rfl,ha6,rfl⟩:=h
 obtain⟨x1,rfl,h1⟩:=ly36 ha
 obtain⟨x2,rfl,h2⟩:=ly36 ha2
 obtain⟨x3,rfl,h3⟩:=ly36 ha3
 obtain⟨x4,rfl,h4⟩:=ly82 ha4
 obtain⟨x5,rfl,h5⟩:=ly48 (L:=L) (n:=n+4) ha5
 obtain⟨x6,rfl,h6⟩:=ty9 (L:=L) (n:=n+6) ha6
 exact⟨⟨x1,x2,x3,x4,x5,x6⟩,rfl,h1,h2,h3,h4,h5⟩
theorem ta104{L:Nat}{a:AV}(h:TyA tab L 9 104 a):∃ c:KCase,a=.agg (c104 c)∧inKL L c:=by
 obtain⟨cs,rfl,h2⟩:=(show ∃ cs,a=.agg cs∧TyC tab L 9 104 cs from h)
 obtain⟨d,rfl,k⟩:=ly104 (L:=L) (n:=1) h2
 exact⟨d,rfl,k⟩
end Go.Proofs.YtphcaholhacnpaaGreat
namespace Go.Proofs.YtphcaholhacnpaaGreat
open Go.E
set_option maxRecDepth 100000
set_option maxHeartbeats 4000000
theorem Tryz.rowedM:Go.mapsRowed Tryz.prog=true:=by kernel_rfl
theorem Tryz.stopsH:Tryz.prog.stopsHeard=true:=by kernel_rfl
theorem Tryz.mayE:Tryz.prog.mayEnter=true:=by kernel_rfl
end Go.Proofs.YtphcaholhacnpaaGreat
