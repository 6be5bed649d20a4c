/- Db: act.Decide. Conditions: sizes. Dc: act: the document's Dots, Sum, lines, limits. Conditions: sizes. Dp: act: what the document decides with is what the program decides with. Conditions: none. Kf: keep.Covers, Bars, Fold, Apply. Conditions: sizes. Kg: keep.Covers, Bars, Fold, Apply. Conditions: sizes. Lp: entries in form, in plain words. Conditions: none. Ea: act.Effect, the document's Effect. Conditions: sizes. De: the law of Decide. Conditions: sizes. Dq: act: what Decide answers is an event, whose add is new. Conditions: none. Dg0: act: others, kept (words). Conditions: none. Dh: act: what is read behind each kind of act, in plain words. Conditions: none. -/
import Derived.Below
import Derived.OwnWalk
import Derived.WalkKit
import Derived.KernelRfl
import Derived.Laws.MakeOwn
import Derived.Laws.OwnMore
import Derived.Laws.Slices
import Derived.Laws.CopyOwn
import Derived.Laws.AppendOwnNone
import Derived.Laws.Rows
import Derived.Orders
import Derived.Test.YtphcaholhacnpaaGreatProg
import Derived.DataReads
import Derived.ChangeOld
import Derived.DataElems
import Derived.SizedLaws
import Derived.ChangeKeysEq
import Derived.Sort.LotA
import Derived.Shelf.SlSortFuncK.RowK2
import Derived.Shelf.SlSortCmp.NoneTotal
import Derived.Lib.Walk
import Derived.Shelf.SlLaysE0
import Derived.Shelf.RegionOpenPlain
import Derived.Deep.LoopGhost
import Derived.Lib.SliceRun
import Derived.Lib.Bytealg
import Derived.BigQuiet
import Derived.Shelf.SlSortFuncK.WholeK
import Derived.Shelf.GgSortFunc.Tiny
import Derived.Maps.RangeRun
import Derived.Shelf.SlSortFuncK.SWK
import Derived.Deep.Cut
import Derived.Deep.CutRange
import Derived.Deep.DeepCutAuto
import Derived.Lib.ReflectliteSwap
import Derived.Laws.Externs
import Derived.Lib.ReflectliteSlice
import Derived.Lib.AppendZeros
import Derived.Test.YtphcaholhacnpaaGreatZr4
set_option linter.unusedVariables false
set_option linter.unusedSimpArgs false
namespace Go.Proofs.YtphcaholhacnpaaGreat
open Go.E
set_option maxRecDepth 100000
set_option maxHeartbeats 4000000
noncomputable def A05(w:Wish):Facts×Int:=if w.act.kind=1 then T3 w else if w.act.kind=2 then M5 w else if w.act.kind=3 then T4 w else if w.act.kind=4 then(G0 w.act.sku w.act.past,0)else if w.act.kind=5 then(⟨[],(C3 w.live).1,[]⟩,0)else(G0 noneS w.act.past,0)
noncomputable def B1(w:Wish):Facts×Int:=if ¬ B2 w.live=0∨¬ w.seen=A4 w.seen then(default,1)else if 0 <((D3 w.live w.seen false).1.length:Int)then(default,1)else if w.rep < 0∨16≤w.rep then(default,3)else if w.lim.lines < 1∨1000 < w.lim.lines∨w.lim.count < 1∨1000000000 < w.lim.count then(default,2)else if ¬ K6 w.act=0 then(default,K6 w.act)else A05 w
theorem B5{w:Wish}(h:¬ B2 w.live=0∨¬ w.seen=A4 w.seen):B1 w=(default,1):=by unfold B1;rw[if_pos h]
theorem B6{w:Wish}(h1:¬(¬ B2 w.live=0∨¬ w.seen=A4 w.seen))(h:0 <((D3 w.live w.seen false).1.length:Int)):B1 w=(default,1):=by unfold B1;rw[if_neg h1,if_pos h]
theorem C5{w:Wish}(h1:¬(¬ B2 w.live=0∨¬ w.seen=A4 w.seen))(h2:¬ 0 <((D3 w.live w.seen false).1.length:Int))(h:w.rep < 0∨16≤w.rep):B1 w=(default,3):=by unfold B1;rw[if_neg h1,if_neg h2,if_pos h]
theorem C6{w:Wish}(h1:¬(¬ B2 w.live=0∨¬ w.seen=A4 w.seen))(h2:¬ 0 <((D3 w.live w.seen false).1.length:Int))(h3:¬(w.rep < 0∨16≤w.rep))(h:w.lim.lines < 1∨1000 < w.lim.lines∨w.lim.count < 1∨1000000000 < w.lim.count):B1 w=(default,2):=by unfold B1;rw[if_neg h1,if_neg h2,if_neg h3,if_pos h]
theorem D0{w:Wish}(h1:¬(¬ B2 w.live=0∨¬ w.seen=A4 w.seen))(h2:¬ 0 <((D3 w.live w.seen false).1.length:Int))(h3:¬(w.rep < 0∨16≤w.rep))(h4:¬(w.lim.lines < 1∨1000 < w.lim.lines∨w.lim.count < 1∨1000000000 < w.lim.count))(h:¬ K6 w.act=0):B1 w=(default,K6 w.act):=by unfold B1;rw[if_neg h1,if_neg h2,if_neg h3,if_neg h4,if_pos h]
theorem G1{w:Wish}(h1:¬(¬ B2 w.live=0∨¬ w.seen=A4 w.seen))(h2:¬ 0 <((D3 w.live w.seen false).1.length:Int))(h3:¬(w.rep < 0∨16≤w.rep))(h4:¬(w.lim.lines < 1∨1000 < w.lim.lines∨w.lim.count < 1∨1000000000 < w.lim.count))(h:¬ ¬ K6 w.act=0):B1 w=A05 w:=by unfold B1;rw[if_neg h1,if_neg h2,if_neg h3,if_neg h4,if_neg h]
theorem B05{s:ByteArray}{q k:Int}{p:Past}(h:¬ ¬ K6 ⟨k,s,q,p⟩=0)(hk:k=1∨k=2):1≤q∧q≤1000000:=by
 have h:=Classical.not_not.1 h
 unfold K6 at h
 simp only at h
 split at h
 ·omega
 ·split at h
  ·omega
  ·split at h
   ·omega
   ·split at h
    ·omega
    ·omega
theorem B06{w:Wish}(h:w.act.kind=1):A05 w=T3 w:=by unfold A05;rw[if_pos h]
theorem B07{w:Wish}(h:w.act.kind=2):A05 w=M5 w:=by unfold A05;rw[if_neg (by omega),if_pos h]
theorem B08{w:Wish}(h:w.act.kind=3):A05 w=T4 w:=by unfold A05;rw[if_neg (by omega),if_neg (by omega),if_pos h]
theorem B09{w:Wish}(h:w.act.kind=4):A05 w=(G0 w.act.sku w.act.past,0):=by unfold A05;rw[if_neg (by omega),if_neg (by omega),if_neg (by omega),if_pos h]
theorem B0a{w:Wish}(h:w.act.kind=5):A05 w=(⟨[],(C3 w.live).1,[]⟩,0):=by unfold A05;rw[if_neg (by omega),if_neg (by omega),if_neg (by omega),if_neg (by omega),if_pos h]
theorem B0b{w:Wish}(h:w.act.kind=6):A05 w=(G0 noneS w.act.past,0):=by unfold A05;rw[if_neg (by omega),if_neg (by omega),if_neg (by omega),if_neg (by omega),if_neg (by omega)]
theorem B0c(s:ByteArray)(q:Int)(p:Past):¬ ¬ K6 ⟨5,s,q,p⟩=0:=by
 rw[Classical.not_not]
 unfold K6
 simp
theorem B3m(live:List Entry)(seen:Past)(rep:Int)(lim:Limits)(a:Actn)(hs:live.length*40≤140737488351232)(hb:szP seen)(hp:szP a.past)(FE:¬ K6 a=0):Con Tryz.prog 15 [.sl (live.map c46),.agg (c26 seen),.i .i64 rep,.agg (c28 lim),.agg (c30 a)] (.tup [.agg (c36 (B1 ⟨live,seen,rep,lim,a⟩).1),.i .i64 (B1 ⟨live,seen,rep,lim,a⟩).2]) :=
 by
 refine lN 0 c46 (live) Tryz.func15 fun hl_0=>sC A6 [.cell 10 36,.tmp 11] 80 Tryz.func15 ?_
 intro e0 cx
 refine sq<|rG cx [0,2,6,8,9,10] [6,8,9,10] z0<|sn<|sq<|sq<|A7 (σ':=⟨[(0,.sl (List.map c46 live)),(2,.i .i64 (rep)),(6,.ptr (6) (0) (0) (0)),(8,.ptr (8) (0) (0) (0)),(9,.ptr (9) (0) (0) (0)),(10,.ptr (10) (0) (0) (0)),(22,.b (decide (¬B2 live=0∨¬seen=A4 seen)))],[(6,⟨0,26,.var [.sl (List.map c3 seen.vec),.sl (List.map A9 seen.cloud)]⟩),(8,⟨0,28,.var [.i .i64 (lim.lines),.i .i64 (lim.count)]⟩),(9,⟨0,30,.var [.i .i64 (a.kind),.s (a.sku),.i .i64 (a.qty),.sl (List.map c3 a.past.vec),.sl (List.map A9 a.past.cloud)]⟩),(10,⟨0,36,.var [.nl,.nl,.nl,.nl]⟩)]⟩) ?_ ?_
 refine A2 (¬B2 live=0) (fun hh1=>?_) (fun hh1=>?_)
 refine rG cx [0,2,6,8,9,10,22] [6,8,9,10] (fT (I1 (live)) (tT 2 (E1 hh1:AV.b (B2 live !=0)=AV.b true) (tD 7 true (¬B2 live=0∨¬seen=A4 seen) (by simp only [eq_false hh1,tsl]) (oA 1 (.i .i64 (B2 live)) z0)))) ?_
 exact⟨rfl,by kernel_rfl⟩
 refine rG cx [0,2,6,8,9,10,22] [6,8,9,10] (fT (I1 (live)) (tN 2 (B2 live) (0:Int) (tT 3 (A0 hh1) (fT (A0m (seen) (by exact hb.1)) (tQ 6 (seen=A4 seen) (tT 7 (by first | (simp only [eq_false hh1,tsl];done) | simp_all:AV.b (decide ¬seen=A4 seen)=AV.b (decide (¬B2 live=0∨¬seen=A4 seen))) (oA 1 (.i .i64 (B2 live)) (oA 5 (.b (decide (seen=A4 seen))) z0)))))))) ?_
 exact⟨rfl,by kernel_rfl⟩
 refine sn<|dC (¬B2 live=0∨¬seen=A4 seen) (fun hh2=>?_) fun hh2=>?_
 refine sq<|rG cx [10,11] [10] z0<|sn<|rT<|nR<|qR (.tup [.agg [.nl,.nl,.nl,.nl],.i .i64 ((1:Int))]) (A3.tup (ZLe.cons (A3.agg (ZLe.cons (A3.nl' (show List.map c46 (B1 { live:=live,seen:=seen,rep:=rep,lim:=lim,act:=a:Wish }).1.adds=[]from(by rw[B5 (w:=⟨live,seen,rep,lim,a⟩) hh2];rfl))) (ZLe.cons (A3.nl' (show List.map c3 (B1 { live:=live,seen:=seen,rep:=rep,lim:=lim,act:=a:Wish }).1.gone.vec=[]from(by rw[B5 (w:=⟨live,seen,rep,lim,a⟩) hh2];rfl))) (ZLe.cons (A3.nl' (show List.map A9 (B1 { live:=live,seen:=seen,rep:=rep,lim:=lim,act:=a:Wish }).1.gone.cloud=[]from(by rw[B5 (w:=⟨live,seen,rep,lim,a⟩) hh2];rfl))) (ZLe.cons (A3.nl' (show List.map c54 (B1 { live:=live,seen:=seen,rep:=rep,lim:=lim,act:=a:Wish }).1.recs=[]from(by rw[B5 (w:=⟨live,seen,rep,lim,a⟩) hh2];rfl))) ZLe.nil))))) (ZLe.cons (A3.eq (show AV.i .i64 1=AV.i .i64 (B1 { live:=live,seen:=seen,rep:=rep,lim:=lim,act:=a:Wish }).2 from(by rw[B5 (w:=⟨live,seen,rep,lim,a⟩) hh2]))) ZLe.nil)))
 refine sK<|sn<|sq<|sq<|rG cx [0,2,6,8,9,10,12] [6,8,9,10] (fT (A8w (live) (seen) (by exact hb.1)) (oA 2 (.tup [.sl (List.map c46 (D3 live seen false).1),.i .i64 ((D3 live seen false).2)]) z0)) ?_
 refine sn<|rD cx [0,2,6,8,9,10,32] [6,8,9,10] (tL 1 c46 ((D3 live seen false).1) (zB 2 ((0:Int) <(↑(D3 live seen false).1.length:Int)))) (fun hh3=>?_) fun hh3=>?_
 refine sq<|rG cx [10,11] [10] z0<|sn<|rT<|nR<|qR (.tup [.agg [.nl,.nl,.nl,.nl],.i .i64 ((1:Int))]) (A3.tup (ZLe.cons (A3.agg (ZLe.cons (A3.nl' (show List.map c46 (B1 { live:=live,seen:=seen,rep:=rep,lim:=lim,act:=a:Wish }).1.adds=[]from(by rw[B6 (w:=⟨live,seen,rep,lim,a⟩) hh2 hh3];rfl))) (ZLe.cons (A3.nl' (show List.map c3 (B1 { live:=live,seen:=seen,rep:=rep,lim:=lim,act:=a:Wish }).1.gone.vec=[]from(by rw[B6 (w:=⟨live,seen,rep,lim,a⟩) hh2 hh3];rfl))) (ZLe.cons (A3.nl' (show List.map A9 (B1 { live:=live,seen:=seen,rep:=rep,lim:=lim,act:=a:Wish }).1.gone.cloud=[]from(by rw[B6 (w:=⟨live,seen,rep,lim,a⟩) hh2 hh3];rfl))) (ZLe.cons (A3.nl' (show List.map c54 (B1 { live:=live,seen:=seen,rep:=rep,lim:=lim,act:=a:Wish }).1.recs=[]from(by rw[B6 (w:=⟨live,seen,rep,lim,a⟩) hh2 hh3];rfl))) ZLe.nil))))) (ZLe.cons (A3.eq (show AV.i .i64 1=AV.i .i64 (B1 { live:=live,seen:=seen,rep:=rep,lim:=lim,act:=a:Wish }).2 from(by rw[B6 (w:=⟨live,seen,rep,lim,a⟩) hh2 hh3]))) ZLe.nil)))
 refine sK<|sn<|sq<|sq<|A7 (σ':=⟨[(0,.sl (List.map c46 live)),(2,.i .i64 (rep)),(6,.ptr (6) (0) (0) (0)),(8,.ptr (8) (0) (0) (0)),(9,.ptr (9) (0) (0) (0)),(10,.ptr (10) (0) (0) (0)),(39,.b (decide (rep <(0:Int)∨16≤rep)))],[(6,⟨0,26,.var [.sl (List.map c3 seen.vec),.sl (List.map A9 seen.cloud)]⟩),(8,⟨0,28,.var [.i .i64 (lim.lines),.i .i64 (lim.count)]⟩),(9,⟨0,30,.var [.i .i64 (a.kind),.s (a.sku),.i .i64 (a.qty),.sl (List.map c3 a.past.vec),.sl (List.map A9 a.past.cloud)]⟩),(10,⟨0,36,.var [.nl,.nl,.nl,.nl]⟩)]⟩) ?_ ?_
 refine A2 (rep <(0:Int)) (fun h_5=>?_) (fun h_5=>?_)
 refine rG cx [0,2,6,8,9,10,39] [6,8,9,10] (tT 1 (A1 h_5) (tD 5 true (rep <(0:Int)∨16≤rep) (by simp only [eq_true h_5,tsl]) z0)) ?_
 exact⟨rfl,by kernel_rfl⟩
 refine rG cx [0,2,6,8,9,10,39] [6,8,9,10] (tT 1 (A0 h_5) (tB 4 (16≤rep) (tD 5 (decide (16≤rep)) (rep <(0:Int)∨16≤rep) (by simp only [eq_false h_5,tsl]) z0))) ?_
 exact⟨rfl,by kernel_rfl⟩
 refine sn<|dC (rep <(0:Int)∨16≤rep) (fun h6=>?_) fun h6=>?_
 refine sq<|rG cx [10,11] [10] z0<|sn<|rT<|nR<|qR (.tup [.agg [.nl,.nl,.nl,.nl],.i .i64 ((3:Int))]) (A3.tup (ZLe.cons (A3.agg (ZLe.cons (A3.nl' (show List.map c46 (B1 { live:=live,seen:=seen,rep:=rep,lim:=lim,act:=a:Wish }).1.adds=[]from(by rw[C5 (w:=⟨live,seen,rep,lim,a⟩) hh2 hh3 h6];rfl))) (ZLe.cons (A3.nl' (show List.map c3 (B1 { live:=live,seen:=seen,rep:=rep,lim:=lim,act:=a:Wish }).1.gone.vec=[]from(by rw[C5 (w:=⟨live,seen,rep,lim,a⟩) hh2 hh3 h6];rfl))) (ZLe.cons (A3.nl' (show List.map A9 (B1 { live:=live,seen:=seen,rep:=rep,lim:=lim,act:=a:Wish }).1.gone.cloud=[]from(by rw[C5 (w:=⟨live,seen,rep,lim,a⟩) hh2 hh3 h6];rfl))) (ZLe.cons (A3.nl' (show List.map c54 (B1 { live:=live,seen:=seen,rep:=rep,lim:=lim,act:=a:Wish }).1.recs=[]from(by rw[C5 (w:=⟨live,seen,rep,lim,a⟩) hh2 hh3 h6];rfl))) ZLe.nil))))) (ZLe.cons (A3.eq (show AV.i .i64 3=AV.i .i64 (B1 { live:=live,seen:=seen,rep:=rep,lim:=lim,act:=a:Wish }).2 from(by rw[C5 (w:=⟨live,seen,rep,lim,a⟩) hh2 hh3 h6]))) ZLe.nil)))
 refine sK<|sn<|sq<|sq<|A7 (σ':=⟨[(0,.sl (List.map c46 live)),(2,.i .i64 (rep)),(6,.ptr (6) (0) (0) (0)),(8,.ptr (8) (0) (0) (0)),(9,.ptr (9) (0) (0) (0)),(10,.ptr (10) (0) (0) (0)),(58,.b (decide (lim.lines <(1:Int)∨(1000:Int) < lim.lines∨lim.count <(1:Int)∨(1000000000:Int) < lim.count)))],[(6,⟨0,26,.var [.sl (List.map c3 seen.vec),.sl (List.map A9 seen.cloud)]⟩),(8,⟨0,28,.var [.i .i64 (lim.lines),.i .i64 (lim.count)]⟩),(9,⟨0,30,.var [.i .i64 (a.kind),.s (a.sku),.i .i64 (a.qty),.sl (List.map c3 a.past.vec),.sl (List.map A9 a.past.cloud)]⟩),(10,⟨0,36,.var [.nl,.nl,.nl,.nl]⟩)]⟩) ?_ ?_
 refine A2 (lim.lines <(1:Int)) (fun h_8=>?_) (fun h_8=>?_)
 refine rG cx [0,2,6,8,9,10,58] [6,8,9,10] (tT 2 (A1 h_8) (tD 17 true (lim.lines <(1:Int)∨(1000:Int) < lim.lines∨lim.count <(1:Int)∨(1000000000:Int) < lim.count) (by simp only [eq_true h_8,tsl]) z0)) ?_
 exact⟨rfl,by kernel_rfl⟩
 refine A2 ((1000:Int) < lim.lines) (fun h_9=>?_) (fun h_9=>?_)
 refine rG cx [0,2,6,8,9,10,58] [6,8,9,10] (tT 2 (A0 h_8) (tT 6 (A1 h_9) (tD 17 true (lim.lines <(1:Int)∨(1000:Int) < lim.lines∨lim.count <(1:Int)∨(1000000000:Int) < lim.count) (by simp only [eq_false h_8,eq_true h_9,tsl]) z0))) ?_
 exact⟨rfl,by kernel_rfl⟩
 refine A2 (lim.count <(1:Int)) (fun h_10=>?_) (fun h_10=>?_)
 refine rG cx [0,2,6,8,9,10,58] [6,8,9,10] (tT 2 (A0 h_8) (tT 6 (A0 h_9) (tT 11 (A1 h_10) (tD 17 true (lim.lines <(1:Int)∨(1000:Int) < lim.lines∨lim.count <(1:Int)∨(1000000000:Int) < lim.count) (by simp only [eq_false h_8,eq_false h_9,eq_true h_10,tsl]) z0)))) ?_
 exact⟨rfl,by kernel_rfl⟩
 refine rG cx [0,2,6,8,9,10,58] [6,8,9,10] (tT 2 (A0 h_8) (tT 6 (A0 h_9) (tT 11 (A0 h_10) (tB 16 ((1000000000:Int) < lim.count) (tD 17 (decide ((1000000000:Int) < lim.count)) (lim.lines <(1:Int)∨(1000:Int) < lim.lines∨lim.count <(1:Int)∨(1000000000:Int) < lim.count) (by simp only [eq_false h_8,eq_false h_9,eq_false h_10,tsl]) z0))))) ?_
 exact⟨rfl,by kernel_rfl⟩
 refine sn<|dC (lim.lines <(1:Int)∨(1000:Int) < lim.lines∨lim.count <(1:Int)∨(1000000000:Int) < lim.count) (fun h11=>?_) fun h11=>?_
 refine sq<|rG cx [10,11] [10] z0<|sn<|rT<|nR<|qR (.tup [.agg [.nl,.nl,.nl,.nl],.i .i64 ((2:Int))]) (A3.tup (ZLe.cons (A3.agg (ZLe.cons (A3.nl' (show List.map c46 (B1 { live:=live,seen:=seen,rep:=rep,lim:=lim,act:=a:Wish }).1.adds=[]from(by rw[C6 (w:=⟨live,seen,rep,lim,a⟩) hh2 hh3 h6 h11];rfl))) (ZLe.cons (A3.nl' (show List.map c3 (B1 { live:=live,seen:=seen,rep:=rep,lim:=lim,act:=a:Wish }).1.gone.vec=[]from(by rw[C6 (w:=⟨live,seen,rep,lim,a⟩) hh2 hh3 h6 h11];rfl))) (ZLe.cons (A3.nl' (show List.map A9 (B1 { live:=live,seen:=seen,rep:=rep,lim:=lim,act:=a:Wish }).1.gone.cloud=[]from(by rw[C6 (w:=⟨live,seen,rep,lim,a⟩) hh2 hh3 h6 h11];rfl))) (ZLe.cons (A3.nl' (show List.map c54 (B1 { live:=live,seen:=seen,rep:=rep,lim:=lim,act:=a:Wish }).1.recs=[]from(by rw[C6 (w:=⟨live,seen,rep,lim,a⟩) hh2 hh3 h6 h11];rfl))) ZLe.nil))))) (ZLe.cons (A3.eq (show AV.i .i64 2=AV.i .i64 (B1 { live:=live,seen:=seen,rep:=rep,lim:=lim,act:=a:Wish }).2 from(by rw[C6 (w:=⟨live,seen,rep,lim,a⟩) hh2 hh3 h6 h11]))) ZLe.nil)))
 refine sK<|sn<|sq<|sq<|rG cx [0,2,6,8,9,10,14] [6,8,9,10] (fT (Ab5 (a) (by(with_reducible assumption))) (oA 1 (.i .i64 (K6 a)) z0))<|sn<|sq<|rG cx [0,2,6,8,9,10,14,63] [6,8,9,10] (tT 1 (E1 FE:AV.b (K6 a !=0)=AV.b true) z0)<|sn<|As6 (by kernel_rfl) (by kernel_rfl)<|sq<|rG cx [10,11] [10] z0<|sn<|rT<|nR<|qR (.tup [.agg [.nl,.nl,.nl,.nl],.i .i64 (K6 a)]) (A3.tup (ZLe.cons (A3.agg (ZLe.cons (A3.nl' (show List.map c46 (B1 { live:=live,seen:=seen,rep:=rep,lim:=lim,act:=a:Wish }).1.adds=[]from(by rw[D0 (w:=⟨live,seen,rep,lim,a⟩) hh2 hh3 h6 h11 FE];rfl))) (ZLe.cons (A3.nl' (show List.map c3 (B1 { live:=live,seen:=seen,rep:=rep,lim:=lim,act:=a:Wish }).1.gone.vec=[]from(by rw[D0 (w:=⟨live,seen,rep,lim,a⟩) hh2 hh3 h6 h11 FE];rfl))) (ZLe.cons (A3.nl' (show List.map A9 (B1 { live:=live,seen:=seen,rep:=rep,lim:=lim,act:=a:Wish }).1.gone.cloud=[]from(by rw[D0 (w:=⟨live,seen,rep,lim,a⟩) hh2 hh3 h6 h11 FE];rfl))) (ZLe.cons (A3.nl' (show List.map c54 (B1 { live:=live,seen:=seen,rep:=rep,lim:=lim,act:=a:Wish }).1.recs=[]from(by rw[D0 (w:=⟨live,seen,rep,lim,a⟩) hh2 hh3 h6 h11 FE];rfl))) ZLe.nil))))) (ZLe.cons (A3.eq (show AV.i .i64 (K6 a)=AV.i .i64 (B1 { live:=live,seen:=seen,rep:=rep,lim:=lim,act:=a:Wish }).2 from(by rw[D0 (w:=⟨live,seen,rep,lim,a⟩) hh2 hh3 h6 h11 FE]))) ZLe.nil)))
theorem B3n(live:List Entry)(seen:Past)(rep:Int)(lim:Limits)(s:ByteArray)(q:Int)(p:Past)(hs:live.length*40≤140737488351232)(hb:szP seen)(hp:szP p):Con Tryz.prog 15 [.sl (live.map c46),.agg (c26 seen),.i .i64 rep,.agg (c28 lim),.agg (c30 ⟨1,s,q,p⟩)] (.tup [.agg (c36 (B1 ⟨live,seen,rep,lim,⟨1,s,q,p⟩⟩).1),.i .i64 (B1 ⟨live,seen,rep,lim,⟨1,s,q,p⟩⟩).2]) :=
 by
 refine lN 0 c46 (live) Tryz.func15 fun hl_0=>sC A6 [.cell 10 36,.tmp 11] 80 Tryz.func15 ?_
 intro e0 cx
 refine sq<|rG cx [0,2,6,8,9,10] [6,8,9,10] z0<|sn<|sq<|sq<|A7 (σ':=⟨[(0,.sl (List.map c46 live)),(2,.i .i64 (rep)),(6,.ptr (6) (0) (0) (0)),(8,.ptr (8) (0) (0) (0)),(9,.ptr (9) (0) (0) (0)),(10,.ptr (10) (0) (0) (0)),(22,.b (decide (¬B2 live=0∨¬seen=A4 seen)))],[(6,⟨0,26,.var [.sl (List.map c3 seen.vec),.sl (List.map A9 seen.cloud)]⟩),(8,⟨0,28,.var [.i .i64 (lim.lines),.i .i64 (lim.count)]⟩),(9,⟨0,30,.var [.i .i64 ((1:Int)),.s ({ kind:=(1:Int),sku:=s,qty:=q,past:=p:Actn }.sku),.i .i64 ({ kind:=(1:Int),sku:=s,qty:=q,past:=p:Actn }.qty),.sl (List.map c3 { kind:=(1:Int),sku:=s,qty:=q,past:=p:Actn }.past.vec),.sl (List.map A9 { kind:=(1:Int),sku:=s,qty:=q,past:=p:Actn }.past.cloud)]⟩),(10,⟨0,36,.var [.nl,.nl,.nl,.nl]⟩)]⟩) ?_ ?_
 refine A2 (¬B2 live=0) (fun hh1=>?_) (fun hh1=>?_)
 refine rG cx [0,2,6,8,9,10,22] [6,8,9,10] (fT (I1 (live)) (tT 2 (E1 hh1:AV.b (B2 live !=0)=AV.b true) (tD 7 true (¬B2 live=0∨¬seen=A4 seen) (by simp only [eq_false hh1,tsl]) (oA 1 (.i .i64 (B2 live)) z0)))) ?_
 exact⟨rfl,by kernel_rfl⟩
 refine rG cx [0,2,6,8,9,10,22] [6,8,9,10] (fT (I1 (live)) (tN 2 (B2 live) (0:Int) (tT 3 (A0 hh1) (fT (A0m (seen) (by exact hb.1)) (tQ 6 (seen=A4 seen) (tT 7 (by first | (simp only [eq_false hh1,tsl];done) | simp_all:AV.b (decide ¬seen=A4 seen)=AV.b (decide (¬B2 live=0∨¬seen=A4 seen))) (oA 1 (.i .i64 (B2 live)) (oA 5 (.b (decide (seen=A4 seen))) z0)))))))) ?_
 exact⟨rfl,by kernel_rfl⟩
 refine sn<|dC (¬B2 live=0∨¬seen=A4 seen) (fun hh2=>?_) fun hh2=>?_
 refine sq<|rG cx [10,11] [10] z0<|sn<|rT<|nR<|qR (.tup [.agg [.nl,.nl,.nl,.nl],.i .i64 ((1:Int))]) (A3.tup (ZLe.cons (A3.agg (ZLe.cons (A3.nl' (show List.map c46 (B1 { live:=live,seen:=seen,rep:=rep,lim:=lim,act:={ kind:=(1:Int),sku:=s,qty:=q,past:=p:Actn }:Wish }).1.adds=[]from(by rw[B5 (w:=⟨live,seen,rep,lim,⟨1,s,q,p⟩⟩) hh2];rfl))) (ZLe.cons (A3.nl' (show List.map c3 (B1 { live:=live,seen:=seen,rep:=rep,lim:=lim,act:={ kind:=(1:Int),sku:=s,qty:=q,past:=p:Actn }:Wish }).1.gone.vec=[]from(by rw[B5 (w:=⟨live,seen,rep,lim,⟨1,s,q,p⟩⟩) hh2];rfl))) (ZLe.cons (A3.nl' (show List.map A9 (B1 { live:=live,seen:=seen,rep:=rep,lim:=lim,act:={ kind:=(1:Int),sku:=s,qty:=q,past:=p:Actn }:Wish }).1.gone.cloud=[]from(by rw[B5 (w:=⟨live,seen,rep,lim,⟨1,s,q,p⟩⟩) hh2];rfl))) (ZLe.cons (A3.nl' (show List.map c54 (B1 { live:=live,seen:=seen,rep:=rep,lim:=lim,act:={ kind:=(1:Int),sku:=s,qty:=q,past:=p:Actn }:Wish }).1.recs=[]from(by rw[B5 (w:=⟨live,seen,rep,lim,⟨1,s,q,p⟩⟩) hh2];rfl))) ZLe.nil))))) (ZLe.cons (A3.eq (show AV.i .i64 1=AV.i .i64 (B1 { live:=live,seen:=seen,rep:=rep,lim:=lim,act:={ kind:=(1:Int),sku:=s,qty:=q,past:=p:Actn }:Wish }).2 from(by rw[B5 (w:=⟨live,seen,rep,lim,⟨1,s,q,p⟩⟩) hh2]))) ZLe.nil)))
 refine sK<|sn<|sq<|sq<|rG cx [0,2,6,8,9,10,12] [6,8,9,10] (fT (A8w (live) (seen) (by exact hb.1)) (oA 2 (.tup [.sl (List.map c46 (D3 live seen false).1),.i .i64 ((D3 live seen false).2)]) z0)) ?_
 refine sn<|rD cx [0,2,6,8,9,10,32] [6,8,9,10] (tL 1 c46 ((D3 live seen false).1) (zB 2 ((0:Int) <(↑(D3 live seen false).1.length:Int)))) (fun hh3=>?_) fun hh3=>?_
 refine sq<|rG cx [10,11] [10] z0<|sn<|rT<|nR<|qR (.tup [.agg [.nl,.nl,.nl,.nl],.i .i64 ((1:Int))]) (A3.tup (ZLe.cons (A3.agg (ZLe.cons (A3.nl' (show List.map c46 (B1 { live:=live,seen:=seen,rep:=rep,lim:=lim,act:={ kind:=(1:Int),sku:=s,qty:=q,past:=p:Actn }:Wish }).1.adds=[]from(by rw[B6 (w:=⟨live,seen,rep,lim,⟨1,s,q,p⟩⟩) hh2 hh3];rfl))) (ZLe.cons (A3.nl' (show List.map c3 (B1 { live:=live,seen:=seen,rep:=rep,lim:=lim,act:={ kind:=(1:Int),sku:=s,qty:=q,past:=p:Actn }:Wish }).1.gone.vec=[]from(by rw[B6 (w:=⟨live,seen,rep,lim,⟨1,s,q,p⟩⟩) hh2 hh3];rfl))) (ZLe.cons (A3.nl' (show List.map A9 (B1 { live:=live,seen:=seen,rep:=rep,lim:=lim,act:={ kind:=(1:Int),sku:=s,qty:=q,past:=p:Actn }:Wish }).1.gone.cloud=[]from(by rw[B6 (w:=⟨live,seen,rep,lim,⟨1,s,q,p⟩⟩) hh2 hh3];rfl))) (ZLe.cons (A3.nl' (show List.map c54 (B1 { live:=live,seen:=seen,rep:=rep,lim:=lim,act:={ kind:=(1:Int),sku:=s,qty:=q,past:=p:Actn }:Wish }).1.recs=[]from(by rw[B6 (w:=⟨live,seen,rep,lim,⟨1,s,q,p⟩⟩) hh2 hh3];rfl))) ZLe.nil))))) (ZLe.cons (A3.eq (show AV.i .i64 1=AV.i .i64 (B1 { live:=live,seen:=seen,rep:=rep,lim:=lim,act:={ kind:=(1:Int),sku:=s,qty:=q,past:=p:Actn }:Wish }).2 from(by rw[B6 (w:=⟨live,seen,rep,lim,⟨1,s,q,p⟩⟩) hh2 hh3]))) ZLe.nil)))
 refine sK<|sn<|sq<|sq<|A7 (σ':=⟨[(0,.sl (List.map c46 live)),(2,.i .i64 (rep)),(6,.ptr (6) (0) (0) (0)),(8,.ptr (8) (0) (0) (0)),(9,.ptr (9) (0) (0) (0)),(10,.ptr (10) (0) (0) (0)),(39,.b (decide (rep <(0:Int)∨16≤rep)))],[(6,⟨0,26,.var [.sl (List.map c3 seen.vec),.sl (List.map A9 seen.cloud)]⟩),(8,⟨0,28,.var [.i .i64 (lim.lines),.i .i64 (lim.count)]⟩),(9,⟨0,30,.var [.i .i64 ((1:Int)),.s ({ kind:=(1:Int),sku:=s,qty:=q,past:=p:Actn }.sku),.i .i64 ({ kind:=(1:Int),sku:=s,qty:=q,past:=p:Actn }.qty),.sl (List.map c3 { kind:=(1:Int),sku:=s,qty:=q,past:=p:Actn }.past.vec),.sl (List.map A9 { kind:=(1:Int),sku:=s,qty:=q,past:=p:Actn }.past.cloud)]⟩),(10,⟨0,36,.var [.nl,.nl,.nl,.nl]⟩)]⟩) ?_ ?_
 refine A2 (rep <(0:Int)) (fun h_5=>?_) (fun h_5=>?_)
 refine rG cx [0,2,6,8,9,10,39] [6,8,9,10] (tT 1 (A1 h_5) (tD 5 true (rep <(0:Int)∨16≤rep) (by simp only [eq_true h_5,tsl]) z0)) ?_
 exact⟨rfl,by kernel_rfl⟩
 refine rG cx [0,2,6,8,9,10,39] [6,8,9,10] (tT 1 (A0 h_5) (tB 4 (16≤rep) (tD 5 (decide (16≤rep)) (rep <(0:Int)∨16≤rep) (by simp only [eq_false h_5,tsl]) z0))) ?_
 exact⟨rfl,by kernel_rfl⟩
 refine sn<|dC (rep <(0:Int)∨16≤rep) (fun h6=>?_) fun h6=>?_
 refine sq<|rG cx [10,11] [10] z0<|sn<|rT<|nR<|qR (.tup [.agg [.nl,.nl,.nl,.nl],.i .i64 ((3:Int))]) (A3.tup (ZLe.cons (A3.agg (ZLe.cons (A3.nl' (show List.map c46 (B1 { live:=live,seen:=seen,rep:=rep,lim:=lim,act:={ kind:=(1:Int),sku:=s,qty:=q,past:=p:Actn }:Wish }).1.adds=[]from(by rw[C5 (w:=⟨live,seen,rep,lim,⟨1,s,q,p⟩⟩) hh2 hh3 h6];rfl))) (ZLe.cons (A3.nl' (show List.map c3 (B1 { live:=live,seen:=seen,rep:=rep,lim:=lim,act:={ kind:=(1:Int),sku:=s,qty:=q,past:=p:Actn }:Wish }).1.gone.vec=[]from(by rw[C5 (w:=⟨live,seen,rep,lim,⟨1,s,q,p⟩⟩) hh2 hh3 h6];rfl))) (ZLe.cons (A3.nl' (show List.map A9 (B1 { live:=live,seen:=seen,rep:=rep,lim:=lim,act:={ kind:=(1:Int),sku:=s,qty:=q,past:=p:Actn }:Wish }).1.gone.cloud=[]from(by rw[C5 (w:=⟨live,seen,rep,lim,⟨1,s,q,p⟩⟩) hh2 hh3 h6];rfl))) (ZLe.cons (A3.nl' (show List.map c54 (B1 { live:=live,seen:=seen,rep:=rep,lim:=lim,act:={ kind:=(1:Int),sku:=s,qty:=q,past:=p:Actn }:Wish }).1.recs=[]from(by rw[C5 (w:=⟨live,seen,rep,lim,⟨1,s,q,p⟩⟩) hh2 hh3 h6];rfl))) ZLe.nil))))) (ZLe.cons (A3.eq (show AV.i .i64 3=AV.i .i64 (B1 { live:=live,seen:=seen,rep:=rep,lim:=lim,act:={ kind:=(1:Int),sku:=s,qty:=q,past:=p:Actn }:Wish }).2 from(by rw[C5 (w:=⟨live,seen,rep,lim,⟨1,s,q,p⟩⟩) hh2 hh3 h6]))) ZLe.nil)))
 refine sK<|sn<|sq<|sq<|A7 (σ':=⟨[(0,.sl (List.map c46 live)),(2,.i .i64 (rep)),(6,.ptr (6) (0) (0) (0)),(8,.ptr (8) (0) (0) (0)),(9,.ptr (9) (0) (0) (0)),(10,.ptr (10) (0) (0) (0)),(58,.b (decide (lim.lines <(1:Int)∨(1000:Int) < lim.lines∨lim.count <(1:Int)∨(1000000000:Int) < lim.count)))],[(6,⟨0,26,.var [.sl (List.map c3 seen.vec),.sl (List.map A9 seen.cloud)]⟩),(8,⟨0,28,.var [.i .i64 (lim.lines),.i .i64 (lim.count)]⟩),(9,⟨0,30,.var [.i .i64 ((1:Int)),.s ({ kind:=(1:Int),sku:=s,qty:=q,past:=p:Actn }.sku),.i .i64 ({ kind:=(1:Int),sku:=s,qty:=q,past:=p:Actn }.qty),.sl (List.map c3 { kind:=(1:Int),sku:=s,qty:=q,past:=p:Actn }.past.vec),.sl (List.map A9 { kind:=(1:Int),sku:=s,qty:=q,past:=p:Actn }.past.cloud)]⟩),(10,⟨0,36,.var [.nl,.nl,.nl,.nl]⟩)]⟩) ?_ ?_
 refine A2 (lim.lines <(1:Int)) (fun h_8=>?_) (fun h_8=>?_)
 refine rG cx [0,2,6,8,9,10,58] [6,8,9,10] (tT 2 (A1 h_8) (tD 17 true (lim.lines <(1:Int)∨(1000:Int) < lim.lines∨lim.count <(1:Int)∨(1000000000:Int) < lim.count) (by simp only [eq_true h_8,tsl]) z0)) ?_
 exact⟨rfl,by kernel_rfl⟩
 refine A2 ((1000:Int) < lim.lines) (fun h_9=>?_) (fun h_9=>?_)
 refine rG cx [0,2,6,8,9,10,58] [6,8,9,10] (tT 2 (A0 h_8) (tT 6 (A1 h_9) (tD 17 true (lim.lines <(1:Int)∨(1000:Int) < lim.lines∨lim.count <(1:Int)∨(1000000000:Int) < lim.count) (by simp only [eq_false h_8,eq_true h_9,tsl]) z0))) ?_
 exact⟨rfl,by kernel_rfl⟩
 refine A2 (lim.count <(1:Int)) (fun h_10=>?_) (fun h_10=>?_)
 refine rG cx [0,2,6,8,9,10,58] [6,8,9,10] (tT 2 (A0 h_8) (tT 6 (A0 h_9) (tT 11 (A1 h_10) (tD 17 true (lim.lines <(1:Int)∨(1000:Int) < lim.lines∨lim.count <(1:Int)∨(1000000000:Int) < lim.count) (by simp only [eq_false h_8,eq_false h_9,eq_true h_10,tsl]) z0)))) ?_
 exact⟨rfl,by kernel_rfl⟩
 refine rG cx [0,2,6,8,9,10,58] [6,8,9,10] (tT 2 (A0 h_8) (tT 6 (A0 h_9) (tT 11 (A0 h_10) (tB 16 ((1000000000:Int) < lim.count) (tD 17 (decide ((1000000000:Int) < lim.count)) (lim.lines <(1:Int)∨(1000:Int) < lim.lines∨lim.count <(1:Int)∨(1000000000:Int) < lim.count) (by simp only [eq_false h_8,eq_false h_9,eq_false h_10,tsl]) z0))))) ?_
 exact⟨rfl,by kernel_rfl⟩
 refine sn<|dC (lim.lines <(1:Int)∨(1000:Int) < lim.lines∨lim.count <(1:Int)∨(1000000000:Int) < lim.count) (fun h11=>?_) fun h11=>?_
 refine sq<|rG cx [10,11] [10] z0<|sn<|rT<|nR<|qR (.tup [.agg [.nl,.nl,.nl,.nl],.i .i64 ((2:Int))]) (A3.tup (ZLe.cons (A3.agg (ZLe.cons (A3.nl' (show List.map c46 (B1 { live:=live,seen:=seen,rep:=rep,lim:=lim,act:={ kind:=(1:Int),sku:=s,qty:=q,past:=p:Actn }:Wish }).1.adds=[]from(by rw[C6 (w:=⟨live,seen,rep,lim,⟨1,s,q,p⟩⟩) hh2 hh3 h6 h11];rfl))) (ZLe.cons (A3.nl' (show List.map c3 (B1 { live:=live,seen:=seen,rep:=rep,lim:=lim,act:={ kind:=(1:Int),sku:=s,qty:=q,past:=p:Actn }:Wish }).1.gone.vec=[]from(by rw[C6 (w:=⟨live,seen,rep,lim,⟨1,s,q,p⟩⟩) hh2 hh3 h6 h11];rfl))) (ZLe.cons (A3.nl' (show List.map A9 (B1 { live:=live,seen:=seen,rep:=rep,lim:=lim,act:={ kind:=(1:Int),sku:=s,qty:=q,past:=p:Actn }:Wish }).1.gone.cloud=[]from(by rw[C6 (w:=⟨live,seen,rep,lim,⟨1,s,q,p⟩⟩) hh2 hh3 h6 h11];rfl))) (ZLe.cons (A3.nl' (show List.map c54 (B1 { live:=live,seen:=seen,rep:=rep,lim:=lim,act:={ kind:=(1:Int),sku:=s,qty:=q,past:=p:Actn }:Wish }).1.recs=[]from(by rw[C6 (w:=⟨live,seen,rep,lim,⟨1,s,q,p⟩⟩) hh2 hh3 h6 h11];rfl))) ZLe.nil))))) (ZLe.cons (A3.eq (show AV.i .i64 2=AV.i .i64 (B1 { live:=live,seen:=seen,rep:=rep,lim:=lim,act:={ kind:=(1:Int),sku:=s,qty:=q,past:=p:Actn }:Wish }).2 from(by rw[C6 (w:=⟨live,seen,rep,lim,⟨1,s,q,p⟩⟩) hh2 hh3 h6 h11]))) ZLe.nil)))
 refine sK<|sn<|sq<|sq<|rG cx [0,2,6,8,9,10,14] [6,8,9,10] (fT (Ab5 ({ kind:=(1:Int),sku:={ kind:=(1:Int),sku:=s,qty:=q,past:=p:Actn }.sku,qty:={ kind:=(1:Int),sku:=s,qty:=q,past:=p:Actn }.qty,past:={ kind:=(1:Int),sku:=s,qty:=q,past:=p:Actn }.past:Actn }) (by(with_reducible assumption))) (oA 1 (.i .i64 (K6 { kind:=(1:Int),sku:={ kind:=(1:Int),sku:=s,qty:=q,past:=p:Actn }.sku,qty:={ kind:=(1:Int),sku:=s,qty:=q,past:=p:Actn }.qty,past:={ kind:=(1:Int),sku:=s,qty:=q,past:=p:Actn }.past:Actn })) z0))<|sn<|sq<|rG cx [0,2,6,8,9,10,14,63] [6,8,9,10] (tN 1 (K6 { kind:=(1:Int),sku:={ kind:=(1:Int),sku:=s,qty:=q,past:=p:Actn }.sku,qty:={ kind:=(1:Int),sku:=s,qty:=q,past:=p:Actn }.qty,past:={ kind:=(1:Int),sku:=s,qty:=q,past:=p:Actn }.past:Actn }) (0:Int) z0)<|sn<|dC (¬K6 { kind:=(1:Int),sku:={ kind:=(1:Int),sku:=s,qty:=q,past:=p:Actn }.sku,qty:={ kind:=(1:Int),sku:=s,qty:=q,past:=p:Actn }.qty,past:={ kind:=(1:Int),sku:=s,qty:=q,past:=p:Actn }.past:Actn }=(0:Int)) (fun h12=>?_) fun h12=>?_
 refine sq<|rG cx [10,11] [10] z0<|sn<|rT<|nR<|qR (.tup [.agg [.nl,.nl,.nl,.nl],.i .i64 (K6 { kind:=(1:Int),sku:={ kind:=(1:Int),sku:=s,qty:=q,past:=p:Actn }.sku,qty:={ kind:=(1:Int),sku:=s,qty:=q,past:=p:Actn }.qty,past:={ kind:=(1:Int),sku:=s,qty:=q,past:=p:Actn }.past:Actn })]) (A3.tup (ZLe.cons (A3.agg (ZLe.cons (A3.nl' (show List.map c46 (B1 { live:=live,seen:=seen,rep:=rep,lim:=lim,act:={ kind:=(1:Int),sku:=s,qty:=q,past:=p:Actn }:Wish }).1.adds=[]from(by rw[D0 (w:=⟨live,seen,rep,lim,⟨1,s,q,p⟩⟩) hh2 hh3 h6 h11 h12];rfl))) (ZLe.cons (A3.nl' (show List.map c3 (B1 { live:=live,seen:=seen,rep:=rep,lim:=lim,act:={ kind:=(1:Int),sku:=s,qty:=q,past:=p:Actn }:Wish }).1.gone.vec=[]from(by rw[D0 (w:=⟨live,seen,rep,lim,⟨1,s,q,p⟩⟩) hh2 hh3 h6 h11 h12];rfl))) (ZLe.cons (A3.nl' (show List.map A9 (B1 { live:=live,seen:=seen,rep:=rep,lim:=lim,act:={ kind:=(1:Int),sku:=s,qty:=q,past:=p:Actn }:Wish }).1.gone.cloud=[]from(by rw[D0 (w:=⟨live,seen,rep,lim,⟨1,s,q,p⟩⟩) hh2 hh3 h6 h11 h12];rfl))) (ZLe.cons (A3.nl' (show List.map c54 (B1 { live:=live,seen:=seen,rep:=rep,lim:=lim,act:={ kind:=(1:Int),sku:=s,qty:=q,past:=p:Actn }:Wish }).1.recs=[]from(by rw[D0 (w:=⟨live,seen,rep,lim,⟨1,s,q,p⟩⟩) hh2 hh3 h6 h11 h12];rfl))) ZLe.nil))))) (ZLe.cons (A3.eq (show AV.i .i64 (K6 { kind:=(1:Int),sku:={ kind:=(1:Int),sku:=s,qty:=q,past:=p:Actn }.sku,qty:={ kind:=(1:Int),sku:=s,qty:=q,past:=p:Actn }.qty,past:={ kind:=(1:Int),sku:=s,qty:=q,past:=p:Actn }.past:Actn })=AV.i .i64 (B1 { live:=live,seen:=seen,rep:=rep,lim:=lim,act:={ kind:=(1:Int),sku:=s,qty:=q,past:=p:Actn }:Wish }).2 from(by rw[D0 (w:=⟨live,seen,rep,lim,⟨1,s,q,p⟩⟩) hh2 hh3 h6 h11 h12]))) ZLe.nil)))
 refine sK<|sn<|sq<|rA cx [10,11] [10] (fT (A2a ) (fO ((0:Int)≤(1:Int)) (fR (some [AV.fn (Fn.func (154:FuncId)) [] []]) (fR 1 (fT (con154 ({ live:=live,seen:=seen,rep:=rep,lim:=lim,act:={ kind:=(1:Int),sku:={ kind:=(1:Int),sku:=s,qty:=q,past:=p:Actn }.sku,qty:={ kind:=(1:Int),sku:=s,qty:=q,past:=p:Actn }.qty,past:={ kind:=(1:Int),sku:=s,qty:=q,past:=p:Actn }.past:Actn }:Wish }) (by(with_reducible assumption)) (by(with_reducible assumption))) (oA 0 (Ap2 (A2a )) (oR 3 [.fn (Fn.func (154:FuncId)) [] []] (oA 11 (.tup [.agg [.sl (List.map c46 (T3 { live:=live,seen:=seen,rep:=rep,lim:=lim,act:={ kind:=(1:Int),sku:={ kind:=(1:Int),sku:=s,qty:=q,past:=p:Actn }.sku,qty:={ kind:=(1:Int),sku:=s,qty:=q,past:=p:Actn }.qty,past:={ kind:=(1:Int),sku:=s,qty:=q,past:=p:Actn }.past:Actn }:Wish }).1.adds),.sl (List.map c3 (T3 { live:=live,seen:=seen,rep:=rep,lim:=lim,act:={ kind:=(1:Int),sku:={ kind:=(1:Int),sku:=s,qty:=q,past:=p:Actn }.sku,qty:={ kind:=(1:Int),sku:=s,qty:=q,past:=p:Actn }.qty,past:={ kind:=(1:Int),sku:=s,qty:=q,past:=p:Actn }.past:Actn }:Wish }).1.gone.vec),.sl (List.map A9 (T3 { live:=live,seen:=seen,rep:=rep,lim:=lim,act:={ kind:=(1:Int),sku:={ kind:=(1:Int),sku:=s,qty:=q,past:=p:Actn }.sku,qty:={ kind:=(1:Int),sku:=s,qty:=q,past:=p:Actn }.qty,past:={ kind:=(1:Int),sku:=s,qty:=q,past:=p:Actn }.past:Actn }:Wish }).1.gone.cloud),.sl (List.map c54 (T3 { live:=live,seen:=seen,rep:=rep,lim:=lim,act:={ kind:=(1:Int),sku:={ kind:=(1:Int),sku:=s,qty:=q,past:=p:Actn }.sku,qty:={ kind:=(1:Int),sku:=s,qty:=q,past:=p:Actn }.qty,past:={ kind:=(1:Int),sku:=s,qty:=q,past:=p:Actn }.past:Actn }:Wish }).1.recs)],.i .i64 ((T3 { live:=live,seen:=seen,rep:=rep,lim:=lim,act:={ kind:=(1:Int),sku:={ kind:=(1:Int),sku:=s,qty:=q,past:=p:Actn }.sku,qty:={ kind:=(1:Int),sku:=s,qty:=q,past:=p:Actn }.qty,past:={ kind:=(1:Int),sku:=s,qty:=q,past:=p:Actn }.past:Actn }:Wish }).2)]) z0))))))))<|sn<|rT<|qR (.tup [.agg [.sl (List.map c46 (T3 { live:=live,seen:=seen,rep:=rep,lim:=lim,act:={ kind:=(1:Int),sku:={ kind:=(1:Int),sku:=s,qty:=q,past:=p:Actn }.sku,qty:={ kind:=(1:Int),sku:=s,qty:=q,past:=p:Actn }.qty,past:={ kind:=(1:Int),sku:=s,qty:=q,past:=p:Actn }.past:Actn }:Wish }).1.adds),.sl (List.map c3 (T3 { live:=live,seen:=seen,rep:=rep,lim:=lim,act:={ kind:=(1:Int),sku:={ kind:=(1:Int),sku:=s,qty:=q,past:=p:Actn }.sku,qty:={ kind:=(1:Int),sku:=s,qty:=q,past:=p:Actn }.qty,past:={ kind:=(1:Int),sku:=s,qty:=q,past:=p:Actn }.past:Actn }:Wish }).1.gone.vec),.sl (List.map A9 (T3 { live:=live,seen:=seen,rep:=rep,lim:=lim,act:={ kind:=(1:Int),sku:={ kind:=(1:Int),sku:=s,qty:=q,past:=p:Actn }.sku,qty:={ kind:=(1:Int),sku:=s,qty:=q,past:=p:Actn }.qty,past:={ kind:=(1:Int),sku:=s,qty:=q,past:=p:Actn }.past:Actn }:Wish }).1.gone.cloud),.sl (List.map c54 (T3 { live:=live,seen:=seen,rep:=rep,lim:=lim,act:={ kind:=(1:Int),sku:={ kind:=(1:Int),sku:=s,qty:=q,past:=p:Actn }.sku,qty:={ kind:=(1:Int),sku:=s,qty:=q,past:=p:Actn }.qty,past:={ kind:=(1:Int),sku:=s,qty:=q,past:=p:Actn }.past:Actn }:Wish }).1.recs)],.i .i64 ((T3 { live:=live,seen:=seen,rep:=rep,lim:=lim,act:={ kind:=(1:Int),sku:={ kind:=(1:Int),sku:=s,qty:=q,past:=p:Actn }.sku,qty:={ kind:=(1:Int),sku:=s,qty:=q,past:=p:Actn }.qty,past:={ kind:=(1:Int),sku:=s,qty:=q,past:=p:Actn }.past:Actn }:Wish }).2)]) (A3.tup (ZLe.cons (A3.eq (show AV.agg [AV.sl (List.map c46 (T3 { live:=live,seen:=seen,rep:=rep,lim:=lim,act:={ kind:=(1:Int),sku:={ kind:=(1:Int),sku:=s,qty:=q,past:=p:Actn }.sku,qty:={ kind:=(1:Int),sku:=s,qty:=q,past:=p:Actn }.qty,past:={ kind:=(1:Int),sku:=s,qty:=q,past:=p:Actn }.past:Actn }:Wish }).1.adds),AV.sl (List.map c3 (T3 { live:=live,seen:=seen,rep:=rep,lim:=lim,act:={ kind:=(1:Int),sku:={ kind:=(1:Int),sku:=s,qty:=q,past:=p:Actn }.sku,qty:={ kind:=(1:Int),sku:=s,qty:=q,past:=p:Actn }.qty,past:={ kind:=(1:Int),sku:=s,qty:=q,past:=p:Actn }.past:Actn }:Wish }).1.gone.vec),AV.sl (List.map A9 (T3 { live:=live,seen:=seen,rep:=rep,lim:=lim,act:={ kind:=(1:Int),sku:={ kind:=(1:Int),sku:=s,qty:=q,past:=p:Actn }.sku,qty:={ kind:=(1:Int),sku:=s,qty:=q,past:=p:Actn }.qty,past:={ kind:=(1:Int),sku:=s,qty:=q,past:=p:Actn }.past:Actn }:Wish }).1.gone.cloud),AV.sl (List.map c54 (T3 { live:=live,seen:=seen,rep:=rep,lim:=lim,act:={ kind:=(1:Int),sku:={ kind:=(1:Int),sku:=s,qty:=q,past:=p:Actn }.sku,qty:={ kind:=(1:Int),sku:=s,qty:=q,past:=p:Actn }.qty,past:={ kind:=(1:Int),sku:=s,qty:=q,past:=p:Actn }.past:Actn }:Wish }).1.recs)]=AV.agg [AV.sl (List.map c46 (B1 { live:=live,seen:=seen,rep:=rep,lim:=lim,act:={ kind:=(1:Int),sku:=s,qty:=q,past:=p:Actn }:Wish }).1.adds),AV.sl (List.map c3 (B1 { live:=live,seen:=seen,rep:=rep,lim:=lim,act:={ kind:=(1:Int),sku:=s,qty:=q,past:=p:Actn }:Wish }).1.gone.vec),AV.sl (List.map A9 (B1 { live:=live,seen:=seen,rep:=rep,lim:=lim,act:={ kind:=(1:Int),sku:=s,qty:=q,past:=p:Actn }:Wish }).1.gone.cloud),AV.sl (List.map c54 (B1 { live:=live,seen:=seen,rep:=rep,lim:=lim,act:={ kind:=(1:Int),sku:=s,qty:=q,past:=p:Actn }:Wish }).1.recs)]from(by rw[G1 (w:=⟨live,seen,rep,lim,⟨1,s,q,p⟩⟩) hh2 hh3 h6 h11 h12,B06 (w:=⟨live,seen,rep,lim,⟨1,s,q,p⟩⟩) rfl]))) (ZLe.cons (A3.eq (show AV.i .i64 (T3 { live:=live,seen:=seen,rep:=rep,lim:=lim,act:={ kind:=(1:Int),sku:={ kind:=(1:Int),sku:=s,qty:=q,past:=p:Actn }.sku,qty:={ kind:=(1:Int),sku:=s,qty:=q,past:=p:Actn }.qty,past:={ kind:=(1:Int),sku:=s,qty:=q,past:=p:Actn }.past:Actn }:Wish }).2=AV.i .i64 (B1 { live:=live,seen:=seen,rep:=rep,lim:=lim,act:={ kind:=(1:Int),sku:=s,qty:=q,past:=p:Actn }:Wish }).2 from(by rw[G1 (w:=⟨live,seen,rep,lim,⟨1,s,q,p⟩⟩) hh2 hh3 h6 h11 h12,B06 (w:=⟨live,seen,rep,lim,⟨1,s,q,p⟩⟩) rfl]))) ZLe.nil)))
theorem B3o(live:List Entry)(seen:Past)(rep:Int)(lim:Limits)(s:ByteArray)(q:Int)(p:Past)(hs:live.length*40≤140737488351232)(hb:szP seen)(hp:szP p):Con Tryz.prog 15 [.sl (live.map c46),.agg (c26 seen),.i .i64 rep,.agg (c28 lim),.agg (c30 ⟨2,s,q,p⟩)] (.tup [.agg (c36 (B1 ⟨live,seen,rep,lim,⟨2,s,q,p⟩⟩).1),.i .i64 (B1 ⟨live,seen,rep,lim,⟨2,s,q,p⟩⟩).2]) :=
 by
 refine lN 0 c46 (live) Tryz.func15 fun hl_0=>sC A6 [.cell 10 36,.tmp 11] 80 Tryz.func15 ?_
 intro e0 cx
 refine sq<|rG cx [0,2,6,8,9,10] [6,8,9,10] z0<|sn<|sq<|sq<|A7 (σ':=⟨[(0,.sl (List.map c46 live)),(2,.i .i64 (rep)),(6,.ptr (6) (0) (0) (0)),(8,.ptr (8) (0) (0) (0)),(9,.ptr (9) (0) (0) (0)),(10,.ptr (10) (0) (0) (0)),(22,.b (decide (¬B2 live=0∨¬seen=A4 seen)))],[(6,⟨0,26,.var [.sl (List.map c3 seen.vec),.sl (List.map A9 seen.cloud)]⟩),(8,⟨0,28,.var [.i .i64 (lim.lines),.i .i64 (lim.count)]⟩),(9,⟨0,30,.var [.i .i64 ((2:Int)),.s ({ kind:=(2:Int),sku:=s,qty:=q,past:=p:Actn }.sku),.i .i64 ({ kind:=(2:Int),sku:=s,qty:=q,past:=p:Actn }.qty),.sl (List.map c3 { kind:=(2:Int),sku:=s,qty:=q,past:=p:Actn }.past.vec),.sl (List.map A9 { kind:=(2:Int),sku:=s,qty:=q,past:=p:Actn }.past.cloud)]⟩),(10,⟨0,36,.var [.nl,.nl,.nl,.nl]⟩)]⟩) ?_ ?_
 refine A2 (¬B2 live=0) (fun hh1=>?_) (fun hh1=>?_)
 refine rG cx [0,2,6,8,9,10,22] [6,8,9,10] (fT (I1 (live)) (tT 2 (E1 hh1:AV.b (B2 live !=0)=AV.b true) (tD 7 true (¬B2 live=0∨¬seen=A4 seen) (by simp only [eq_false hh1,tsl]) (oA 1 (.i .i64 (B2 live)) z0)))) ?_
 exact⟨rfl,by kernel_rfl⟩
 refine rG cx [0,2,6,8,9,10,22] [6,8,9,10] (fT (I1 (live)) (tN 2 (B2 live) (0:Int) (tT 3 (A0 hh1) (fT (A0m (seen) (by exact hb.1)) (tQ 6 (seen=A4 seen) (tT 7 (by first | (simp only [eq_false hh1,tsl];done) | simp_all:AV.b (decide ¬seen=A4 seen)=AV.b (decide (¬B2 live=0∨¬seen=A4 seen))) (oA 1 (.i .i64 (B2 live)) (oA 5 (.b (decide (seen=A4 seen))) z0)))))))) ?_
 exact⟨rfl,by kernel_rfl⟩
 refine sn<|dC (¬B2 live=0∨¬seen=A4 seen) (fun hh2=>?_) fun hh2=>?_
 refine sq<|rG cx [10,11] [10] z0<|sn<|rT<|nR<|qR (.tup [.agg [.nl,.nl,.nl,.nl],.i .i64 ((1:Int))]) (A3.tup (ZLe.cons (A3.agg (ZLe.cons (A3.nl' (show List.map c46 (B1 { live:=live,seen:=seen,rep:=rep,lim:=lim,act:={ kind:=(2:Int),sku:=s,qty:=q,past:=p:Actn }:Wish }).1.adds=[]from(by rw[B5 (w:=⟨live,seen,rep,lim,⟨2,s,q,p⟩⟩) hh2];rfl))) (ZLe.cons (A3.nl' (show List.map c3 (B1 { live:=live,seen:=seen,rep:=rep,lim:=lim,act:={ kind:=(2:Int),sku:=s,qty:=q,past:=p:Actn }:Wish }).1.gone.vec=[]from(by rw[B5 (w:=⟨live,seen,rep,lim,⟨2,s,q,p⟩⟩) hh2];rfl))) (ZLe.cons (A3.nl' (show List.map A9 (B1 { live:=live,seen:=seen,rep:=rep,lim:=lim,act:={ kind:=(2:Int),sku:=s,qty:=q,past:=p:Actn }:Wish }).1.gone.cloud=[]from(by rw[B5 (w:=⟨live,seen,rep,lim,⟨2,s,q,p⟩⟩) hh2];rfl))) (ZLe.cons (A3.nl' (show List.map c54 (B1 { live:=live,seen:=seen,rep:=rep,lim:=lim,act:={ kind:=(2:Int),sku:=s,qty:=q,past:=p:Actn }:Wish }).1.recs=[]from(by rw[B5 (w:=⟨live,seen,rep,lim,⟨2,s,q,p⟩⟩) hh2];rfl))) ZLe.nil))))) (ZLe.cons (A3.eq (show AV.i .i64 1=AV.i .i64 (B1 { live:=live,seen:=seen,rep:=rep,lim:=lim,act:={ kind:=(2:Int),sku:=s,qty:=q,past:=p:Actn }:Wish }).2 from(by rw[B5 (w:=⟨live,seen,rep,lim,⟨2,s,q,p⟩⟩) hh2]))) ZLe.nil)))
 refine sK<|sn<|sq<|sq<|rG cx [0,2,6,8,9,10,12] [6,8,9,10] (fT (A8w (live) (seen) (by exact hb.1)) (oA 2 (.tup [.sl (List.map c46 (D3 live seen false).1),.i .i64 ((D3 live seen false).2)]) z0)) ?_
 refine sn<|rD cx [0,2,6,8,9,10,32] [6,8,9,10] (tL 1 c46 ((D3 live seen false).1) (zB 2 ((0:Int) <(↑(D3 live seen false).1.length:Int)))) (fun hh3=>?_) fun hh3=>?_
 refine sq<|rG cx [10,11] [10] z0<|sn<|rT<|nR<|qR (.tup [.agg [.nl,.nl,.nl,.nl],.i .i64 ((1:Int))]) (A3.tup (ZLe.cons (A3.agg (ZLe.cons (A3.nl' (show List.map c46 (B1 { live:=live,seen:=seen,rep:=rep,lim:=lim,act:={ kind:=(2:Int),sku:=s,qty:=q,past:=p:Actn }:Wish }).1.adds=[]from(by rw[B6 (w:=⟨live,seen,rep,lim,⟨2,s,q,p⟩⟩) hh2 hh3];rfl))) (ZLe.cons (A3.nl' (show List.map c3 (B1 { live:=live,seen:=seen,rep:=rep,lim:=lim,act:={ kind:=(2:Int),sku:=s,qty:=q,past:=p:Actn }:Wish }).1.gone.vec=[]from(by rw[B6 (w:=⟨live,seen,rep,lim,⟨2,s,q,p⟩⟩) hh2 hh3];rfl))) (ZLe.cons (A3.nl' (show List.map A9 (B1 { live:=live,seen:=seen,rep:=rep,lim:=lim,act:={ kind:=(2:Int),sku:=s,qty:=q,past:=p:Actn }:Wish }).1.gone.cloud=[]from(by rw[B6 (w:=⟨live,seen,rep,lim,⟨2,s,q,p⟩⟩) hh2 hh3];rfl))) (ZLe.cons (A3.nl' (show List.map c54 (B1 { live:=live,seen:=seen,rep:=rep,lim:=lim,act:={ kind:=(2:Int),sku:=s,qty:=q,past:=p:Actn }:Wish }).1.recs=[]from(by rw[B6 (w:=⟨live,seen,rep,lim,⟨2,s,q,p⟩⟩) hh2 hh3];rfl))) ZLe.nil))))) (ZLe.cons (A3.eq (show AV.i .i64 1=AV.i .i64 (B1 { live:=live,seen:=seen,rep:=rep,lim:=lim,act:={ kind:=(2:Int),sku:=s,qty:=q,past:=p:Actn }:Wish }).2 from(by rw[B6 (w:=⟨live,seen,rep,lim,⟨2,s,q,p⟩⟩) hh2 hh3]))) ZLe.nil)))
 refine sK<|sn<|sq<|sq<|A7 (σ':=⟨[(0,.sl (List.map c46 live)),(2,.i .i64 (rep)),(6,.ptr (6) (0) (0) (0)),(8,.ptr (8) (0) (0) (0)),(9,.ptr (9) (0) (0) (0)),(10,.ptr (10) (0) (0) (0)),(39,.b (decide (rep <(0:Int)∨16≤rep)))],[(6,⟨0,26,.var [.sl (List.map c3 seen.vec),.sl (List.map A9 seen.cloud)]⟩),(8,⟨0,28,.var [.i .i64 (lim.lines),.i .i64 (lim.count)]⟩),(9,⟨0,30,.var [.i .i64 ((2:Int)),.s ({ kind:=(2:Int),sku:=s,qty:=q,past:=p:Actn }.sku),.i .i64 ({ kind:=(2:Int),sku:=s,qty:=q,past:=p:Actn }.qty),.sl (List.map c3 { kind:=(2:Int),sku:=s,qty:=q,past:=p:Actn }.past.vec),.sl (List.map A9 { kind:=(2:Int),sku:=s,qty:=q,past:=p:Actn }.past.cloud)]⟩),(10,⟨0,36,.var [.nl,.nl,.nl,.nl]⟩)]⟩) ?_ ?_
 refine A2 (rep <(0:Int)) (fun h_5=>?_) (fun h_5=>?_)
 refine rG cx [0,2,6,8,9,10,39] [6,8,9,10] (tT 1 (A1 h_5) (tD 5 true (rep <(0:Int)∨16≤rep) (by simp only [eq_true h_5,tsl]) z0)) ?_
 exact⟨rfl,by kernel_rfl⟩
 refine rG cx [0,2,6,8,9,10,39] [6,8,9,10] (tT 1 (A0 h_5) (tB 4 (16≤rep) (tD 5 (decide (16≤rep)) (rep <(0:Int)∨16≤rep) (by simp only [eq_false h_5,tsl]) z0))) ?_
 exact⟨rfl,by kernel_rfl⟩
 refine sn<|dC (rep <(0:Int)∨16≤rep) (fun h6=>?_) fun h6=>?_
 refine sq<|rG cx [10,11] [10] z0<|sn<|rT<|nR<|qR (.tup [.agg [.nl,.nl,.nl,.nl],.i .i64 ((3:Int))]) (A3.tup (ZLe.cons (A3.agg (ZLe.cons (A3.nl' (show List.map c46 (B1 { live:=live,seen:=seen,rep:=rep,lim:=lim,act:={ kind:=(2:Int),sku:=s,qty:=q,past:=p:Actn }:Wish }).1.adds=[]from(by rw[C5 (w:=⟨live,seen,rep,lim,⟨2,s,q,p⟩⟩) hh2 hh3 h6];rfl))) (ZLe.cons (A3.nl' (show List.map c3 (B1 { live:=live,seen:=seen,rep:=rep,lim:=lim,act:={ kind:=(2:Int),sku:=s,qty:=q,past:=p:Actn }:Wish }).1.gone.vec=[]from(by rw[C5 (w:=⟨live,seen,rep,lim,⟨2,s,q,p⟩⟩) hh2 hh3 h6];rfl))) (ZLe.cons (A3.nl' (show List.map A9 (B1 { live:=live,seen:=seen,rep:=rep,lim:=lim,act:={ kind:=(2:Int),sku:=s,qty:=q,past:=p:Actn }:Wish }).1.gone.cloud=[]from(by rw[C5 (w:=⟨live,seen,rep,lim,⟨2,s,q,p⟩⟩) hh2 hh3 h6];rfl))) (ZLe.cons (A3.nl' (show List.map c54 (B1 { live:=live,seen:=seen,rep:=rep,lim:=lim,act:={ kind:=(2:Int),sku:=s,qty:=q,past:=p:Actn }:Wish }).1.recs=[]from(by rw[C5 (w:=⟨live,seen,rep,lim,⟨2,s,q,p⟩⟩) hh2 hh3 h6];rfl))) ZLe.nil))))) (ZLe.cons (A3.eq (show AV.i .i64 3=AV.i .i64 (B1 { live:=live,seen:=seen,rep:=rep,lim:=lim,act:={ kind:=(2:Int),sku:=s,qty:=q,past:=p:Actn }:Wish }).2 from(by rw[C5 (w:=⟨live,seen,rep,lim,⟨2,s,q,p⟩⟩) hh2 hh3 h6]))) ZLe.nil)))
 refine sK<|sn<|sq<|sq<|A7 (σ':=⟨[(0,.sl (List.map c46 live)),(2,.i .i64 (rep)),(6,.ptr (6) (0) (0) (0)),(8,.ptr (8) (0) (0) (0)),(9,.ptr (9) (0) (0) (0)),(10,.ptr (10) (0) (0) (0)),(58,.b (decide (lim.lines <(1:Int)∨(1000:Int) < lim.lines∨lim.count <(1:Int)∨(1000000000:Int) < lim.count)))],[(6,⟨0,26,.var [.sl (List.map c3 seen.vec),.sl (List.map A9 seen.cloud)]⟩),(8,⟨0,28,.var [.i .i64 (lim.lines),.i .i64 (lim.count)]⟩),(9,⟨0,30,.var [.i .i64 ((2:Int)),.s ({ kind:=(2:Int),sku:=s,qty:=q,past:=p:Actn }.sku),.i .i64 ({ kind:=(2:Int),sku:=s,qty:=q,past:=p:Actn }.qty),.sl (List.map c3 { kind:=(2:Int),sku:=s,qty:=q,past:=p:Actn }.past.vec),.sl (List.map A9 { kind:=(2:Int),sku:=s,qty:=q,past:=p:Actn }.past.cloud)]⟩),(10,⟨0,36,.var [.nl,.nl,.nl,.nl]⟩)]⟩) ?_ ?_
 refine A2 (lim.lines <(1:Int)) (fun h_8=>?_) (fun h_8=>?_)
 refine rG cx [0,2,6,8,9,10,58] [6,8,9,10] (tT 2 (A1 h_8) (tD 17 true (lim.lines <(1:Int)∨(1000:Int) < lim.lines∨lim.count <(1:Int)∨(1000000000:Int) < lim.count) (by simp only [eq_true h_8,tsl]) z0)) ?_
 exact⟨rfl,by kernel_rfl⟩
 refine A2 ((1000:Int) < lim.lines) (fun h_9=>?_) (fun h_9=>?_)
 refine rG cx [0,2,6,8,9,10,58] [6,8,9,10] (tT 2 (A0 h_8) (tT 6 (A1 h_9) (tD 17 true (lim.lines <(1:Int)∨(1000:Int) < lim.lines∨lim.count <(1:Int)∨(1000000000:Int) < lim.count) (by simp only [eq_false h_8,eq_true h_9,tsl]) z0))) ?_
 exact⟨rfl,by kernel_rfl⟩
 refine A2 (lim.count <(1:Int)) (fun h_10=>?_) (fun h_10=>?_)
 refine rG cx [0,2,6,8,9,10,58] [6,8,9,10] (tT 2 (A0 h_8) (tT 6 (A0 h_9) (tT 11 (A1 h_10) (tD 17 true (lim.lines <(1:Int)∨(1000:Int) < lim.lines∨lim.count <(1:Int)∨(1000000000:Int) < lim.count) (by simp only [eq_false h_8,eq_false h_9,eq_true h_10,tsl]) z0)))) ?_
 exact⟨rfl,by kernel_rfl⟩
 refine rG cx [0,2,6,8,9,10,58] [6,8,9,10] (tT 2 (A0 h_8) (tT 6 (A0 h_9) (tT 11 (A0 h_10) (tB 16 ((1000000000:Int) < lim.count) (tD 17 (decide ((1000000000:Int) < lim.count)) (lim.lines <(1:Int)∨(1000:Int) < lim.lines∨lim.count <(1:Int)∨(1000000000:Int) < lim.count) (by simp only [eq_false h_8,eq_false h_9,eq_false h_10,tsl]) z0))))) ?_
 exact⟨rfl,by kernel_rfl⟩
 refine sn<|dC (lim.lines <(1:Int)∨(1000:Int) < lim.lines∨lim.count <(1:Int)∨(1000000000:Int) < lim.count) (fun h11=>?_) fun h11=>?_
 refine sq<|rG cx [10,11] [10] z0<|sn<|rT<|nR<|qR (.tup [.agg [.nl,.nl,.nl,.nl],.i .i64 ((2:Int))]) (A3.tup (ZLe.cons (A3.agg (ZLe.cons (A3.nl' (show List.map c46 (B1 { live:=live,seen:=seen,rep:=rep,lim:=lim,act:={ kind:=(2:Int),sku:=s,qty:=q,past:=p:Actn }:Wish }).1.adds=[]from(by rw[C6 (w:=⟨live,seen,rep,lim,⟨2,s,q,p⟩⟩) hh2 hh3 h6 h11];rfl))) (ZLe.cons (A3.nl' (show List.map c3 (B1 { live:=live,seen:=seen,rep:=rep,lim:=lim,act:={ kind:=(2:Int),sku:=s,qty:=q,past:=p:Actn }:Wish }).1.gone.vec=[]from(by rw[C6 (w:=⟨live,seen,rep,lim,⟨2,s,q,p⟩⟩) hh2 hh3 h6 h11];rfl))) (ZLe.cons (A3.nl' (show List.map A9 (B1 { live:=live,seen:=seen,rep:=rep,lim:=lim,act:={ kind:=(2:Int),sku:=s,qty:=q,past:=p:Actn }:Wish }).1.gone.cloud=[]from(by rw[C6 (w:=⟨live,seen,rep,lim,⟨2,s,q,p⟩⟩) hh2 hh3 h6 h11];rfl))) (ZLe.cons (A3.nl' (show List.map c54 (B1 { live:=live,seen:=seen,rep:=rep,lim:=lim,act:={ kind:=(2:Int),sku:=s,qty:=q,past:=p:Actn }:Wish }).1.recs=[]from(by rw[C6 (w:=⟨live,seen,rep,lim,⟨2,s,q,p⟩⟩) hh2 hh3 h6 h11];rfl))) ZLe.nil))))) (ZLe.cons (A3.eq (show AV.i .i64 2=AV.i .i64 (B1 { live:=live,seen:=seen,rep:=rep,lim:=lim,act:={ kind:=(2:Int),sku:=s,qty:=q,past:=p:Actn }:Wish }).2 from(by rw[C6 (w:=⟨live,seen,rep,lim,⟨2,s,q,p⟩⟩) hh2 hh3 h6 h11]))) ZLe.nil)))
 refine sK<|sn<|sq<|sq<|rG cx [0,2,6,8,9,10,14] [6,8,9,10] (fT (Ab5 ({ kind:=(2:Int),sku:={ kind:=(2:Int),sku:=s,qty:=q,past:=p:Actn }.sku,qty:={ kind:=(2:Int),sku:=s,qty:=q,past:=p:Actn }.qty,past:={ kind:=(2:Int),sku:=s,qty:=q,past:=p:Actn }.past:Actn }) (by(with_reducible assumption))) (oA 1 (.i .i64 (K6 { kind:=(2:Int),sku:={ kind:=(2:Int),sku:=s,qty:=q,past:=p:Actn }.sku,qty:={ kind:=(2:Int),sku:=s,qty:=q,past:=p:Actn }.qty,past:={ kind:=(2:Int),sku:=s,qty:=q,past:=p:Actn }.past:Actn })) z0))<|sn<|sq<|rG cx [0,2,6,8,9,10,14,63] [6,8,9,10] (tN 1 (K6 { kind:=(2:Int),sku:={ kind:=(2:Int),sku:=s,qty:=q,past:=p:Actn }.sku,qty:={ kind:=(2:Int),sku:=s,qty:=q,past:=p:Actn }.qty,past:={ kind:=(2:Int),sku:=s,qty:=q,past:=p:Actn }.past:Actn }) (0:Int) z0)<|sn<|dC (¬K6 { kind:=(2:Int),sku:={ kind:=(2:Int),sku:=s,qty:=q,past:=p:Actn }.sku,qty:={ kind:=(2:Int),sku:=s,qty:=q,past:=p:Actn }.qty,past:={ kind:=(2:Int),sku:=s,qty:=q,past:=p:Actn }.past:Actn }=(0:Int)) (fun h12=>?_) fun h12=>?_
 refine sq<|rG cx [10,11] [10] z0<|sn<|rT<|nR<|qR (.tup [.agg [.nl,.nl,.nl,.nl],.i .i64 (K6 { kind:=(2:Int),sku:={ kind:=(2:Int),sku:=s,qty:=q,past:=p:Actn }.sku,qty:={ kind:=(2:Int),sku:=s,qty:=q,past:=p:Actn }.qty,past:={ kind:=(2:Int),sku:=s,qty:=q,past:=p:Actn }.past:Actn })]) (A3.tup (ZLe.cons (A3.agg (ZLe.cons (A3.nl' (show List.map c46 (B1 { live:=live,seen:=seen,rep:=rep,lim:=lim,act:={ kind:=(2:Int),sku:=s,qty:=q,past:=p:Actn }:Wish }).1.adds=[]from(by rw[D0 (w:=⟨live,seen,rep,lim,⟨2,s,q,p⟩⟩) hh2 hh3 h6 h11 h12];rfl))) (ZLe.cons (A3.nl' (show List.map c3 (B1 { live:=live,seen:=seen,rep:=rep,lim:=lim,act:={ kind:=(2:Int),sku:=s,qty:=q,past:=p:Actn }:Wish }).1.gone.vec=[]from(by rw[D0 (w:=⟨live,seen,rep,lim,⟨2,s,q,p⟩⟩) hh2 hh3 h6 h11 h12];rfl))) (ZLe.cons (A3.nl' (show List.map A9 (B1 { live:=live,seen:=seen,rep:=rep,lim:=lim,act:={ kind:=(2:Int),sku:=s,qty:=q,past:=p:Actn }:Wish }).1.gone.cloud=[]from(by rw[D0 (w:=⟨live,seen,rep,lim,⟨2,s,q,p⟩⟩) hh2 hh3 h6 h11 h12];rfl))) (ZLe.cons (A3.nl' (show List.map c54 (B1 { live:=live,seen:=seen,rep:=rep,lim:=lim,act:={ kind:=(2:Int),sku:=s,qty:=q,past:=p:Actn }:Wish }).1.recs=[]from(by rw[D0 (w:=⟨live,seen,rep,lim,⟨2,s,q,p⟩⟩) hh2 hh3 h6 h11 h12];rfl))) ZLe.nil))))) (ZLe.cons (A3.eq (show AV.i .i64 (K6 { kind:=(2:Int),sku:={ kind:=(2:Int),sku:=s,qty:=q,past:=p:Actn }.sku,qty:={ kind:=(2:Int),sku:=s,qty:=q,past:=p:Actn }.qty,past:={ kind:=(2:Int),sku:=s,qty:=q,past:=p:Actn }.past:Actn })=AV.i .i64 (B1 { live:=live,seen:=seen,rep:=rep,lim:=lim,act:={ kind:=(2:Int),sku:=s,qty:=q,past:=p:Actn }:Wish }).2 from(by rw[D0 (w:=⟨live,seen,rep,lim,⟨2,s,q,p⟩⟩) hh2 hh3 h6 h11 h12]))) ZLe.nil)))
 refine sK<|sn<|sq<|rA cx [10,11] [10] (fT (A2a ) (fO ((0:Int)≤(2:Int)) (fR (some [AV.fn (Fn.func (155:FuncId)) [] []]) (fR 1 (fT (con155 ({ live:=live,seen:=seen,rep:=rep,lim:=lim,act:={ kind:=(2:Int),sku:={ kind:=(2:Int),sku:=s,qty:=q,past:=p:Actn }.sku,qty:={ kind:=(2:Int),sku:=s,qty:=q,past:=p:Actn }.qty,past:={ kind:=(2:Int),sku:=s,qty:=q,past:=p:Actn }.past:Actn }:Wish }) (by(with_reducible assumption)) (by(with_reducible assumption)) (by exact B05 h12 (.inr rfl))) (oA 0 (Ap2 (A2a )) (oR 3 [.fn (Fn.func (155:FuncId)) [] []] (oA 11 (.tup [.agg [.sl (List.map c46 (M5 { live:=live,seen:=seen,rep:=rep,lim:=lim,act:={ kind:=(2:Int),sku:={ kind:=(2:Int),sku:=s,qty:=q,past:=p:Actn }.sku,qty:={ kind:=(2:Int),sku:=s,qty:=q,past:=p:Actn }.qty,past:={ kind:=(2:Int),sku:=s,qty:=q,past:=p:Actn }.past:Actn }:Wish }).1.adds),.sl (List.map c3 (M5 { live:=live,seen:=seen,rep:=rep,lim:=lim,act:={ kind:=(2:Int),sku:={ kind:=(2:Int),sku:=s,qty:=q,past:=p:Actn }.sku,qty:={ kind:=(2:Int),sku:=s,qty:=q,past:=p:Actn }.qty,past:={ kind:=(2:Int),sku:=s,qty:=q,past:=p:Actn }.past:Actn }:Wish }).1.gone.vec),.sl (List.map A9 (M5 { live:=live,seen:=seen,rep:=rep,lim:=lim,act:={ kind:=(2:Int),sku:={ kind:=(2:Int),sku:=s,qty:=q,past:=p:Actn }.sku,qty:={ kind:=(2:Int),sku:=s,qty:=q,past:=p:Actn }.qty,past:={ kind:=(2:Int),sku:=s,qty:=q,past:=p:Actn }.past:Actn }:Wish }).1.gone.cloud),.sl (List.map c54 (M5 { live:=live,seen:=seen,rep:=rep,lim:=lim,act:={ kind:=(2:Int),sku:={ kind:=(2:Int),sku:=s,qty:=q,past:=p:Actn }.sku,qty:={ kind:=(2:Int),sku:=s,qty:=q,past:=p:Actn }.qty,past:={ kind:=(2:Int),sku:=s,qty:=q,past:=p:Actn }.past:Actn }:Wish }).1.recs)],.i .i64 ((M5 { live:=live,seen:=seen,rep:=rep,lim:=lim,act:={ kind:=(2:Int),sku:={ kind:=(2:Int),sku:=s,qty:=q,past:=p:Actn }.sku,qty:={ kind:=(2:Int),sku:=s,qty:=q,past:=p:Actn }.qty,past:={ kind:=(2:Int),sku:=s,qty:=q,past:=p:Actn }.past:Actn }:Wish }).2)]) z0)))))))) ?_
 refine sn<|rT<|qR (.tup [.agg [.sl (List.map c46 (M5 { live:=live,seen:=seen,rep:=rep,lim:=lim,act:={ kind:=(2:Int),sku:={ kind:=(2:Int),sku:=s,qty:=q,past:=p:Actn }.sku,qty:={ kind:=(2:Int),sku:=s,qty:=q,past:=p:Actn }.qty,past:={ kind:=(2:Int),sku:=s,qty:=q,past:=p:Actn }.past:Actn }:Wish }).1.adds),.sl (List.map c3 (M5 { live:=live,seen:=seen,rep:=rep,lim:=lim,act:={ kind:=(2:Int),sku:={ kind:=(2:Int),sku:=s,qty:=q,past:=p:Actn }.sku,qty:={ kind:=(2:Int),sku:=s,qty:=q,past:=p:Actn }.qty,past:={ kind:=(2:Int),sku:=s,qty:=q,past:=p:Actn }.past:Actn }:Wish }).1.gone.vec),.sl (List.map A9 (M5 { live:=live,seen:=seen,rep:=rep,lim:=lim,act:={ kind:=(2:Int),sku:={ kind:=(2:Int),sku:=s,qty:=q,past:=p:Actn }.sku,qty:={ kind:=(2:Int),sku:=s,qty:=q,past:=p:Actn }.qty,past:={ kind:=(2:Int),sku:=s,qty:=q,past:=p:Actn }.past:Actn }:Wish }).1.gone.cloud),.sl (List.map c54 (M5 { live:=live,seen:=seen,rep:=rep,lim:=lim,act:={ kind:=(2:Int),sku:={ kind:=(2:Int),sku:=s,qty:=q,past:=p:Actn }.sku,qty:={ kind:=(2:Int),sku:=s,qty:=q,past:=p:Actn }.qty,past:={ kind:=(2:Int),sku:=s,qty:=q,past:=p:Actn }.past:Actn }:Wish }).1.recs)],.i .i64 ((M5 { live:=live,seen:=seen,rep:=rep,lim:=lim,act:={ kind:=(2:Int),sku:={ kind:=(2:Int),sku:=s,qty:=q,past:=p:Actn }.sku,qty:={ kind:=(2:Int),sku:=s,qty:=q,past:=p:Actn }.qty,past:={ kind:=(2:Int),sku:=s,qty:=q,past:=p:Actn }.past:Actn }:Wish }).2)]) (A3.tup (ZLe.cons (A3.eq (show AV.agg [AV.sl (List.map c46 (M5 { live:=live,seen:=seen,rep:=rep,lim:=lim,act:={ kind:=(2:Int),sku:={ kind:=(2:Int),sku:=s,qty:=q,past:=p:Actn }.sku,qty:={ kind:=(2:Int),sku:=s,qty:=q,past:=p:Actn }.qty,past:={ kind:=(2:Int),sku:=s,qty:=q,past:=p:Actn }.past:Actn }:Wish }).1.adds),AV.sl (List.map c3 (M5 { live:=live,seen:=seen,rep:=rep,lim:=lim,act:={ kind:=(2:Int),sku:={ kind:=(2:Int),sku:=s,qty:=q,past:=p:Actn }.sku,qty:={ kind:=(2:Int),sku:=s,qty:=q,past:=p:Actn }.qty,past:={ kind:=(2:Int),sku:=s,qty:=q,past:=p:Actn }.past:Actn }:Wish }).1.gone.vec),AV.sl (List.map A9 (M5 { live:=live,seen:=seen,rep:=rep,lim:=lim,act:={ kind:=(2:Int),sku:={ kind:=(2:Int),sku:=s,qty:=q,past:=p:Actn }.sku,qty:={ kind:=(2:Int),sku:=s,qty:=q,past:=p:Actn }.qty,past:={ kind:=(2:Int),sku:=s,qty:=q,past:=p:Actn }.past:Actn }:Wish }).1.gone.cloud),AV.sl (List.map c54 (M5 { live:=live,seen:=seen,rep:=rep,lim:=lim,act:={ kind:=(2:Int),sku:={ kind:=(2:Int),sku:=s,qty:=q,past:=p:Actn }.sku,qty:={ kind:=(2:Int),sku:=s,qty:=q,past:=p:Actn }.qty,past:={ kind:=(2:Int),sku:=s,qty:=q,past:=p:Actn }.past:Actn }:Wish }).1.recs)]=AV.agg [AV.sl (List.map c46 (B1 { live:=live,seen:=seen,rep:=rep,lim:=lim,act:={ kind:=(2:Int),sku:=s,qty:=q,past:=p:Actn }:Wish }).1.adds),AV.sl (List.map c3 (B1 { live:=live,seen:=seen,rep:=rep,lim:=lim,act:={ kind:=(2:Int),sku:=s,qty:=q,past:=p:Actn }:Wish }).1.gone.vec),AV.sl (List.map A9 (B1 { live:=live,seen:=seen,rep:=rep,lim:=lim,act:={ kind:=(2:Int),sku:=s,qty:=q,past:=p:Actn }:Wish }).1.gone.cloud),AV.sl (List.map c54 (B1 { live:=live,seen:=seen,rep:=rep,lim:=lim,act:={ kind:=(2:Int),sku:=s,qty:=q,past:=p:Actn }:Wish }).1.recs)]from(by rw[G1 (w:=⟨live,seen,rep,lim,⟨2,s,q,p⟩⟩) hh2 hh3 h6 h11 h12,B07 (w:=⟨live,seen,rep,lim,⟨2,s,q,p⟩⟩) rfl]))) (ZLe.cons (A3.eq (show AV.i .i64 (M5 { live:=live,seen:=seen,rep:=rep,lim:=lim,act:={ kind:=(2:Int),sku:={ kind:=(2:Int),sku:=s,qty:=q,past:=p:Actn }.sku,qty:={ kind:=(2:Int),sku:=s,qty:=q,past:=p:Actn }.qty,past:={ kind:=(2:Int),sku:=s,qty:=q,past:=p:Actn }.past:Actn }:Wish }).2=AV.i .i64 (B1 { live:=live,seen:=seen,rep:=rep,lim:=lim,act:={ kind:=(2:Int),sku:=s,qty:=q,past:=p:Actn }:Wish }).2 from(by rw[G1 (w:=⟨live,seen,rep,lim,⟨2,s,q,p⟩⟩) hh2 hh3 h6 h11 h12,B07 (w:=⟨live,seen,rep,lim,⟨2,s,q,p⟩⟩) rfl]))) ZLe.nil)))
theorem B3p(live:List Entry)(seen:Past)(rep:Int)(lim:Limits)(s:ByteArray)(q:Int)(p:Past)(hs:live.length*40≤140737488351232)(hb:szP seen)(hp:szP p):Con Tryz.prog 15 [.sl (live.map c46),.agg (c26 seen),.i .i64 rep,.agg (c28 lim),.agg (c30 ⟨3,s,q,p⟩)] (.tup [.agg (c36 (B1 ⟨live,seen,rep,lim,⟨3,s,q,p⟩⟩).1),.i .i64 (B1 ⟨live,seen,rep,lim,⟨3,s,q,p⟩⟩).2]) :=
 by
 refine lN 0 c46 (live) Tryz.func15 fun hl_0=>sC A6 [.cell 10 36,.tmp 11] 80 Tryz.func15 ?_
 intro e0 cx
 refine sq<|rG cx [0,2,6,8,9,10] [6,8,9,10] z0<|sn<|sq<|sq<|A7 (σ':=⟨[(0,.sl (List.map c46 live)),(2,.i .i64 (rep)),(6,.ptr (6) (0) (0) (0)),(8,.ptr (8) (0) (0) (0)),(9,.ptr (9) (0) (0) (0)),(10,.ptr (10) (0) (0) (0)),(22,.b (decide (¬B2 live=0∨¬seen=A4 seen)))],[(6,⟨0,26,.var [.sl (List.map c3 seen.vec),.sl (List.map A9 seen.cloud)]⟩),(8,⟨0,28,.var [.i .i64 (lim.lines),.i .i64 (lim.count)]⟩),(9,⟨0,30,.var [.i .i64 ((3:Int)),.s ({ kind:=(3:Int),sku:=s,qty:=q,past:=p:Actn }.sku),.i .i64 ({ kind:=(3:Int),sku:=s,qty:=q,past:=p:Actn }.qty),.sl (List.map c3 { kind:=(3:Int),sku:=s,qty:=q,past:=p:Actn }.past.vec),.sl (List.map A9 { kind:=(3:Int),sku:=s,qty:=q,past:=p:Actn }.past.cloud)]⟩),(10,⟨0,36,.var [.nl,.nl,.nl,.nl]⟩)]⟩) ?_ ?_
 refine A2 (¬B2 live=0) (fun hh1=>?_) (fun hh1=>?_)
 refine rG cx [0,2,6,8,9,10,22] [6,8,9,10] (fT (I1 (live)) (tT 2 (E1 hh1:AV.b (B2 live !=0)=AV.b true) (tD 7 true (¬B2 live=0∨¬seen=A4 seen) (by simp only [eq_false hh1,tsl]) (oA 1 (.i .i64 (B2 live)) z0)))) ?_
 exact⟨rfl,by kernel_rfl⟩
 refine rG cx [0,2,6,8,9,10,22] [6,8,9,10] (fT (I1 (live)) (tN 2 (B2 live) (0:Int) (tT 3 (A0 hh1) (fT (A0m (seen) (by exact hb.1)) (tQ 6 (seen=A4 seen) (tT 7 (by first | (simp only [eq_false hh1,tsl];done) | simp_all:AV.b (decide ¬seen=A4 seen)=AV.b (decide (¬B2 live=0∨¬seen=A4 seen))) (oA 1 (.i .i64 (B2 live)) (oA 5 (.b (decide (seen=A4 seen))) z0)))))))) ?_
 exact⟨rfl,by kernel_rfl⟩
 refine sn<|dC (¬B2 live=0∨¬seen=A4 seen) (fun hh2=>?_) fun hh2=>?_
 refine sq<|rG cx [10,11] [10] z0<|sn<|rT<|nR<|qR (.tup [.agg [.nl,.nl,.nl,.nl],.i .i64 ((1:Int))]) (A3.tup (ZLe.cons (A3.agg (ZLe.cons (A3.nl' (show List.map c46 (B1 { live:=live,seen:=seen,rep:=rep,lim:=lim,act:={ kind:=(3:Int),sku:=s,qty:=q,past:=p:Actn }:Wish }).1.adds=[]from(by rw[B5 (w:=⟨live,seen,rep,lim,⟨3,s,q,p⟩⟩) hh2];rfl))) (ZLe.cons (A3.nl' (show List.map c3 (B1 { live:=live,seen:=seen,rep:=rep,lim:=lim,act:={ kind:=(3:Int),sku:=s,qty:=q,past:=p:Actn }:Wish }).1.gone.vec=[]from(by rw[B5 (w:=⟨live,seen,rep,lim,⟨3,s,q,p⟩⟩) hh2];rfl))) (ZLe.cons (A3.nl' (show List.map A9 (B1 { live:=live,seen:=seen,rep:=rep,lim:=lim,act:={ kind:=(3:Int),sku:=s,qty:=q,past:=p:Actn }:Wish }).1.gone.cloud=[]from(by rw[B5 (w:=⟨live,seen,rep,lim,⟨3,s,q,p⟩⟩) hh2];rfl))) (ZLe.cons (A3.nl' (show List.map c54 (B1 { live:=live,seen:=seen,rep:=rep,lim:=lim,act:={ kind:=(3:Int),sku:=s,qty:=q,past:=p:Actn }:Wish }).1.recs=[]from(by rw[B5 (w:=⟨live,seen,rep,lim,⟨3,s,q,p⟩⟩) hh2];rfl))) ZLe.nil))))) (ZLe.cons (A3.eq (show AV.i .i64 1=AV.i .i64 (B1 { live:=live,seen:=seen,rep:=rep,lim:=lim,act:={ kind:=(3:Int),sku:=s,qty:=q,past:=p:Actn }:Wish }).2 from(by rw[B5 (w:=⟨live,seen,rep,lim,⟨3,s,q,p⟩⟩) hh2]))) ZLe.nil)))
 refine sK<|sn<|sq<|sq<|rG cx [0,2,6,8,9,10,12] [6,8,9,10] (fT (A8w (live) (seen) (by exact hb.1)) (oA 2 (.tup [.sl (List.map c46 (D3 live seen false).1),.i .i64 ((D3 live seen false).2)]) z0)) ?_
 refine sn<|rD cx [0,2,6,8,9,10,32] [6,8,9,10] (tL 1 c46 ((D3 live seen false).1) (zB 2 ((0:Int) <(↑(D3 live seen false).1.length:Int)))) (fun hh3=>?_) fun hh3=>?_
 refine sq<|rG cx [10,11] [10] z0<|sn<|rT<|nR<|qR (.tup [.agg [.nl,.nl,.nl,.nl],.i .i64 ((1:Int))]) (A3.tup (ZLe.cons (A3.agg (ZLe.cons (A3.nl' (show List.map c46 (B1 { live:=live,seen:=seen,rep:=rep,lim:=lim,act:={ kind:=(3:Int),sku:=s,qty:=q,past:=p:Actn }:Wish }).1.adds=[]from(by rw[B6 (w:=⟨live,seen,rep,lim,⟨3,s,q,p⟩⟩) hh2 hh3];rfl))) (ZLe.cons (A3.nl' (show List.map c3 (B1 { live:=live,seen:=seen,rep:=rep,lim:=lim,act:={ kind:=(3:Int),sku:=s,qty:=q,past:=p:Actn }:Wish }).1.gone.vec=[]from(by rw[B6 (w:=⟨live,seen,rep,lim,⟨3,s,q,p⟩⟩) hh2 hh3];rfl))) (ZLe.cons (A3.nl' (show List.map A9 (B1 { live:=live,seen:=seen,rep:=rep,lim:=lim,act:={ kind:=(3:Int),sku:=s,qty:=q,past:=p:Actn }:Wish }).1.gone.cloud=[]from(by rw[B6 (w:=⟨live,seen,rep,lim,⟨3,s,q,p⟩⟩) hh2 hh3];rfl))) (ZLe.cons (A3.nl' (show List.map c54 (B1 { live:=live,seen:=seen,rep:=rep,lim:=lim,act:={ kind:=(3:Int),sku:=s,qty:=q,past:=p:Actn }:Wish }).1.recs=[]from(by rw[B6 (w:=⟨live,seen,rep,lim,⟨3,s,q,p⟩⟩) hh2 hh3];rfl))) ZLe.nil))))) (ZLe.cons (A3.eq (show AV.i .i64 1=AV.i .i64 (B1 { live:=live,seen:=seen,rep:=rep,lim:=lim,act:={ kind:=(3:Int),sku:=s,qty:=q,past:=p:Actn }:Wish }).2 from(by rw[B6 (w:=⟨live,seen,rep,lim,⟨3,s,q,p⟩⟩) hh2 hh3]))) ZLe.nil)))
 refine sK<|sn<|sq<|sq<|A7 (σ':=⟨[(0,.sl (List.map c46 live)),(2,.i .i64 (rep)),(6,.ptr (6) (0) (0) (0)),(8,.ptr (8) (0) (0) (0)),(9,.ptr (9) (0) (0) (0)),(10,.ptr (10) (0) (0) (0)),(39,.b (decide (rep <(0:Int)∨16≤rep)))],[(6,⟨0,26,.var [.sl (List.map c3 seen.vec),.sl (List.map A9 seen.cloud)]⟩),(8,⟨0,28,.var [.i .i64 (lim.lines),.i .i64 (lim.count)]⟩),(9,⟨0,30,.var [.i .i64 ((3:Int)),.s ({ kind:=(3:Int),sku:=s,qty:=q,past:=p:Actn }.sku),.i .i64 ({ kind:=(3:Int),sku:=s,qty:=q,past:=p:Actn }.qty),.sl (List.map c3 { kind:=(3:Int),sku:=s,qty:=q,past:=p:Actn }.past.vec),.sl (List.map A9 { kind:=(3:Int),sku:=s,qty:=q,past:=p:Actn }.past.cloud)]⟩),(10,⟨0,36,.var [.nl,.nl,.nl,.nl]⟩)]⟩) ?_ ?_
 refine A2 (rep <(0:Int)) (fun h_5=>?_) (fun h_5=>?_)
 refine rG cx [0,2,6,8,9,10,39] [6,8,9,10] (tT 1 (A1 h_5) (tD 5 true (rep <(0:Int)∨16≤rep) (by simp only [eq_true h_5,tsl]) z0)) ?_
 exact⟨rfl,by kernel_rfl⟩
 refine rG cx [0,2,6,8,9,10,39] [6,8,9,10] (tT 1 (A0 h_5) (tB 4 (16≤rep) (tD 5 (decide (16≤rep)) (rep <(0:Int)∨16≤rep) (by simp only [eq_false h_5,tsl]) z0))) ?_
 exact⟨rfl,by kernel_rfl⟩
 refine sn<|dC (rep <(0:Int)∨16≤rep) (fun h6=>?_) fun h6=>?_
 refine sq<|rG cx [10,11] [10] z0<|sn<|rT<|nR<|qR (.tup [.agg [.nl,.nl,.nl,.nl],.i .i64 ((3:Int))]) (A3.tup (ZLe.cons (A3.agg (ZLe.cons (A3.nl' (show List.map c46 (B1 { live:=live,seen:=seen,rep:=rep,lim:=lim,act:={ kind:=(3:Int),sku:=s,qty:=q,past:=p:Actn }:Wish }).1.adds=[]from(by rw[C5 (w:=⟨live,seen,rep,lim,⟨3,s,q,p⟩⟩) hh2 hh3 h6];rfl))) (ZLe.cons (A3.nl' (show List.map c3 (B1 { live:=live,seen:=seen,rep:=rep,lim:=lim,act:={ kind:=(3:Int),sku:=s,qty:=q,past:=p:Actn }:Wish }).1.gone.vec=[]from(by rw[C5 (w:=⟨live,seen,rep,lim,⟨3,s,q,p⟩⟩) hh2 hh3 h6];rfl))) (ZLe.cons (A3.nl' (show List.map A9 (B1 { live:=live,seen:=seen,rep:=rep,lim:=lim,act:={ kind:=(3:Int),sku:=s,qty:=q,past:=p:Actn }:Wish }).1.gone.cloud=[]from(by rw[C5 (w:=⟨live,seen,rep,lim,⟨3,s,q,p⟩⟩) hh2 hh3 h6];rfl))) (ZLe.cons (A3.nl' (show List.map c54 (B1 { live:=live,seen:=seen,rep:=rep,lim:=lim,act:={ kind:=(3:Int),sku:=s,qty:=q,past:=p:Actn }:Wish }).1.recs=[]from(by rw[C5 (w:=⟨live,seen,rep,lim,⟨3,s,q,p⟩⟩) hh2 hh3 h6];rfl))) ZLe.nil))))) (ZLe.cons (A3.eq (show AV.i .i64 3=AV.i .i64 (B1 { live:=live,seen:=seen,rep:=rep,lim:=lim,act:={ kind:=(3:Int),sku:=s,qty:=q,past:=p:Actn }:Wish }).2 from(by rw[C5 (w:=⟨live,seen,rep,lim,⟨3,s,q,p⟩⟩) hh2 hh3 h6]))) ZLe.nil)))
 refine sK<|sn<|sq<|sq<|A7 (σ':=⟨[(0,.sl (List.map c46 live)),(2,.i .i64 (rep)),(6,.ptr (6) (0) (0) (0)),(8,.ptr (8) (0) (0) (0)),(9,.ptr (9) (0) (0) (0)),(10,.ptr (10) (0) (0) (0)),(58,.b (decide (lim.lines <(1:Int)∨(1000:Int) < lim.lines∨lim.count <(1:Int)∨(1000000000:Int) < lim.count)))],[(6,⟨0,26,.var [.sl (List.map c3 seen.vec),.sl (List.map A9 seen.cloud)]⟩),(8,⟨0,28,.var [.i .i64 (lim.lines),.i .i64 (lim.count)]⟩),(9,⟨0,30,.var [.i .i64 ((3:Int)),.s ({ kind:=(3:Int),sku:=s,qty:=q,past:=p:Actn }.sku),.i .i64 ({ kind:=(3:Int),sku:=s,qty:=q,past:=p:Actn }.qty),.sl (List.map c3 { kind:=(3:Int),sku:=s,qty:=q,past:=p:Actn }.past.vec),.sl (List.map A9 { kind:=(3:Int),sku:=s,qty:=q,past:=p:Actn }.past.cloud)]⟩),(10,⟨0,36,.var [.nl,.nl,.nl,.nl]⟩)]⟩) ?_ ?_
 refine A2 (lim.lines <(1:Int)) (fun h_8=>?_) (fun h_8=>?_)
 refine rG cx [0,2,6,8,9,10,58] [6,8,9,10] (tT 2 (A1 h_8) (tD 17 true (lim.lines <(1:Int)∨(1000:Int) < lim.lines∨lim.count <(1:Int)∨(1000000000:Int) < lim.count) (by simp only [eq_true h_8,tsl]) z0)) ?_
 exact⟨rfl,by kernel_rfl⟩
 refine A2 ((1000:Int) < lim.lines) (fun h_9=>?_) (fun h_9=>?_)
 refine rG cx [0,2,6,8,9,10,58] [6,8,9,10] (tT 2 (A0 h_8) (tT 6 (A1 h_9) (tD 17 true (lim.lines <(1:Int)∨(1000:Int) < lim.lines∨lim.count <(1:Int)∨(1000000000:Int) < lim.count) (by simp only [eq_false h_8,eq_true h_9,tsl]) z0))) ?_
 exact⟨rfl,by kernel_rfl⟩
 refine A2 (lim.count <(1:Int)) (fun h_10=>?_) (fun h_10=>?_)
 refine rG cx [0,2,6,8,9,10,58] [6,8,9,10] (tT 2 (A0 h_8) (tT 6 (A0 h_9) (tT 11 (A1 h_10) (tD 17 true (lim.lines <(1:Int)∨(1000:Int) < lim.lines∨lim.count <(1:Int)∨(1000000000:Int) < lim.count) (by simp only [eq_false h_8,eq_false h_9,eq_true h_10,tsl]) z0)))) ?_
 exact⟨rfl,by kernel_rfl⟩
 refine rG cx [0,2,6,8,9,10,58] [6,8,9,10] (tT 2 (A0 h_8) (tT 6 (A0 h_9) (tT 11 (A0 h_10) (tB 16 ((1000000000:Int) < lim.count) (tD 17 (decide ((1000000000:Int) < lim.count)) (lim.lines <(1:Int)∨(1000:Int) < lim.lines∨lim.count <(1:Int)∨(1000000000:Int) < lim.count) (by simp only [eq_false h_8,eq_false h_9,eq_false h_10,tsl]) z0))))) ?_
 exact⟨rfl,by kernel_rfl⟩
 refine sn<|dC (lim.lines <(1:Int)∨(1000:Int) < lim.lines∨lim.count <(1:Int)∨(1000000000:Int) < lim.count) (fun h11=>?_) fun h11=>?_
 refine sq<|rG cx [10,11] [10] z0<|sn<|rT<|nR<|qR (.tup [.agg [.nl,.nl,.nl,.nl],.i .i64 ((2:Int))]) (A3.tup (ZLe.cons (A3.agg (ZLe.cons (A3.nl' (show List.map c46 (B1 { live:=live,seen:=seen,rep:=rep,lim:=lim,act:={ kind:=(3:Int),sku:=s,qty:=q,past:=p:Actn }:Wish }).1.adds=[]from(by rw[C6 (w:=⟨live,seen,rep,lim,⟨3,s,q,p⟩⟩) hh2 hh3 h6 h11];rfl))) (ZLe.cons (A3.nl' (show List.map c3 (B1 { live:=live,seen:=seen,rep:=rep,lim:=lim,act:={ kind:=(3:Int),sku:=s,qty:=q,past:=p:Actn }:Wish }).1.gone.vec=[]from(by rw[C6 (w:=⟨live,seen,rep,lim,⟨3,s,q,p⟩⟩) hh2 hh3 h6 h11];rfl))) (ZLe.cons (A3.nl' (show List.map A9 (B1 { live:=live,seen:=seen,rep:=rep,lim:=lim,act:={ kind:=(3:Int),sku:=s,qty:=q,past:=p:Actn }:Wish }).1.gone.cloud=[]from(by rw[C6 (w:=⟨live,seen,rep,lim,⟨3,s,q,p⟩⟩) hh2 hh3 h6 h11];rfl))) (ZLe.cons (A3.nl' (show List.map c54 (B1 { live:=live,seen:=seen,rep:=rep,lim:=lim,act:={ kind:=(3:Int),sku:=s,qty:=q,past:=p:Actn }:Wish }).1.recs=[]from(by rw[C6 (w:=⟨live,seen,rep,lim,⟨3,s,q,p⟩⟩) hh2 hh3 h6 h11];rfl))) ZLe.nil))))) (ZLe.cons (A3.eq (show AV.i .i64 2=AV.i .i64 (B1 { live:=live,seen:=seen,rep:=rep,lim:=lim,act:={ kind:=(3:Int),sku:=s,qty:=q,past:=p:Actn }:Wish }).2 from(by rw[C6 (w:=⟨live,seen,rep,lim,⟨3,s,q,p⟩⟩) hh2 hh3 h6 h11]))) ZLe.nil)))
 refine sK<|sn<|sq<|sq<|rG cx [0,2,6,8,9,10,14] [6,8,9,10] (fT (Ab5 ({ kind:=(3:Int),sku:={ kind:=(3:Int),sku:=s,qty:=q,past:=p:Actn }.sku,qty:={ kind:=(3:Int),sku:=s,qty:=q,past:=p:Actn }.qty,past:={ kind:=(3:Int),sku:=s,qty:=q,past:=p:Actn }.past:Actn }) (by(with_reducible assumption))) (oA 1 (.i .i64 (K6 { kind:=(3:Int),sku:={ kind:=(3:Int),sku:=s,qty:=q,past:=p:Actn }.sku,qty:={ kind:=(3:Int),sku:=s,qty:=q,past:=p:Actn }.qty,past:={ kind:=(3:Int),sku:=s,qty:=q,past:=p:Actn }.past:Actn })) z0))<|sn<|sq<|rG cx [0,2,6,8,9,10,14,63] [6,8,9,10] (tN 1 (K6 { kind:=(3:Int),sku:={ kind:=(3:Int),sku:=s,qty:=q,past:=p:Actn }.sku,qty:={ kind:=(3:Int),sku:=s,qty:=q,past:=p:Actn }.qty,past:={ kind:=(3:Int),sku:=s,qty:=q,past:=p:Actn }.past:Actn }) (0:Int) z0)<|sn<|dC (¬K6 { kind:=(3:Int),sku:={ kind:=(3:Int),sku:=s,qty:=q,past:=p:Actn }.sku,qty:={ kind:=(3:Int),sku:=s,qty:=q,past:=p:Actn }.qty,past:={ kind:=(3:Int),sku:=s,qty:=q,past:=p:Actn }.past:Actn }=(0:Int)) (fun h12=>?_) fun h12=>?_
 refine sq<|rG cx [10,11] [10] z0<|sn<|rT<|nR<|qR (.tup [.agg [.nl,.nl,.nl,.nl],.i .i64 (K6 { kind:=(3:Int),sku:={ kind:=(3:Int),sku:=s,qty:=q,past:=p:Actn }.sku,qty:={ kind:=(3:Int),sku:=s,qty:=q,past:=p:Actn }.qty,past:={ kind:=(3:Int),sku:=s,qty:=q,past:=p:Actn }.past:Actn })]) (A3.tup (ZLe.cons (A3.agg (ZLe.cons (A3.nl' (show List.map c46 (B1 { live:=live,seen:=seen,rep:=rep,lim:=lim,act:={ kind:=(3:Int),sku:=s,qty:=q,past:=p:Actn }:Wish }).1.adds=[]from(by rw[D0 (w:=⟨live,seen,rep,lim,⟨3,s,q,p⟩⟩) hh2 hh3 h6 h11 h12];rfl))) (ZLe.cons (A3.nl' (show List.map c3 (B1 { live:=live,seen:=seen,rep:=rep,lim:=lim,act:={ kind:=(3:Int),sku:=s,qty:=q,past:=p:Actn }:Wish }).1.gone.vec=[]from(by rw[D0 (w:=⟨live,seen,rep,lim,⟨3,s,q,p⟩⟩) hh2 hh3 h6 h11 h12];rfl))) (ZLe.cons (A3.nl' (show List.map A9 (B1 { live:=live,seen:=seen,rep:=rep,lim:=lim,act:={ kind:=(3:Int),sku:=s,qty:=q,past:=p:Actn }:Wish }).1.gone.cloud=[]from(by rw[D0 (w:=⟨live,seen,rep,lim,⟨3,s,q,p⟩⟩) hh2 hh3 h6 h11 h12];rfl))) (ZLe.cons (A3.nl' (show List.map c54 (B1 { live:=live,seen:=seen,rep:=rep,lim:=lim,act:={ kind:=(3:Int),sku:=s,qty:=q,past:=p:Actn }:Wish }).1.recs=[]from(by rw[D0 (w:=⟨live,seen,rep,lim,⟨3,s,q,p⟩⟩) hh2 hh3 h6 h11 h12];rfl))) ZLe.nil))))) (ZLe.cons (A3.eq (show AV.i .i64 (K6 { kind:=(3:Int),sku:={ kind:=(3:Int),sku:=s,qty:=q,past:=p:Actn }.sku,qty:={ kind:=(3:Int),sku:=s,qty:=q,past:=p:Actn }.qty,past:={ kind:=(3:Int),sku:=s,qty:=q,past:=p:Actn }.past:Actn })=AV.i .i64 (B1 { live:=live,seen:=seen,rep:=rep,lim:=lim,act:={ kind:=(3:Int),sku:=s,qty:=q,past:=p:Actn }:Wish }).2 from(by rw[D0 (w:=⟨live,seen,rep,lim,⟨3,s,q,p⟩⟩) hh2 hh3 h6 h11 h12]))) ZLe.nil)))
 refine sK<|sn<|sq<|rA cx [10,11] [10] (fT (A2a ) (fO ((0:Int)≤(3:Int)) (fR (some [AV.fn (Fn.func (156:FuncId)) [] []]) (fR 1 (fT (con156 ({ live:=live,seen:=seen,rep:=rep,lim:=lim,act:={ kind:=(3:Int),sku:={ kind:=(3:Int),sku:=s,qty:=q,past:=p:Actn }.sku,qty:={ kind:=(3:Int),sku:=s,qty:=q,past:=p:Actn }.qty,past:={ kind:=(3:Int),sku:=s,qty:=q,past:=p:Actn }.past:Actn }:Wish }) (by(with_reducible assumption))) (oA 0 (Ap2 (A2a )) (oR 3 [.fn (Fn.func (156:FuncId)) [] []] (oA 11 (.tup [.agg [.sl (List.map c46 (T4 { live:=live,seen:=seen,rep:=rep,lim:=lim,act:={ kind:=(3:Int),sku:={ kind:=(3:Int),sku:=s,qty:=q,past:=p:Actn }.sku,qty:={ kind:=(3:Int),sku:=s,qty:=q,past:=p:Actn }.qty,past:={ kind:=(3:Int),sku:=s,qty:=q,past:=p:Actn }.past:Actn }:Wish }).1.adds),.sl (List.map c3 (T4 { live:=live,seen:=seen,rep:=rep,lim:=lim,act:={ kind:=(3:Int),sku:={ kind:=(3:Int),sku:=s,qty:=q,past:=p:Actn }.sku,qty:={ kind:=(3:Int),sku:=s,qty:=q,past:=p:Actn }.qty,past:={ kind:=(3:Int),sku:=s,qty:=q,past:=p:Actn }.past:Actn }:Wish }).1.gone.vec),.sl (List.map A9 (T4 { live:=live,seen:=seen,rep:=rep,lim:=lim,act:={ kind:=(3:Int),sku:={ kind:=(3:Int),sku:=s,qty:=q,past:=p:Actn }.sku,qty:={ kind:=(3:Int),sku:=s,qty:=q,past:=p:Actn }.qty,past:={ kind:=(3:Int),sku:=s,qty:=q,past:=p:Actn }.past:Actn }:Wish }).1.gone.cloud),.sl (List.map c54 (T4 { live:=live,seen:=seen,rep:=rep,lim:=lim,act:={ kind:=(3:Int),sku:={ kind:=(3:Int),sku:=s,qty:=q,past:=p:Actn }.sku,qty:={ kind:=(3:Int),sku:=s,qty:=q,past:=p:Actn }.qty,past:={ kind:=(3:Int),sku:=s,qty:=q,past:=p:Actn }.past:Actn }:Wish }).1.recs)],.i .i64 ((T4 { live:=live,seen:=seen,rep:=rep,lim:=lim,act:={ kind:=(3:Int),sku:={ kind:=(3:Int),sku:=s,qty:=q,past:=p:Actn }.sku,qty:={ kind:=(3:Int),sku:=s,qty:=q,past:=p:Actn }.qty,past:={ kind:=(3:Int),sku:=s,qty:=q,past:=p:Actn }.past:Actn }:Wish }).2)]) z0))))))))<|sn<|rT<|qR (.tup [.agg [.sl (List.map c46 (T4 { live:=live,seen:=seen,rep:=rep,lim:=lim,act:={ kind:=(3:Int),sku:={ kind:=(3:Int),sku:=s,qty:=q,past:=p:Actn }.sku,qty:={ kind:=(3:Int),sku:=s,qty:=q,past:=p:Actn }.qty,past:={ kind:=(3:Int),sku:=s,qty:=q,past:=p:Actn }.past:Actn }:Wish }).1.adds),.sl (List.map c3 (T4 { live:=live,seen:=seen,rep:=rep,lim:=lim,act:={ kind:=(3:Int),sku:={ kind:=(3:Int),sku:=s,qty:=q,past:=p:Actn }.sku,qty:={ kind:=(3:Int),sku:=s,qty:=q,past:=p:Actn }.qty,past:={ kind:=(3:Int),sku:=s,qty:=q,past:=p:Actn }.past:Actn }:Wish }).1.gone.vec),.sl (List.map A9 (T4 { live:=live,seen:=seen,rep:=rep,lim:=lim,act:={ kind:=(3:Int),sku:={ kind:=(3:Int),sku:=s,qty:=q,past:=p:Actn }.sku,qty:={ kind:=(3:Int),sku:=s,qty:=q,past:=p:Actn }.qty,past:={ kind:=(3:Int),sku:=s,qty:=q,past:=p:Actn }.past:Actn }:Wish }).1.gone.cloud),.sl (List.map c54 (T4 { live:=live,seen:=seen,rep:=rep,lim:=lim,act:={ kind:=(3:Int),sku:={ kind:=(3:Int),sku:=s,qty:=q,past:=p:Actn }.sku,qty:={ kind:=(3:Int),sku:=s,qty:=q,past:=p:Actn }.qty,past:={ kind:=(3:Int),sku:=s,qty:=q,past:=p:Actn }.past:Actn }:Wish }).1.recs)],.i .i64 ((T4 { live:=live,seen:=seen,rep:=rep,lim:=lim,act:={ kind:=(3:Int),sku:={ kind:=(3:Int),sku:=s,qty:=q,past:=p:Actn }.sku,qty:={ kind:=(3:Int),sku:=s,qty:=q,past:=p:Actn }.qty,past:={ kind:=(3:Int),sku:=s,qty:=q,past:=p:Actn }.past:Actn }:Wish }).2)]) (A3.tup (ZLe.cons (A3.eq (show AV.agg [AV.sl (List.map c46 (T4 { live:=live,seen:=seen,rep:=rep,lim:=lim,act:={ kind:=(3:Int),sku:={ kind:=(3:Int),sku:=s,qty:=q,past:=p:Actn }.sku,qty:={ kind:=(3:Int),sku:=s,qty:=q,past:=p:Actn }.qty,past:={ kind:=(3:Int),sku:=s,qty:=q,past:=p:Actn }.past:Actn }:Wish }).1.adds),AV.sl (List.map c3 (T4 { live:=live,seen:=seen,rep:=rep,lim:=lim,act:={ kind:=(3:Int),sku:={ kind:=(3:Int),sku:=s,qty:=q,past:=p:Actn }.sku,qty:={ kind:=(3:Int),sku:=s,qty:=q,past:=p:Actn }.qty,past:={ kind:=(3:Int),sku:=s,qty:=q,past:=p:Actn }.past:Actn }:Wish }).1.gone.vec),AV.sl (List.map A9 (T4 { live:=live,seen:=seen,rep:=rep,lim:=lim,act:={ kind:=(3:Int),sku:={ kind:=(3:Int),sku:=s,qty:=q,past:=p:Actn }.sku,qty:={ kind:=(3:Int),sku:=s,qty:=q,past:=p:Actn }.qty,past:={ kind:=(3:Int),sku:=s,qty:=q,past:=p:Actn }.past:Actn }:Wish }).1.gone.cloud),AV.sl (List.map c54 (T4 { live:=live,seen:=seen,rep:=rep,lim:=lim,act:={ kind:=(3:Int),sku:={ kind:=(3:Int),sku:=s,qty:=q,past:=p:Actn }.sku,qty:={ kind:=(3:Int),sku:=s,qty:=q,past:=p:Actn }.qty,past:={ kind:=(3:Int),sku:=s,qty:=q,past:=p:Actn }.past:Actn }:Wish }).1.recs)]=AV.agg [AV.sl (List.map c46 (B1 { live:=live,seen:=seen,rep:=rep,lim:=lim,act:={ kind:=(3:Int),sku:=s,qty:=q,past:=p:Actn }:Wish }).1.adds),AV.sl (List.map c3 (B1 { live:=live,seen:=seen,rep:=rep,lim:=lim,act:={ kind:=(3:Int),sku:=s,qty:=q,past:=p:Actn }:Wish }).1.gone.vec),AV.sl (List.map A9 (B1 { live:=live,seen:=seen,rep:=rep,lim:=lim,act:={ kind:=(3:Int),sku:=s,qty:=q,past:=p:Actn }:Wish }).1.gone.cloud),AV.sl (List.map c54 (B1 { live:=live,seen:=seen,rep:=rep,lim:=lim,act:={ kind:=(3:Int),sku:=s,qty:=q,past:=p:Actn }:Wish }).1.recs)]from(by rw[G1 (w:=⟨live,seen,rep,lim,⟨3,s,q,p⟩⟩) hh2 hh3 h6 h11 h12,B08 (w:=⟨live,seen,rep,lim,⟨3,s,q,p⟩⟩) rfl]))) (ZLe.cons (A3.eq (show AV.i .i64 (T4 { live:=live,seen:=seen,rep:=rep,lim:=lim,act:={ kind:=(3:Int),sku:={ kind:=(3:Int),sku:=s,qty:=q,past:=p:Actn }.sku,qty:={ kind:=(3:Int),sku:=s,qty:=q,past:=p:Actn }.qty,past:={ kind:=(3:Int),sku:=s,qty:=q,past:=p:Actn }.past:Actn }:Wish }).2=AV.i .i64 (B1 { live:=live,seen:=seen,rep:=rep,lim:=lim,act:={ kind:=(3:Int),sku:=s,qty:=q,past:=p:Actn }:Wish }).2 from(by rw[G1 (w:=⟨live,seen,rep,lim,⟨3,s,q,p⟩⟩) hh2 hh3 h6 h11 h12,B08 (w:=⟨live,seen,rep,lim,⟨3,s,q,p⟩⟩) rfl]))) ZLe.nil)))
theorem B3q(live:List Entry)(seen:Past)(rep:Int)(lim:Limits)(s:ByteArray)(q:Int)(p:Past)(hs:live.length*40≤140737488351232)(hb:szP seen)(hp:szP p):Con Tryz.prog 15 [.sl (live.map c46),.agg (c26 seen),.i .i64 rep,.agg (c28 lim),.agg (c30 ⟨4,s,q,p⟩)] (.tup [.agg (c36 (B1 ⟨live,seen,rep,lim,⟨4,s,q,p⟩⟩).1),.i .i64 (B1 ⟨live,seen,rep,lim,⟨4,s,q,p⟩⟩).2]) :=
 by
 refine lN 0 c46 (live) Tryz.func15 fun hl_0=>sC A6 [.cell 10 36,.tmp 11] 80 Tryz.func15 ?_
 intro e0 cx
 refine sq<|rG cx [0,2,6,8,9,10] [6,8,9,10] z0<|sn<|sq<|sq<|A7 (σ':=⟨[(0,.sl (List.map c46 live)),(2,.i .i64 (rep)),(6,.ptr (6) (0) (0) (0)),(8,.ptr (8) (0) (0) (0)),(9,.ptr (9) (0) (0) (0)),(10,.ptr (10) (0) (0) (0)),(22,.b (decide (¬B2 live=0∨¬seen=A4 seen)))],[(6,⟨0,26,.var [.sl (List.map c3 seen.vec),.sl (List.map A9 seen.cloud)]⟩),(8,⟨0,28,.var [.i .i64 (lim.lines),.i .i64 (lim.count)]⟩),(9,⟨0,30,.var [.i .i64 ((4:Int)),.s ({ kind:=(4:Int),sku:=s,qty:=q,past:=p:Actn }.sku),.i .i64 ({ kind:=(4:Int),sku:=s,qty:=q,past:=p:Actn }.qty),.sl (List.map c3 { kind:=(4:Int),sku:=s,qty:=q,past:=p:Actn }.past.vec),.sl (List.map A9 { kind:=(4:Int),sku:=s,qty:=q,past:=p:Actn }.past.cloud)]⟩),(10,⟨0,36,.var [.nl,.nl,.nl,.nl]⟩)]⟩) ?_ ?_
 refine A2 (¬B2 live=0) (fun hh1=>?_) (fun hh1=>?_)
 refine rG cx [0,2,6,8,9,10,22] [6,8,9,10] (fT (I1 (live)) (tT 2 (E1 hh1:AV.b (B2 live !=0)=AV.b true) (tD 7 true (¬B2 live=0∨¬seen=A4 seen) (by simp only [eq_false hh1,tsl]) (oA 1 (.i .i64 (B2 live)) z0)))) ?_
 exact⟨rfl,by kernel_rfl⟩
 refine rG cx [0,2,6,8,9,10,22] [6,8,9,10] (fT (I1 (live)) (tN 2 (B2 live) (0:Int) (tT 3 (A0 hh1) (fT (A0m (seen) (by exact hb.1)) (tQ 6 (seen=A4 seen) (tT 7 (by first | (simp only [eq_false hh1,tsl];done) | simp_all:AV.b (decide ¬seen=A4 seen)=AV.b (decide (¬B2 live=0∨¬seen=A4 seen))) (oA 1 (.i .i64 (B2 live)) (oA 5 (.b (decide (seen=A4 seen))) z0)))))))) ?_
 exact⟨rfl,by kernel_rfl⟩
 refine sn<|dC (¬B2 live=0∨¬seen=A4 seen) (fun hh2=>?_) fun hh2=>?_
 refine sq<|rG cx [10,11] [10] z0<|sn<|rT<|nR<|qR (.tup [.agg [.nl,.nl,.nl,.nl],.i .i64 ((1:Int))]) (A3.tup (ZLe.cons (A3.agg (ZLe.cons (A3.nl' (show List.map c46 (B1 { live:=live,seen:=seen,rep:=rep,lim:=lim,act:={ kind:=(4:Int),sku:=s,qty:=q,past:=p:Actn }:Wish }).1.adds=[]from(by rw[B5 (w:=⟨live,seen,rep,lim,⟨4,s,q,p⟩⟩) hh2];rfl))) (ZLe.cons (A3.nl' (show List.map c3 (B1 { live:=live,seen:=seen,rep:=rep,lim:=lim,act:={ kind:=(4:Int),sku:=s,qty:=q,past:=p:Actn }:Wish }).1.gone.vec=[]from(by rw[B5 (w:=⟨live,seen,rep,lim,⟨4,s,q,p⟩⟩) hh2];rfl))) (ZLe.cons (A3.nl' (show List.map A9 (B1 { live:=live,seen:=seen,rep:=rep,lim:=lim,act:={ kind:=(4:Int),sku:=s,qty:=q,past:=p:Actn }:Wish }).1.gone.cloud=[]from(by rw[B5 (w:=⟨live,seen,rep,lim,⟨4,s,q,p⟩⟩) hh2];rfl))) (ZLe.cons (A3.nl' (show List.map c54 (B1 { live:=live,seen:=seen,rep:=rep,lim:=lim,act:={ kind:=(4:Int),sku:=s,qty:=q,past:=p:Actn }:Wish }).1.recs=[]from(by rw[B5 (w:=⟨live,seen,rep,lim,⟨4,s,q,p⟩⟩) hh2];rfl))) ZLe.nil))))) (ZLe.cons (A3.eq (show AV.i .i64 1=AV.i .i64 (B1 { live:=live,seen:=seen,rep:=rep,lim:=lim,act:={ kind:=(4:Int),sku:=s,qty:=q,past:=p:Actn }:Wish }).2 from(by rw[B5 (w:=⟨live,seen,rep,lim,⟨4,s,q,p⟩⟩) hh2]))) ZLe.nil)))
 refine sK<|sn<|sq<|sq<|rG cx [0,2,6,8,9,10,12] [6,8,9,10] (fT (A8w (live) (seen) (by exact hb.1)) (oA 2 (.tup [.sl (List.map c46 (D3 live seen false).1),.i .i64 ((D3 live seen false).2)]) z0)) ?_
 refine sn<|rD cx [0,2,6,8,9,10,32] [6,8,9,10] (tL 1 c46 ((D3 live seen false).1) (zB 2 ((0:Int) <(↑(D3 live seen false).1.length:Int)))) (fun hh3=>?_) fun hh3=>?_
 refine sq<|rG cx [10,11] [10] z0<|sn<|rT<|nR<|qR (.tup [.agg [.nl,.nl,.nl,.nl],.i .i64 ((1:Int))]) (A3.tup (ZLe.cons (A3.agg (ZLe.cons (A3.nl' (show List.map c46 (B1 { live:=live,seen:=seen,rep:=rep,lim:=lim,act:={ kind:=(4:Int),sku:=s,qty:=q,past:=p:Actn }:Wish }).1.adds=[]from(by rw[B6 (w:=⟨live,seen,rep,lim,⟨4,s,q,p⟩⟩) hh2 hh3];rfl))) (ZLe.cons (A3.nl' (show List.map c3 (B1 { live:=live,seen:=seen,rep:=rep,lim:=lim,act:={ kind:=(4:Int),sku:=s,qty:=q,past:=p:Actn }:Wish }).1.gone.vec=[]from(by rw[B6 (w:=⟨live,seen,rep,lim,⟨4,s,q,p⟩⟩) hh2 hh3];rfl))) (ZLe.cons (A3.nl' (show List.map A9 (B1 { live:=live,seen:=seen,rep:=rep,lim:=lim,act:={ kind:=(4:Int),sku:=s,qty:=q,past:=p:Actn }:Wish }).1.gone.cloud=[]from(by rw[B6 (w:=⟨live,seen,rep,lim,⟨4,s,q,p⟩⟩) hh2 hh3];rfl))) (ZLe.cons (A3.nl' (show List.map c54 (B1 { live:=live,seen:=seen,rep:=rep,lim:=lim,act:={ kind:=(4:Int),sku:=s,qty:=q,past:=p:Actn }:Wish }).1.recs=[]from(by rw[B6 (w:=⟨live,seen,rep,lim,⟨4,s,q,p⟩⟩) hh2 hh3];rfl))) ZLe.nil))))) (ZLe.cons (A3.eq (show AV.i .i64 1=AV.i .i64 (B1 { live:=live,seen:=seen,rep:=rep,lim:=lim,act:={ kind:=(4:Int),sku:=s,qty:=q,past:=p:Actn }:Wish }).2 from(by rw[B6 (w:=⟨live,seen,rep,lim,⟨4,s,q,p⟩⟩) hh2 hh3]))) ZLe.nil)))
 refine sK<|sn<|sq<|sq<|A7 (σ':=⟨[(0,.sl (List.map c46 live)),(2,.i .i64 (rep)),(6,.ptr (6) (0) (0) (0)),(8,.ptr (8) (0) (0) (0)),(9,.ptr (9) (0) (0) (0)),(10,.ptr (10) (0) (0) (0)),(39,.b (decide (rep <(0:Int)∨16≤rep)))],[(6,⟨0,26,.var [.sl (List.map c3 seen.vec),.sl (List.map A9 seen.cloud)]⟩),(8,⟨0,28,.var [.i .i64 (lim.lines),.i .i64 (lim.count)]⟩),(9,⟨0,30,.var [.i .i64 ((4:Int)),.s ({ kind:=(4:Int),sku:=s,qty:=q,past:=p:Actn }.sku),.i .i64 ({ kind:=(4:Int),sku:=s,qty:=q,past:=p:Actn }.qty),.sl (List.map c3 { kind:=(4:Int),sku:=s,qty:=q,past:=p:Actn }.past.vec),.sl (List.map A9 { kind:=(4:Int),sku:=s,qty:=q,past:=p:Actn }.past.cloud)]⟩),(10,⟨0,36,.var [.nl,.nl,.nl,.nl]⟩)]⟩) ?_ ?_
 refine A2 (rep <(0:Int)) (fun h_5=>?_) (fun h_5=>?_)
 refine rG cx [0,2,6,8,9,10,39] [6,8,9,10] (tT 1 (A1 h_5) (tD 5 true (rep <(0:Int)∨16≤rep) (by simp only [eq_true h_5,tsl]) z0)) ?_
 exact⟨rfl,by kernel_rfl⟩
 refine rG cx [0,2,6,8,9,10,39] [6,8,9,10] (tT 1 (A0 h_5) (tB 4 (16≤rep) (tD 5 (decide (16≤rep)) (rep <(0:Int)∨16≤rep) (by simp only [eq_false h_5,tsl]) z0))) ?_
 exact⟨rfl,by kernel_rfl⟩
 refine sn<|dC (rep <(0:Int)∨16≤rep) (fun h6=>?_) fun h6=>?_
 refine sq<|rG cx [10,11] [10] z0<|sn<|rT<|nR<|qR (.tup [.agg [.nl,.nl,.nl,.nl],.i .i64 ((3:Int))]) (A3.tup (ZLe.cons (A3.agg (ZLe.cons (A3.nl' (show List.map c46 (B1 { live:=live,seen:=seen,rep:=rep,lim:=lim,act:={ kind:=(4:Int),sku:=s,qty:=q,past:=p:Actn }:Wish }).1.adds=[]from(by rw[C5 (w:=⟨live,seen,rep,lim,⟨4,s,q,p⟩⟩) hh2 hh3 h6];rfl))) (ZLe.cons (A3.nl' (show List.map c3 (B1 { live:=live,seen:=seen,rep:=rep,lim:=lim,act:={ kind:=(4:Int),sku:=s,qty:=q,past:=p:Actn }:Wish }).1.gone.vec=[]from(by rw[C5 (w:=⟨live,seen,rep,lim,⟨4,s,q,p⟩⟩) hh2 hh3 h6];rfl))) (ZLe.cons (A3.nl' (show List.map A9 (B1 { live:=live,seen:=seen,rep:=rep,lim:=lim,act:={ kind:=(4:Int),sku:=s,qty:=q,past:=p:Actn }:Wish }).1.gone.cloud=[]from(by rw[C5 (w:=⟨live,seen,rep,lim,⟨4,s,q,p⟩⟩) hh2 hh3 h6];rfl))) (ZLe.cons (A3.nl' (show List.map c54 (B1 { live:=live,seen:=seen,rep:=rep,lim:=lim,act:={ kind:=(4:Int),sku:=s,qty:=q,past:=p:Actn }:Wish }).1.recs=[]from(by rw[C5 (w:=⟨live,seen,rep,lim,⟨4,s,q,p⟩⟩) hh2 hh3 h6];rfl))) ZLe.nil))))) (ZLe.cons (A3.eq (show AV.i .i64 3=AV.i .i64 (B1 { live:=live,seen:=seen,rep:=rep,lim:=lim,act:={ kind:=(4:Int),sku:=s,qty:=q,past:=p:Actn }:Wish }).2 from(by rw[C5 (w:=⟨live,seen,rep,lim,⟨4,s,q,p⟩⟩) hh2 hh3 h6]))) ZLe.nil)))
 refine sK<|sn<|sq<|sq<|A7 (σ':=⟨[(0,.sl (List.map c46 live)),(2,.i .i64 (rep)),(6,.ptr (6) (0) (0) (0)),(8,.ptr (8) (0) (0) (0)),(9,.ptr (9) (0) (0) (0)),(10,.ptr (10) (0) (0) (0)),(58,.b (decide (lim.lines <(1:Int)∨(1000:Int) < lim.lines∨lim.count <(1:Int)∨(1000000000:Int) < lim.count)))],[(6,⟨0,26,.var [.sl (List.map c3 seen.vec),.sl (List.map A9 seen.cloud)]⟩),(8,⟨0,28,.var [.i .i64 (lim.lines),.i .i64 (lim.count)]⟩),(9,⟨0,30,.var [.i .i64 ((4:Int)),.s ({ kind:=(4:Int),sku:=s,qty:=q,past:=p:Actn }.sku),.i .i64 ({ kind:=(4:Int),sku:=s,qty:=q,past:=p:Actn }.qty),.sl (List.map c3 { kind:=(4:Int),sku:=s,qty:=q,past:=p:Actn }.past.vec),.sl (List.map A9 { kind:=(4:Int),sku:=s,qty:=q,past:=p:Actn }.past.cloud)]⟩),(10,⟨0,36,.var [.nl,.nl,.nl,.nl]⟩)]⟩) ?_ ?_
 refine A2 (lim.lines <(1:Int)) (fun h_8=>?_) (fun h_8=>?_)
 refine rG cx [0,2,6,8,9,10,58] [6,8,9,10] (tT 2 (A1 h_8) (tD 17 true (lim.lines <(1:Int)∨(1000:Int) < lim.lines∨lim.count <(1:Int)∨(1000000000:Int) < lim.count) (by simp only [eq_true h_8,tsl]) z0)) ?_
 exact⟨rfl,by kernel_rfl⟩
 refine A2 ((1000:Int) < lim.lines) (fun h_9=>?_) (fun h_9=>?_)
 refine rG cx [0,2,6,8,9,10,58] [6,8,9,10] (tT 2 (A0 h_8) (tT 6 (A1 h_9) (tD 17 true (lim.lines <(1:Int)∨(1000:Int) < lim.lines∨lim.count <(1:Int)∨(1000000000:Int) < lim.count) (by simp only [eq_false h_8,eq_true h_9,tsl]) z0))) ?_
 exact⟨rfl,by kernel_rfl⟩
 refine A2 (lim.count <(1:Int)) (fun h_10=>?_) (fun h_10=>?_)
 refine rG cx [0,2,6,8,9,10,58] [6,8,9,10] (tT 2 (A0 h_8) (tT 6 (A0 h_9) (tT 11 (A1 h_10) (tD 17 true (lim.lines <(1:Int)∨(1000:Int) < lim.lines∨lim.count <(1:Int)∨(1000000000:Int) < lim.count) (by simp only [eq_false h_8,eq_false h_9,eq_true h_10,tsl]) z0)))) ?_
 exact⟨rfl,by kernel_rfl⟩
 refine rG cx [0,2,6,8,9,10,58] [6,8,9,10] (tT 2 (A0 h_8) (tT 6 (A0 h_9) (tT 11 (A0 h_10) (tB 16 ((1000000000:Int) < lim.count) (tD 17 (decide ((1000000000:Int) < lim.count)) (lim.lines <(1:Int)∨(1000:Int) < lim.lines∨lim.count <(1:Int)∨(1000000000:Int) < lim.count) (by simp only [eq_false h_8,eq_false h_9,eq_false h_10,tsl]) z0))))) ?_
 exact⟨rfl,by kernel_rfl⟩
 refine sn<|dC (lim.lines <(1:Int)∨(1000:Int) < lim.lines∨lim.count <(1:Int)∨(1000000000:Int) < lim.count) (fun h11=>?_) fun h11=>?_
 refine sq<|rG cx [10,11] [10] z0<|sn<|rT<|nR<|qR (.tup [.agg [.nl,.nl,.nl,.nl],.i .i64 ((2:Int))]) (A3.tup (ZLe.cons (A3.agg (ZLe.cons (A3.nl' (show List.map c46 (B1 { live:=live,seen:=seen,rep:=rep,lim:=lim,act:={ kind:=(4:Int),sku:=s,qty:=q,past:=p:Actn }:Wish }).1.adds=[]from(by rw[C6 (w:=⟨live,seen,rep,lim,⟨4,s,q,p⟩⟩) hh2 hh3 h6 h11];rfl))) (ZLe.cons (A3.nl' (show List.map c3 (B1 { live:=live,seen:=seen,rep:=rep,lim:=lim,act:={ kind:=(4:Int),sku:=s,qty:=q,past:=p:Actn }:Wish }).1.gone.vec=[]from(by rw[C6 (w:=⟨live,seen,rep,lim,⟨4,s,q,p⟩⟩) hh2 hh3 h6 h11];rfl))) (ZLe.cons (A3.nl' (show List.map A9 (B1 { live:=live,seen:=seen,rep:=rep,lim:=lim,act:={ kind:=(4:Int),sku:=s,qty:=q,past:=p:Actn }:Wish }).1.gone.cloud=[]from(by rw[C6 (w:=⟨live,seen,rep,lim,⟨4,s,q,p⟩⟩) hh2 hh3 h6 h11];rfl))) (ZLe.cons (A3.nl' (show List.map c54 (B1 { live:=live,seen:=seen,rep:=rep,lim:=lim,act:={ kind:=(4:Int),sku:=s,qty:=q,past:=p:Actn }:Wish }).1.recs=[]from(by rw[C6 (w:=⟨live,seen,rep,lim,⟨4,s,q,p⟩⟩) hh2 hh3 h6 h11];rfl))) ZLe.nil))))) (ZLe.cons (A3.eq (show AV.i .i64 2=AV.i .i64 (B1 { live:=live,seen:=seen,rep:=rep,lim:=lim,act:={ kind:=(4:Int),sku:=s,qty:=q,past:=p:Actn }:Wish }).2 from(by rw[C6 (w:=⟨live,seen,rep,lim,⟨4,s,q,p⟩⟩) hh2 hh3 h6 h11]))) ZLe.nil)))
 refine sK<|sn<|sq<|sq<|rG cx [0,2,6,8,9,10,14] [6,8,9,10] (fT (Ab5 ({ kind:=(4:Int),sku:={ kind:=(4:Int),sku:=s,qty:=q,past:=p:Actn }.sku,qty:={ kind:=(4:Int),sku:=s,qty:=q,past:=p:Actn }.qty,past:={ kind:=(4:Int),sku:=s,qty:=q,past:=p:Actn }.past:Actn }) (by(with_reducible assumption))) (oA 1 (.i .i64 (K6 { kind:=(4:Int),sku:={ kind:=(4:Int),sku:=s,qty:=q,past:=p:Actn }.sku,qty:={ kind:=(4:Int),sku:=s,qty:=q,past:=p:Actn }.qty,past:={ kind:=(4:Int),sku:=s,qty:=q,past:=p:Actn }.past:Actn })) z0))<|sn<|sq<|rG cx [0,2,6,8,9,10,14,63] [6,8,9,10] (tN 1 (K6 { kind:=(4:Int),sku:={ kind:=(4:Int),sku:=s,qty:=q,past:=p:Actn }.sku,qty:={ kind:=(4:Int),sku:=s,qty:=q,past:=p:Actn }.qty,past:={ kind:=(4:Int),sku:=s,qty:=q,past:=p:Actn }.past:Actn }) (0:Int) z0)<|sn<|dC (¬K6 { kind:=(4:Int),sku:={ kind:=(4:Int),sku:=s,qty:=q,past:=p:Actn }.sku,qty:={ kind:=(4:Int),sku:=s,qty:=q,past:=p:Actn }.qty,past:={ kind:=(4:Int),sku:=s,qty:=q,past:=p:Actn }.past:Actn }=(0:Int)) (fun h12=>?_) fun h12=>?_
 refine sq<|rG cx [10,11] [10] z0<|sn<|rT<|nR<|qR (.tup [.agg [.nl,.nl,.nl,.nl],.i .i64 (K6 { kind:=(4:Int),sku:={ kind:=(4:Int),sku:=s,qty:=q,past:=p:Actn }.sku,qty:={ kind:=(4:Int),sku:=s,qty:=q,past:=p:Actn }.qty,past:={ kind:=(4:Int),sku:=s,qty:=q,past:=p:Actn }.past:Actn })]) (A3.tup (ZLe.cons (A3.agg (ZLe.cons (A3.nl' (show List.map c46 (B1 { live:=live,seen:=seen,rep:=rep,lim:=lim,act:={ kind:=(4:Int),sku:=s,qty:=q,past:=p:Actn }:Wish }).1.adds=[]from(by rw[D0 (w:=⟨live,seen,rep,lim,⟨4,s,q,p⟩⟩) hh2 hh3 h6 h11 h12];rfl))) (ZLe.cons (A3.nl' (show List.map c3 (B1 { live:=live,seen:=seen,rep:=rep,lim:=lim,act:={ kind:=(4:Int),sku:=s,qty:=q,past:=p:Actn }:Wish }).1.gone.vec=[]from(by rw[D0 (w:=⟨live,seen,rep,lim,⟨4,s,q,p⟩⟩) hh2 hh3 h6 h11 h12];rfl))) (ZLe.cons (A3.nl' (show List.map A9 (B1 { live:=live,seen:=seen,rep:=rep,lim:=lim,act:={ kind:=(4:Int),sku:=s,qty:=q,past:=p:Actn }:Wish }).1.gone.cloud=[]from(by rw[D0 (w:=⟨live,seen,rep,lim,⟨4,s,q,p⟩⟩) hh2 hh3 h6 h11 h12];rfl))) (ZLe.cons (A3.nl' (show List.map c54 (B1 { live:=live,seen:=seen,rep:=rep,lim:=lim,act:={ kind:=(4:Int),sku:=s,qty:=q,past:=p:Actn }:Wish }).1.recs=[]from(by rw[D0 (w:=⟨live,seen,rep,lim,⟨4,s,q,p⟩⟩) hh2 hh3 h6 h11 h12];rfl))) ZLe.nil))))) (ZLe.cons (A3.eq (show AV.i .i64 (K6 { kind:=(4:Int),sku:={ kind:=(4:Int),sku:=s,qty:=q,past:=p:Actn }.sku,qty:={ kind:=(4:Int),sku:=s,qty:=q,past:=p:Actn }.qty,past:={ kind:=(4:Int),sku:=s,qty:=q,past:=p:Actn }.past:Actn })=AV.i .i64 (B1 { live:=live,seen:=seen,rep:=rep,lim:=lim,act:={ kind:=(4:Int),sku:=s,qty:=q,past:=p:Actn }:Wish }).2 from(by rw[D0 (w:=⟨live,seen,rep,lim,⟨4,s,q,p⟩⟩) hh2 hh3 h6 h11 h12]))) ZLe.nil)))
 refine sK<|sn<|sq<|rA cx [10,11] [10] (fT (A2a ) (fO ((0:Int)≤(4:Int)) (fR (some [AV.fn (Fn.func (157:FuncId)) [] []]) (fR 1 (fT (con157 ({ live:=live,seen:=seen,rep:=rep,lim:=lim,act:={ kind:=(4:Int),sku:={ kind:=(4:Int),sku:=s,qty:=q,past:=p:Actn }.sku,qty:={ kind:=(4:Int),sku:=s,qty:=q,past:=p:Actn }.qty,past:={ kind:=(4:Int),sku:=s,qty:=q,past:=p:Actn }.past:Actn }:Wish }) (by(with_reducible assumption))) (oA 0 (Ap2 (A2a )) (oR 3 [.fn (Fn.func (157:FuncId)) [] []] (oA 11 (.tup [.agg [.sl (List.map c46 (G0 { live:=live,seen:=seen,rep:=rep,lim:=lim,act:={ kind:=(4:Int),sku:={ kind:=(4:Int),sku:=s,qty:=q,past:=p:Actn }.sku,qty:={ kind:=(4:Int),sku:=s,qty:=q,past:=p:Actn }.qty,past:={ kind:=(4:Int),sku:=s,qty:=q,past:=p:Actn }.past:Actn }:Wish }.act.sku { live:=live,seen:=seen,rep:=rep,lim:=lim,act:={ kind:=(4:Int),sku:={ kind:=(4:Int),sku:=s,qty:=q,past:=p:Actn }.sku,qty:={ kind:=(4:Int),sku:=s,qty:=q,past:=p:Actn }.qty,past:={ kind:=(4:Int),sku:=s,qty:=q,past:=p:Actn }.past:Actn }:Wish }.act.past).adds),.sl (List.map c3 (G0 { live:=live,seen:=seen,rep:=rep,lim:=lim,act:={ kind:=(4:Int),sku:={ kind:=(4:Int),sku:=s,qty:=q,past:=p:Actn }.sku,qty:={ kind:=(4:Int),sku:=s,qty:=q,past:=p:Actn }.qty,past:={ kind:=(4:Int),sku:=s,qty:=q,past:=p:Actn }.past:Actn }:Wish }.act.sku { live:=live,seen:=seen,rep:=rep,lim:=lim,act:={ kind:=(4:Int),sku:={ kind:=(4:Int),sku:=s,qty:=q,past:=p:Actn }.sku,qty:={ kind:=(4:Int),sku:=s,qty:=q,past:=p:Actn }.qty,past:={ kind:=(4:Int),sku:=s,qty:=q,past:=p:Actn }.past:Actn }:Wish }.act.past).gone.vec),.sl (List.map A9 (G0 { live:=live,seen:=seen,rep:=rep,lim:=lim,act:={ kind:=(4:Int),sku:={ kind:=(4:Int),sku:=s,qty:=q,past:=p:Actn }.sku,qty:={ kind:=(4:Int),sku:=s,qty:=q,past:=p:Actn }.qty,past:={ kind:=(4:Int),sku:=s,qty:=q,past:=p:Actn }.past:Actn }:Wish }.act.sku { live:=live,seen:=seen,rep:=rep,lim:=lim,act:={ kind:=(4:Int),sku:={ kind:=(4:Int),sku:=s,qty:=q,past:=p:Actn }.sku,qty:={ kind:=(4:Int),sku:=s,qty:=q,past:=p:Actn }.qty,past:={ kind:=(4:Int),sku:=s,qty:=q,past:=p:Actn }.past:Actn }:Wish }.act.past).gone.cloud),.sl (List.map c54 (G0 { live:=live,seen:=seen,rep:=rep,lim:=lim,act:={ kind:=(4:Int),sku:={ kind:=(4:Int),sku:=s,qty:=q,past:=p:Actn }.sku,qty:={ kind:=(4:Int),sku:=s,qty:=q,past:=p:Actn }.qty,past:={ kind:=(4:Int),sku:=s,qty:=q,past:=p:Actn }.past:Actn }:Wish }.act.sku { live:=live,seen:=seen,rep:=rep,lim:=lim,act:={ kind:=(4:Int),sku:={ kind:=(4:Int),sku:=s,qty:=q,past:=p:Actn }.sku,qty:={ kind:=(4:Int),sku:=s,qty:=q,past:=p:Actn }.qty,past:={ kind:=(4:Int),sku:=s,qty:=q,past:=p:Actn }.past:Actn }:Wish }.act.past).recs)],.i .i64 ((0:Int))]) z0)))))))) ?_
 refine sn<|rT<|qR (.tup [.agg [.sl (List.map c46 (G0 { live:=live,seen:=seen,rep:=rep,lim:=lim,act:={ kind:=(4:Int),sku:={ kind:=(4:Int),sku:=s,qty:=q,past:=p:Actn }.sku,qty:={ kind:=(4:Int),sku:=s,qty:=q,past:=p:Actn }.qty,past:={ kind:=(4:Int),sku:=s,qty:=q,past:=p:Actn }.past:Actn }:Wish }.act.sku { live:=live,seen:=seen,rep:=rep,lim:=lim,act:={ kind:=(4:Int),sku:={ kind:=(4:Int),sku:=s,qty:=q,past:=p:Actn }.sku,qty:={ kind:=(4:Int),sku:=s,qty:=q,past:=p:Actn }.qty,past:={ kind:=(4:Int),sku:=s,qty:=q,past:=p:Actn }.past:Actn }:Wish }.act.past).adds),.sl (List.map c3 (G0 { live:=live,seen:=seen,rep:=rep,lim:=lim,act:={ kind:=(4:Int),sku:={ kind:=(4:Int),sku:=s,qty:=q,past:=p:Actn }.sku,qty:={ kind:=(4:Int),sku:=s,qty:=q,past:=p:Actn }.qty,past:={ kind:=(4:Int),sku:=s,qty:=q,past:=p:Actn }.past:Actn }:Wish }.act.sku { live:=live,seen:=seen,rep:=rep,lim:=lim,act:={ kind:=(4:Int),sku:={ kind:=(4:Int),sku:=s,qty:=q,past:=p:Actn }.sku,qty:={ kind:=(4:Int),sku:=s,qty:=q,past:=p:Actn }.qty,past:={ kind:=(4:Int),sku:=s,qty:=q,past:=p:Actn }.past:Actn }:Wish }.act.past).gone.vec),.sl (List.map A9 (G0 { live:=live,seen:=seen,rep:=rep,lim:=lim,act:={ kind:=(4:Int),sku:={ kind:=(4:Int),sku:=s,qty:=q,past:=p:Actn }.sku,qty:={ kind:=(4:Int),sku:=s,qty:=q,past:=p:Actn }.qty,past:={ kind:=(4:Int),sku:=s,qty:=q,past:=p:Actn }.past:Actn }:Wish }.act.sku { live:=live,seen:=seen,rep:=rep,lim:=lim,act:={ kind:=(4:Int),sku:={ kind:=(4:Int),sku:=s,qty:=q,past:=p:Actn }.sku,qty:={ kind:=(4:Int),sku:=s,qty:=q,past:=p:Actn }.qty,past:={ kind:=(4:Int),sku:=s,qty:=q,past:=p:Actn }.past:Actn }:Wish }.act.past).gone.cloud),.sl (List.map c54 (G0 { live:=live,seen:=seen,rep:=rep,lim:=lim,act:={ kind:=(4:Int),sku:={ kind:=(4:Int),sku:=s,qty:=q,past:=p:Actn }.sku,qty:={ kind:=(4:Int),sku:=s,qty:=q,past:=p:Actn }.qty,past:={ kind:=(4:Int),sku:=s,qty:=q,past:=p:Actn }.past:Actn }:Wish }.act.sku { live:=live,seen:=seen,rep:=rep,lim:=lim,act:={ kind:=(4:Int),sku:={ kind:=(4:Int),sku:=s,qty:=q,past:=p:Actn }.sku,qty:={ kind:=(4:Int),sku:=s,qty:=q,past:=p:Actn }.qty,past:={ kind:=(4:Int),sku:=s,qty:=q,past:=p:Actn }.past:Actn }:Wish }.act.past).recs)],.i .i64 ((0:Int))]) (A3.tup (ZLe.cons (A3.eq (show AV.agg [AV.sl (List.map c46 (G0 { live:=live,seen:=seen,rep:=rep,lim:=lim,act:={ kind:=(4:Int),sku:={ kind:=(4:Int),sku:=s,qty:=q,past:=p:Actn }.sku,qty:={ kind:=(4:Int),sku:=s,qty:=q,past:=p:Actn }.qty,past:={ kind:=(4:Int),sku:=s,qty:=q,past:=p:Actn }.past:Actn }:Wish }.act.sku { live:=live,seen:=seen,rep:=rep,lim:=lim,act:={ kind:=(4:Int),sku:={ kind:=(4:Int),sku:=s,qty:=q,past:=p:Actn }.sku,qty:={ kind:=(4:Int),sku:=s,qty:=q,past:=p:Actn }.qty,past:={ kind:=(4:Int),sku:=s,qty:=q,past:=p:Actn }.past:Actn }:Wish }.act.past).adds),AV.sl (List.map c3 (G0 { live:=live,seen:=seen,rep:=rep,lim:=lim,act:={ kind:=(4:Int),sku:={ kind:=(4:Int),sku:=s,qty:=q,past:=p:Actn }.sku,qty:={ kind:=(4:Int),sku:=s,qty:=q,past:=p:Actn }.qty,past:={ kind:=(4:Int),sku:=s,qty:=q,past:=p:Actn }.past:Actn }:Wish }.act.sku { live:=live,seen:=seen,rep:=rep,lim:=lim,act:={ kind:=(4:Int),sku:={ kind:=(4:Int),sku:=s,qty:=q,past:=p:Actn }.sku,qty:={ kind:=(4:Int),sku:=s,qty:=q,past:=p:Actn }.qty,past:={ kind:=(4:Int),sku:=s,qty:=q,past:=p:Actn }.past:Actn }:Wish }.act.past).gone.vec),AV.sl (List.map A9 (G0 { live:=live,seen:=seen,rep:=rep,lim:=lim,act:={ kind:=(4:Int),sku:={ kind:=(4:Int),sku:=s,qty:=q,past:=p:Actn }.sku,qty:={ kind:=(4:Int),sku:=s,qty:=q,past:=p:Actn }.qty,past:={ kind:=(4:Int),sku:=s,qty:=q,past:=p:Actn }.past:Actn }:Wish }.act.sku { live:=live,seen:=seen,rep:=rep,lim:=lim,act:={ kind:=(4:Int),sku:={ kind:=(4:Int),sku:=s,qty:=q,past:=p:Actn }.sku,qty:={ kind:=(4:Int),sku:=s,qty:=q,past:=p:Actn }.qty,past:={ kind:=(4:Int),sku:=s,qty:=q,past:=p:Actn }.past:Actn }:Wish }.act.past).gone.cloud),AV.sl (List.map c54 (G0 { live:=live,seen:=seen,rep:=rep,lim:=lim,act:={ kind:=(4:Int),sku:={ kind:=(4:Int),sku:=s,qty:=q,past:=p:Actn }.sku,qty:={ kind:=(4:Int),sku:=s,qty:=q,past:=p:Actn }.qty,past:={ kind:=(4:Int),sku:=s,qty:=q,past:=p:Actn }.past:Actn }:Wish }.act.sku { live:=live,seen:=seen,rep:=rep,lim:=lim,act:={ kind:=(4:Int),sku:={ kind:=(4:Int),sku:=s,qty:=q,past:=p:Actn }.sku,qty:={ kind:=(4:Int),sku:=s,qty:=q,past:=p:Actn }.qty,past:={ kind:=(4:Int),sku:=s,qty:=q,past:=p:Actn }.past:Actn }:Wish }.act.past).recs)]=AV.agg [AV.sl (List.map c46 (B1 { live:=live,seen:=seen,rep:=rep,lim:=lim,act:={ kind:=(4:Int),sku:=s,qty:=q,past:=p:Actn }:Wish }).1.adds),AV.sl (List.map c3 (B1 { live:=live,seen:=seen,rep:=rep,lim:=lim,act:={ kind:=(4:Int),sku:=s,qty:=q,past:=p:Actn }:Wish }).1.gone.vec),AV.sl (List.map A9 (B1 { live:=live,seen:=seen,rep:=rep,lim:=lim,act:={ kind:=(4:Int),sku:=s,qty:=q,past:=p:Actn }:Wish }).1.gone.cloud),AV.sl (List.map c54 (B1 { live:=live,seen:=seen,rep:=rep,lim:=lim,act:={ kind:=(4:Int),sku:=s,qty:=q,past:=p:Actn }:Wish }).1.recs)]from(by rw[G1 (w:=⟨live,seen,rep,lim,⟨4,s,q,p⟩⟩) hh2 hh3 h6 h11 h12,B09 (w:=⟨live,seen,rep,lim,⟨4,s,q,p⟩⟩) rfl]))) (ZLe.cons (A3.eq (show AV.i .i64 0=AV.i .i64 (B1 { live:=live,seen:=seen,rep:=rep,lim:=lim,act:={ kind:=(4:Int),sku:=s,qty:=q,past:=p:Actn }:Wish }).2 from(by rw[G1 (w:=⟨live,seen,rep,lim,⟨4,s,q,p⟩⟩) hh2 hh3 h6 h11 h12,B09 (w:=⟨live,seen,rep,lim,⟨4,s,q,p⟩⟩) rfl]))) ZLe.nil)))
theorem B3r(live:List Entry)(seen:Past)(rep:Int)(lim:Limits)(s:ByteArray)(q:Int)(p:Past)(hs:live.length*40≤140737488351232)(hb:szP seen)(hp:szP p):Con Tryz.prog 15 [.sl (live.map c46),.agg (c26 seen),.i .i64 rep,.agg (c28 lim),.agg (c30 ⟨5,s,q,p⟩)] (.tup [.agg (c36 (B1 ⟨live,seen,rep,lim,⟨5,s,q,p⟩⟩).1),.i .i64 (B1 ⟨live,seen,rep,lim,⟨5,s,q,p⟩⟩).2]) :=
 by
 refine lN 0 c46 (live) Tryz.func15 fun hl_0=>sC A6 [.cell 10 36,.tmp 11] 80 Tryz.func15 ?_
 intro e0 cx
 refine sq<|rG cx [0,2,6,8,9,10] [6,8,9,10] z0<|sn<|sq<|sq<|A7 (σ':=⟨[(0,.sl (List.map c46 live)),(2,.i .i64 (rep)),(6,.ptr (6) (0) (0) (0)),(8,.ptr (8) (0) (0) (0)),(9,.ptr (9) (0) (0) (0)),(10,.ptr (10) (0) (0) (0)),(22,.b (decide (¬B2 live=0∨¬seen=A4 seen)))],[(6,⟨0,26,.var [.sl (List.map c3 seen.vec),.sl (List.map A9 seen.cloud)]⟩),(8,⟨0,28,.var [.i .i64 (lim.lines),.i .i64 (lim.count)]⟩),(9,⟨0,30,.var [.i .i64 ((5:Int)),.s ({ kind:=(5:Int),sku:=s,qty:=q,past:=p:Actn }.sku),.i .i64 ({ kind:=(5:Int),sku:=s,qty:=q,past:=p:Actn }.qty),.sl (List.map c3 { kind:=(5:Int),sku:=s,qty:=q,past:=p:Actn }.past.vec),.sl (List.map A9 { kind:=(5:Int),sku:=s,qty:=q,past:=p:Actn }.past.cloud)]⟩),(10,⟨0,36,.var [.nl,.nl,.nl,.nl]⟩)]⟩) ?_ ?_
 refine A2 (¬B2 live=0) (fun hh1=>?_) (fun hh1=>?_)
 refine rG cx [0,2,6,8,9,10,22] [6,8,9,10] (fT (I1 (live)) (tT 2 (E1 hh1:AV.b (B2 live !=0)=AV.b true) (tD 7 true (¬B2 live=0∨¬seen=A4 seen) (by simp only [eq_false hh1,tsl]) (oA 1 (.i .i64 (B2 live)) z0)))) ?_
 exact⟨rfl,by kernel_rfl⟩
 refine rG cx [0,2,6,8,9,10,22] [6,8,9,10] (fT (I1 (live)) (tN 2 (B2 live) (0:Int) (tT 3 (A0 hh1) (fT (A0m (seen) (by exact hb.1)) (tQ 6 (seen=A4 seen) (tT 7 (by first | (simp only [eq_false hh1,tsl];done) | simp_all:AV.b (decide ¬seen=A4 seen)=AV.b (decide (¬B2 live=0∨¬seen=A4 seen))) (oA 1 (.i .i64 (B2 live)) (oA 5 (.b (decide (seen=A4 seen))) z0)))))))) ?_
 exact⟨rfl,by kernel_rfl⟩
 refine sn<|dC (¬B2 live=0∨¬seen=A4 seen) (fun hh2=>?_) fun hh2=>?_
 refine sq<|rG cx [10,11] [10] z0<|sn<|rT<|nR<|qR (.tup [.agg [.nl,.nl,.nl,.nl],.i .i64 ((1:Int))]) (A3.tup (ZLe.cons (A3.agg (ZLe.cons (A3.nl' (show List.map c46 (B1 { live:=live,seen:=seen,rep:=rep,lim:=lim,act:={ kind:=(5:Int),sku:=s,qty:=q,past:=p:Actn }:Wish }).1.adds=[]from(by rw[B5 (w:=⟨live,seen,rep,lim,⟨5,s,q,p⟩⟩) hh2];rfl))) (ZLe.cons (A3.nl' (show List.map c3 (B1 { live:=live,seen:=seen,rep:=rep,lim:=lim,act:={ kind:=(5:Int),sku:=s,qty:=q,past:=p:Actn }:Wish }).1.gone.vec=[]from(by rw[B5 (w:=⟨live,seen,rep,lim,⟨5,s,q,p⟩⟩) hh2];rfl))) (ZLe.cons (A3.nl' (show List.map A9 (B1 { live:=live,seen:=seen,rep:=rep,lim:=lim,act:={ kind:=(5:Int),sku:=s,qty:=q,past:=p:Actn }:Wish }).1.gone.cloud=[]from(by rw[B5 (w:=⟨live,seen,rep,lim,⟨5,s,q,p⟩⟩) hh2];rfl))) (ZLe.cons (A3.nl' (show List.map c54 (B1 { live:=live,seen:=seen,rep:=rep,lim:=lim,act:={ kind:=(5:Int),sku:=s,qty:=q,past:=p:Actn }:Wish }).1.recs=[]from(by rw[B5 (w:=⟨live,seen,rep,lim,⟨5,s,q,p⟩⟩) hh2];rfl))) ZLe.nil))))) (ZLe.cons (A3.eq (show AV.i .i64 1=AV.i .i64 (B1 { live:=live,seen:=seen,rep:=rep,lim:=lim,act:={ kind:=(5:Int),sku:=s,qty:=q,past:=p:Actn }:Wish }).2 from(by rw[B5 (w:=⟨live,seen,rep,lim,⟨5,s,q,p⟩⟩) hh2]))) ZLe.nil)))
 refine sK<|sn<|sq<|sq<|rG cx [0,2,6,8,9,10,12] [6,8,9,10] (fT (A8w (live) (seen) (by exact hb.1)) (oA 2 (.tup [.sl (List.map c46 (D3 live seen false).1),.i .i64 ((D3 live seen false).2)]) z0)) ?_
 refine sn<|rD cx [0,2,6,8,9,10,32] [6,8,9,10] (tL 1 c46 ((D3 live seen false).1) (zB 2 ((0:Int) <(↑(D3 live seen false).1.length:Int)))) (fun hh3=>?_) fun hh3=>?_
 refine sq<|rG cx [10,11] [10] z0<|sn<|rT<|nR<|qR (.tup [.agg [.nl,.nl,.nl,.nl],.i .i64 ((1:Int))]) (A3.tup (ZLe.cons (A3.agg (ZLe.cons (A3.nl' (show List.map c46 (B1 { live:=live,seen:=seen,rep:=rep,lim:=lim,act:={ kind:=(5:Int),sku:=s,qty:=q,past:=p:Actn }:Wish }).1.adds=[]from(by rw[B6 (w:=⟨live,seen,rep,lim,⟨5,s,q,p⟩⟩) hh2 hh3];rfl))) (ZLe.cons (A3.nl' (show List.map c3 (B1 { live:=live,seen:=seen,rep:=rep,lim:=lim,act:={ kind:=(5:Int),sku:=s,qty:=q,past:=p:Actn }:Wish }).1.gone.vec=[]from(by rw[B6 (w:=⟨live,seen,rep,lim,⟨5,s,q,p⟩⟩) hh2 hh3];rfl))) (ZLe.cons (A3.nl' (show List.map A9 (B1 { live:=live,seen:=seen,rep:=rep,lim:=lim,act:={ kind:=(5:Int),sku:=s,qty:=q,past:=p:Actn }:Wish }).1.gone.cloud=[]from(by rw[B6 (w:=⟨live,seen,rep,lim,⟨5,s,q,p⟩⟩) hh2 hh3];rfl))) (ZLe.cons (A3.nl' (show List.map c54 (B1 { live:=live,seen:=seen,rep:=rep,lim:=lim,act:={ kind:=(5:Int),sku:=s,qty:=q,past:=p:Actn }:Wish }).1.recs=[]from(by rw[B6 (w:=⟨live,seen,rep,lim,⟨5,s,q,p⟩⟩) hh2 hh3];rfl))) ZLe.nil))))) (ZLe.cons (A3.eq (show AV.i .i64 1=AV.i .i64 (B1 { live:=live,seen:=seen,rep:=rep,lim:=lim,act:={ kind:=(5:Int),sku:=s,qty:=q,past:=p:Actn }:Wish }).2 from(by rw[B6 (w:=⟨live,seen,rep,lim,⟨5,s,q,p⟩⟩) hh2 hh3]))) ZLe.nil)))
 refine sK<|sn<|sq<|sq<|A7 (σ':=⟨[(0,.sl (List.map c46 live)),(2,.i .i64 (rep)),(6,.ptr (6) (0) (0) (0)),(8,.ptr (8) (0) (0) (0)),(9,.ptr (9) (0) (0) (0)),(10,.ptr (10) (0) (0) (0)),(39,.b (decide (rep <(0:Int)∨16≤rep)))],[(6,⟨0,26,.var [.sl (List.map c3 seen.vec),.sl (List.map A9 seen.cloud)]⟩),(8,⟨0,28,.var [.i .i64 (lim.lines),.i .i64 (lim.count)]⟩),(9,⟨0,30,.var [.i .i64 ((5:Int)),.s ({ kind:=(5:Int),sku:=s,qty:=q,past:=p:Actn }.sku),.i .i64 ({ kind:=(5:Int),sku:=s,qty:=q,past:=p:Actn }.qty),.sl (List.map c3 { kind:=(5:Int),sku:=s,qty:=q,past:=p:Actn }.past.vec),.sl (List.map A9 { kind:=(5:Int),sku:=s,qty:=q,past:=p:Actn }.past.cloud)]⟩),(10,⟨0,36,.var [.nl,.nl,.nl,.nl]⟩)]⟩) ?_ ?_
 refine A2 (rep <(0:Int)) (fun h_5=>?_) (fun h_5=>?_)
 refine rG cx [0,2,6,8,9,10,39] [6,8,9,10] (tT 1 (A1 h_5) (tD 5 true (rep <(0:Int)∨16≤rep) (by simp only [eq_true h_5,tsl]) z0)) ?_
 exact⟨rfl,by kernel_rfl⟩
 refine rG cx [0,2,6,8,9,10,39] [6,8,9,10] (tT 1 (A0 h_5) (tB 4 (16≤rep) (tD 5 (decide (16≤rep)) (rep <(0:Int)∨16≤rep) (by simp only [eq_false h_5,tsl]) z0))) ?_
 exact⟨rfl,by kernel_rfl⟩
 refine sn<|dC (rep <(0:Int)∨16≤rep) (fun h6=>?_) fun h6=>?_
 refine sq<|rG cx [10,11] [10] z0<|sn<|rT<|nR<|qR (.tup [.agg [.nl,.nl,.nl,.nl],.i .i64 ((3:Int))]) (A3.tup (ZLe.cons (A3.agg (ZLe.cons (A3.nl' (show List.map c46 (B1 { live:=live,seen:=seen,rep:=rep,lim:=lim,act:={ kind:=(5:Int),sku:=s,qty:=q,past:=p:Actn }:Wish }).1.adds=[]from(by rw[C5 (w:=⟨live,seen,rep,lim,⟨5,s,q,p⟩⟩) hh2 hh3 h6];rfl))) (ZLe.cons (A3.nl' (show List.map c3 (B1 { live:=live,seen:=seen,rep:=rep,lim:=lim,act:={ kind:=(5:Int),sku:=s,qty:=q,past:=p:Actn }:Wish }).1.gone.vec=[]from(by rw[C5 (w:=⟨live,seen,rep,lim,⟨5,s,q,p⟩⟩) hh2 hh3 h6];rfl))) (ZLe.cons (A3.nl' (show List.map A9 (B1 { live:=live,seen:=seen,rep:=rep,lim:=lim,act:={ kind:=(5:Int),sku:=s,qty:=q,past:=p:Actn }:Wish }).1.gone.cloud=[]from(by rw[C5 (w:=⟨live,seen,rep,lim,⟨5,s,q,p⟩⟩) hh2 hh3 h6];rfl))) (ZLe.cons (A3.nl' (show List.map c54 (B1 { live:=live,seen:=seen,rep:=rep,lim:=lim,act:={ kind:=(5:Int),sku:=s,qty:=q,past:=p:Actn }:Wish }).1.recs=[]from(by rw[C5 (w:=⟨live,seen,rep,lim,⟨5,s,q,p⟩⟩) hh2 hh3 h6];rfl))) ZLe.nil))))) (ZLe.cons (A3.eq (show AV.i .i64 3=AV.i .i64 (B1 { live:=live,seen:=seen,rep:=rep,lim:=lim,act:={ kind:=(5:Int),sku:=s,qty:=q,past:=p:Actn }:Wish }).2 from(by rw[C5 (w:=⟨live,seen,rep,lim,⟨5,s,q,p⟩⟩) hh2 hh3 h6]))) ZLe.nil)))
 refine sK<|sn<|sq<|sq<|A7 (σ':=⟨[(0,.sl (List.map c46 live)),(2,.i .i64 (rep)),(6,.ptr (6) (0) (0) (0)),(8,.ptr (8) (0) (0) (0)),(9,.ptr (9) (0) (0) (0)),(10,.ptr (10) (0) (0) (0)),(58,.b (decide (lim.lines <(1:Int)∨(1000:Int) < lim.lines∨lim.count <(1:Int)∨(1000000000:Int) < lim.count)))],[(6,⟨0,26,.var [.sl (List.map c3 seen.vec),.sl (List.map A9 seen.cloud)]⟩),(8,⟨0,28,.var [.i .i64 (lim.lines),.i .i64 (lim.count)]⟩),(9,⟨0,30,.var [.i .i64 ((5:Int)),.s ({ kind:=(5:Int),sku:=s,qty:=q,past:=p:Actn }.sku),.i .i64 ({ kind:=(5:Int),sku:=s,qty:=q,past:=p:Actn }.qty),.sl (List.map c3 { kind:=(5:Int),sku:=s,qty:=q,past:=p:Actn }.past.vec),.sl (List.map A9 { kind:=(5:Int),sku:=s,qty:=q,past:=p:Actn }.past.cloud)]⟩),(10,⟨0,36,.var [.nl,.nl,.nl,.nl]⟩)]⟩) ?_ ?_
 refine A2 (lim.lines <(1:Int)) (fun h_8=>?_) (fun h_8=>?_)
 refine rG cx [0,2,6,8,9,10,58] [6,8,9,10] (tT 2 (A1 h_8) (tD 17 true (lim.lines <(1:Int)∨(1000:Int) < lim.lines∨lim.count <(1:Int)∨(1000000000:Int) < lim.count) (by simp only [eq_true h_8,tsl]) z0)) ?_
 exact⟨rfl,by kernel_rfl⟩
 refine A2 ((1000:Int) < lim.lines) (fun h_9=>?_) (fun h_9=>?_)
 refine rG cx [0,2,6,8,9,10,58] [6,8,9,10] (tT 2 (A0 h_8) (tT 6 (A1 h_9) (tD 17 true (lim.lines <(1:Int)∨(1000:Int) < lim.lines∨lim.count <(1:Int)∨(1000000000:Int) < lim.count) (by simp only [eq_false h_8,eq_true h_9,tsl]) z0))) ?_
 exact⟨rfl,by kernel_rfl⟩
 refine A2 (lim.count <(1:Int)) (fun h_10=>?_) (fun h_10=>?_)
 refine rG cx [0,2,6,8,9,10,58] [6,8,9,10] (tT 2 (A0 h_8) (tT 6 (A0 h_9) (tT 11 (A1 h_10) (tD 17 true (lim.lines <(1:Int)∨(1000:Int) < lim.lines∨lim.count <(1:Int)∨(1000000000:Int) < lim.count) (by simp only [eq_false h_8,eq_false h_9,eq_true h_10,tsl]) z0)))) ?_
 exact⟨rfl,by kernel_rfl⟩
 refine rG cx [0,2,6,8,9,10,58] [6,8,9,10] (tT 2 (A0 h_8) (tT 6 (A0 h_9) (tT 11 (A0 h_10) (tB 16 ((1000000000:Int) < lim.count) (tD 17 (decide ((1000000000:Int) < lim.count)) (lim.lines <(1:Int)∨(1000:Int) < lim.lines∨lim.count <(1:Int)∨(1000000000:Int) < lim.count) (by simp only [eq_false h_8,eq_false h_9,eq_false h_10,tsl]) z0))))) ?_
 exact⟨rfl,by kernel_rfl⟩
 refine sn<|dC (lim.lines <(1:Int)∨(1000:Int) < lim.lines∨lim.count <(1:Int)∨(1000000000:Int) < lim.count) (fun h11=>?_) fun h11=>?_
 refine sq<|rG cx [10,11] [10] z0<|sn<|rT<|nR<|qR (.tup [.agg [.nl,.nl,.nl,.nl],.i .i64 ((2:Int))]) (A3.tup (ZLe.cons (A3.agg (ZLe.cons (A3.nl' (show List.map c46 (B1 { live:=live,seen:=seen,rep:=rep,lim:=lim,act:={ kind:=(5:Int),sku:=s,qty:=q,past:=p:Actn }:Wish }).1.adds=[]from(by rw[C6 (w:=⟨live,seen,rep,lim,⟨5,s,q,p⟩⟩) hh2 hh3 h6 h11];rfl))) (ZLe.cons (A3.nl' (show List.map c3 (B1 { live:=live,seen:=seen,rep:=rep,lim:=lim,act:={ kind:=(5:Int),sku:=s,qty:=q,past:=p:Actn }:Wish }).1.gone.vec=[]from(by rw[C6 (w:=⟨live,seen,rep,lim,⟨5,s,q,p⟩⟩) hh2 hh3 h6 h11];rfl))) (ZLe.cons (A3.nl' (show List.map A9 (B1 { live:=live,seen:=seen,rep:=rep,lim:=lim,act:={ kind:=(5:Int),sku:=s,qty:=q,past:=p:Actn }:Wish }).1.gone.cloud=[]from(by rw[C6 (w:=⟨live,seen,rep,lim,⟨5,s,q,p⟩⟩) hh2 hh3 h6 h11];rfl))) (ZLe.cons (A3.nl' (show List.map c54 (B1 { live:=live,seen:=seen,rep:=rep,lim:=lim,act:={ kind:=(5:Int),sku:=s,qty:=q,past:=p:Actn }:Wish }).1.recs=[]from(by rw[C6 (w:=⟨live,seen,rep,lim,⟨5,s,q,p⟩⟩) hh2 hh3 h6 h11];rfl))) ZLe.nil))))) (ZLe.cons (A3.eq (show AV.i .i64 2=AV.i .i64 (B1 { live:=live,seen:=seen,rep:=rep,lim:=lim,act:={ kind:=(5:Int),sku:=s,qty:=q,past:=p:Actn }:Wish }).2 from(by rw[C6 (w:=⟨live,seen,rep,lim,⟨5,s,q,p⟩⟩) hh2 hh3 h6 h11]))) ZLe.nil)))
 refine sK<|sn<|sq<|sq<|rG cx [0,2,6,8,9,10,14] [6,8,9,10] (fT (Ab5 ({ kind:=(5:Int),sku:={ kind:=(5:Int),sku:=s,qty:=q,past:=p:Actn }.sku,qty:={ kind:=(5:Int),sku:=s,qty:=q,past:=p:Actn }.qty,past:={ kind:=(5:Int),sku:=s,qty:=q,past:=p:Actn }.past:Actn }) (by(with_reducible assumption))) (oA 1 (.i .i64 ((0:Int))) z0))<|sn<|sq<|rG cx [0,2,6,8,9,10,14,63] [6,8,9,10] z0<|sn<|X0 (by kernel_rfl) (by kernel_rfl)<|sK<|sn<|sq<|rA cx [10,11] [10] (fT (A2a ) (fO ((0:Int)≤(5:Int)) (fR (some [AV.fn (Fn.func (158:FuncId)) [] []]) (fR 1 (fT (con158 ({ live:=live,seen:=seen,rep:=rep,lim:=lim,act:={ kind:=(5:Int),sku:={ kind:=(5:Int),sku:=s,qty:=q,past:=p:Actn }.sku,qty:={ kind:=(5:Int),sku:=s,qty:=q,past:=p:Actn }.qty,past:={ kind:=(5:Int),sku:=s,qty:=q,past:=p:Actn }.past:Actn }:Wish })) (oA 0 (Ap2 (A2a )) (oR 3 [.fn (Fn.func (158:FuncId)) [] []] (oA 11 (.tup [.agg [.sl (List.map c46 { adds:=[],gone:=(C3 { live:=live,seen:=seen,rep:=rep,lim:=lim,act:={ kind:=(5:Int),sku:={ kind:=(5:Int),sku:=s,qty:=q,past:=p:Actn }.sku,qty:={ kind:=(5:Int),sku:=s,qty:=q,past:=p:Actn }.qty,past:={ kind:=(5:Int),sku:=s,qty:=q,past:=p:Actn }.past:Actn }:Wish }.live).1,recs:=[]:Facts }.adds),.sl (List.map c3 { adds:=[],gone:=(C3 { live:=live,seen:=seen,rep:=rep,lim:=lim,act:={ kind:=(5:Int),sku:={ kind:=(5:Int),sku:=s,qty:=q,past:=p:Actn }.sku,qty:={ kind:=(5:Int),sku:=s,qty:=q,past:=p:Actn }.qty,past:={ kind:=(5:Int),sku:=s,qty:=q,past:=p:Actn }.past:Actn }:Wish }.live).1,recs:=[]:Facts }.gone.vec),.sl (List.map A9 { adds:=[],gone:=(C3 { live:=live,seen:=seen,rep:=rep,lim:=lim,act:={ kind:=(5:Int),sku:={ kind:=(5:Int),sku:=s,qty:=q,past:=p:Actn }.sku,qty:={ kind:=(5:Int),sku:=s,qty:=q,past:=p:Actn }.qty,past:={ kind:=(5:Int),sku:=s,qty:=q,past:=p:Actn }.past:Actn }:Wish }.live).1,recs:=[]:Facts }.gone.cloud),.sl (List.map c54 { adds:=[],gone:=(C3 { live:=live,seen:=seen,rep:=rep,lim:=lim,act:={ kind:=(5:Int),sku:={ kind:=(5:Int),sku:=s,qty:=q,past:=p:Actn }.sku,qty:={ kind:=(5:Int),sku:=s,qty:=q,past:=p:Actn }.qty,past:={ kind:=(5:Int),sku:=s,qty:=q,past:=p:Actn }.past:Actn }:Wish }.live).1,recs:=[]:Facts }.recs)],.i .i64 ((0:Int))]) z0))))))))<|sn<|rT<|qR (.tup [.agg [.sl (List.map c46 { adds:=[],gone:=(C3 { live:=live,seen:=seen,rep:=rep,lim:=lim,act:={ kind:=(5:Int),sku:={ kind:=(5:Int),sku:=s,qty:=q,past:=p:Actn }.sku,qty:={ kind:=(5:Int),sku:=s,qty:=q,past:=p:Actn }.qty,past:={ kind:=(5:Int),sku:=s,qty:=q,past:=p:Actn }.past:Actn }:Wish }.live).1,recs:=[]:Facts }.adds),.sl (List.map c3 { adds:=[],gone:=(C3 { live:=live,seen:=seen,rep:=rep,lim:=lim,act:={ kind:=(5:Int),sku:={ kind:=(5:Int),sku:=s,qty:=q,past:=p:Actn }.sku,qty:={ kind:=(5:Int),sku:=s,qty:=q,past:=p:Actn }.qty,past:={ kind:=(5:Int),sku:=s,qty:=q,past:=p:Actn }.past:Actn }:Wish }.live).1,recs:=[]:Facts }.gone.vec),.sl (List.map A9 { adds:=[],gone:=(C3 { live:=live,seen:=seen,rep:=rep,lim:=lim,act:={ kind:=(5:Int),sku:={ kind:=(5:Int),sku:=s,qty:=q,past:=p:Actn }.sku,qty:={ kind:=(5:Int),sku:=s,qty:=q,past:=p:Actn }.qty,past:={ kind:=(5:Int),sku:=s,qty:=q,past:=p:Actn }.past:Actn }:Wish }.live).1,recs:=[]:Facts }.gone.cloud),.sl (List.map c54 { adds:=[],gone:=(C3 { live:=live,seen:=seen,rep:=rep,lim:=lim,act:={ kind:=(5:Int),sku:={ kind:=(5:Int),sku:=s,qty:=q,past:=p:Actn }.sku,qty:={ kind:=(5:Int),sku:=s,qty:=q,past:=p:Actn }.qty,past:={ kind:=(5:Int),sku:=s,qty:=q,past:=p:Actn }.past:Actn }:Wish }.live).1,recs:=[]:Facts }.recs)],.i .i64 ((0:Int))]) (A3.tup (ZLe.cons (A3.eq (show AV.agg [AV.sl (List.map c46 { adds:=[],gone:=(C3 { live:=live,seen:=seen,rep:=rep,lim:=lim,act:={ kind:=(5:Int),sku:={ kind:=(5:Int),sku:=s,qty:=q,past:=p:Actn }.sku,qty:={ kind:=(5:Int),sku:=s,qty:=q,past:=p:Actn }.qty,past:={ kind:=(5:Int),sku:=s,qty:=q,past:=p:Actn }.past:Actn }:Wish }.live).1,recs:=[]:Facts }.adds),AV.sl (List.map c3 { adds:=[],gone:=(C3 { live:=live,seen:=seen,rep:=rep,lim:=lim,act:={ kind:=(5:Int),sku:={ kind:=(5:Int),sku:=s,qty:=q,past:=p:Actn }.sku,qty:={ kind:=(5:Int),sku:=s,qty:=q,past:=p:Actn }.qty,past:={ kind:=(5:Int),sku:=s,qty:=q,past:=p:Actn }.past:Actn }:Wish }.live).1,recs:=[]:Facts }.gone.vec),AV.sl (List.map A9 { adds:=[],gone:=(C3 { live:=live,seen:=seen,rep:=rep,lim:=lim,act:={ kind:=(5:Int),sku:={ kind:=(5:Int),sku:=s,qty:=q,past:=p:Actn }.sku,qty:={ kind:=(5:Int),sku:=s,qty:=q,past:=p:Actn }.qty,past:={ kind:=(5:Int),sku:=s,qty:=q,past:=p:Actn }.past:Actn }:Wish }.live).1,recs:=[]:Facts }.gone.cloud),AV.sl (List.map c54 { adds:=[],gone:=(C3 { live:=live,seen:=seen,rep:=rep,lim:=lim,act:={ kind:=(5:Int),sku:={ kind:=(5:Int),sku:=s,qty:=q,past:=p:Actn }.sku,qty:={ kind:=(5:Int),sku:=s,qty:=q,past:=p:Actn }.qty,past:={ kind:=(5:Int),sku:=s,qty:=q,past:=p:Actn }.past:Actn }:Wish }.live).1,recs:=[]:Facts }.recs)]=AV.agg [AV.sl (List.map c46 (B1 { live:=live,seen:=seen,rep:=rep,lim:=lim,act:={ kind:=(5:Int),sku:=s,qty:=q,past:=p:Actn }:Wish }).1.adds),AV.sl (List.map c3 (B1 { live:=live,seen:=seen,rep:=rep,lim:=lim,act:={ kind:=(5:Int),sku:=s,qty:=q,past:=p:Actn }:Wish }).1.gone.vec),AV.sl (List.map A9 (B1 { live:=live,seen:=seen,rep:=rep,lim:=lim,act:={ kind:=(5:Int),sku:=s,qty:=q,past:=p:Actn }:Wish }).1.gone.cloud),AV.sl (List.map c54 (B1 { live:=live,seen:=seen,rep:=rep,lim:=lim,act:={ kind:=(5:Int),sku:=s,qty:=q,past:=p:Actn }:Wish }).1.recs)]from(by rw[G1 (w:=⟨live,seen,rep,lim,⟨5,s,q,p⟩⟩) hh2 hh3 h6 h11 (B0c s q p),B0a (w:=⟨live,seen,rep,lim,⟨5,s,q,p⟩⟩) rfl]))) (ZLe.cons (A3.eq (show AV.i .i64 0=AV.i .i64 (B1 { live:=live,seen:=seen,rep:=rep,lim:=lim,act:={ kind:=(5:Int),sku:=s,qty:=q,past:=p:Actn }:Wish }).2 from(by rw[G1 (w:=⟨live,seen,rep,lim,⟨5,s,q,p⟩⟩) hh2 hh3 h6 h11 (B0c s q p),B0a (w:=⟨live,seen,rep,lim,⟨5,s,q,p⟩⟩) rfl]))) ZLe.nil)))
theorem B3s(live:List Entry)(seen:Past)(rep:Int)(lim:Limits)(s:ByteArray)(q:Int)(p:Past)(hs:live.length*40≤140737488351232)(hb:szP seen)(hp:szP p):Con Tryz.prog 15 [.sl (live.map c46),.agg (c26 seen),.i .i64 rep,.agg (c28 lim),.agg (c30 ⟨6,s,q,p⟩)] (.tup [.agg (c36 (B1 ⟨live,seen,rep,lim,⟨6,s,q,p⟩⟩).1),.i .i64 (B1 ⟨live,seen,rep,lim,⟨6,s,q,p⟩⟩).2]) :=
 by
 refine lN 0 c46 (live) Tryz.func15 fun hl_0=>sC A6 [.cell 10 36,.tmp 11] 80 Tryz.func15 ?_
 intro e0 cx
 refine sq<|rG cx [0,2,6,8,9,10] [6,8,9,10] z0<|sn<|sq<|sq<|A7 (σ':=⟨[(0,.sl (List.map c46 live)),(2,.i .i64 (rep)),(6,.ptr (6) (0) (0) (0)),(8,.ptr (8) (0) (0) (0)),(9,.ptr (9) (0) (0) (0)),(10,.ptr (10) (0) (0) (0)),(22,.b (decide (¬B2 live=0∨¬seen=A4 seen)))],[(6,⟨0,26,.var [.sl (List.map c3 seen.vec),.sl (List.map A9 seen.cloud)]⟩),(8,⟨0,28,.var [.i .i64 (lim.lines),.i .i64 (lim.count)]⟩),(9,⟨0,30,.var [.i .i64 ((6:Int)),.s ({ kind:=(6:Int),sku:=s,qty:=q,past:=p:Actn }.sku),.i .i64 ({ kind:=(6:Int),sku:=s,qty:=q,past:=p:Actn }.qty),.sl (List.map c3 { kind:=(6:Int),sku:=s,qty:=q,past:=p:Actn }.past.vec),.sl (List.map A9 { kind:=(6:Int),sku:=s,qty:=q,past:=p:Actn }.past.cloud)]⟩),(10,⟨0,36,.var [.nl,.nl,.nl,.nl]⟩)]⟩) ?_ ?_
 refine A2 (¬B2 live=0) (fun hh1=>?_) (fun hh1=>?_)
 refine rG cx [0,2,6,8,9,10,22] [6,8,9,10] (fT (I1 (live)) (tT 2 (E1 hh1:AV.b (B2 live !=0)=AV.b true) (tD 7 true (¬B2 live=0∨¬seen=A4 seen) (by simp only [eq_false hh1,tsl]) (oA 1 (.i .i64 (B2 live)) z0)))) ?_
 exact⟨rfl,by kernel_rfl⟩
 refine rG cx [0,2,6,8,9,10,22] [6,8,9,10] (fT (I1 (live)) (tN 2 (B2 live) (0:Int) (tT 3 (A0 hh1) (fT (A0m (seen) (by exact hb.1)) (tQ 6 (seen=A4 seen) (tT 7 (by first | (simp only [eq_false hh1,tsl];done) | simp_all:AV.b (decide ¬seen=A4 seen)=AV.b (decide (¬B2 live=0∨¬seen=A4 seen))) (oA 1 (.i .i64 (B2 live)) (oA 5 (.b (decide (seen=A4 seen))) z0)))))))) ?_
 exact⟨rfl,by kernel_rfl⟩
 refine sn<|dC (¬B2 live=0∨¬seen=A4 seen) (fun hh2=>?_) fun hh2=>?_
 refine sq<|rG cx [10,11] [10] z0<|sn<|rT<|nR<|qR (.tup [.agg [.nl,.nl,.nl,.nl],.i .i64 ((1:Int))]) (A3.tup (ZLe.cons (A3.agg (ZLe.cons (A3.nl' (show List.map c46 (B1 { live:=live,seen:=seen,rep:=rep,lim:=lim,act:={ kind:=(6:Int),sku:=s,qty:=q,past:=p:Actn }:Wish }).1.adds=[]from(by rw[B5 (w:=⟨live,seen,rep,lim,⟨6,s,q,p⟩⟩) hh2];rfl))) (ZLe.cons (A3.nl' (show List.map c3 (B1 { live:=live,seen:=seen,rep:=rep,lim:=lim,act:={ kind:=(6:Int),sku:=s,qty:=q,past:=p:Actn }:Wish }).1.gone.vec=[]from(by rw[B5 (w:=⟨live,seen,rep,lim,⟨6,s,q,p⟩⟩) hh2];rfl))) (ZLe.cons (A3.nl' (show List.map A9 (B1 { live:=live,seen:=seen,rep:=rep,lim:=lim,act:={ kind:=(6:Int),sku:=s,qty:=q,past:=p:Actn }:Wish }).1.gone.cloud=[]from(by rw[B5 (w:=⟨live,seen,rep,lim,⟨6,s,q,p⟩⟩) hh2];rfl))) (ZLe.cons (A3.nl' (show List.map c54 (B1 { live:=live,seen:=seen,rep:=rep,lim:=lim,act:={ kind:=(6:Int),sku:=s,qty:=q,past:=p:Actn }:Wish }).1.recs=[]from(by rw[B5 (w:=⟨live,seen,rep,lim,⟨6,s,q,p⟩⟩) hh2];rfl))) ZLe.nil))))) (ZLe.cons (A3.eq (show AV.i .i64 1=AV.i .i64 (B1 { live:=live,seen:=seen,rep:=rep,lim:=lim,act:={ kind:=(6:Int),sku:=s,qty:=q,past:=p:Actn }:Wish }).2 from(by rw[B5 (w:=⟨live,seen,rep,lim,⟨6,s,q,p⟩⟩) hh2]))) ZLe.nil)))
 refine sK<|sn<|sq<|sq<|rG cx [0,2,6,8,9,10,12] [6,8,9,10] (fT (A8w (live) (seen) (by exact hb.1)) (oA 2 (.tup [.sl (List.map c46 (D3 live seen false).1),.i .i64 ((D3 live seen false).2)]) z0)) ?_
 refine sn<|rD cx [0,2,6,8,9,10,32] [6,8,9,10] (tL 1 c46 ((D3 live seen false).1) (zB 2 ((0:Int) <(↑(D3 live seen false).1.length:Int)))) (fun hh3=>?_) fun hh3=>?_
 refine sq<|rG cx [10,11] [10] z0<|sn<|rT<|nR<|qR (.tup [.agg [.nl,.nl,.nl,.nl],.i .i64 ((1:Int))]) (A3.tup (ZLe.cons (A3.agg (ZLe.cons (A3.nl' (show List.map c46 (B1 { live:=live,seen:=seen,rep:=rep,lim:=lim,act:={ kind:=(6:Int),sku:=s,qty:=q,past:=p:Actn }:Wish }).1.adds=[]from(by rw[B6 (w:=⟨live,seen,rep,lim,⟨6,s,q,p⟩⟩) hh2 hh3];rfl))) (ZLe.cons (A3.nl' (show List.map c3 (B1 { live:=live,seen:=seen,rep:=rep,lim:=lim,act:={ kind:=(6:Int),sku:=s,qty:=q,past:=p:Actn }:Wish }).1.gone.vec=[]from(by rw[B6 (w:=⟨live,seen,rep,lim,⟨6,s,q,p⟩⟩) hh2 hh3];rfl))) (ZLe.cons (A3.nl' (show List.map A9 (B1 { live:=live,seen:=seen,rep:=rep,lim:=lim,act:={ kind:=(6:Int),sku:=s,qty:=q,past:=p:Actn }:Wish }).1.gone.cloud=[]from(by rw[B6 (w:=⟨live,seen,rep,lim,⟨6,s,q,p⟩⟩) hh2 hh3];rfl))) (ZLe.cons (A3.nl' (show List.map c54 (B1 { live:=live,seen:=seen,rep:=rep,lim:=lim,act:={ kind:=(6:Int),sku:=s,qty:=q,past:=p:Actn }:Wish }).1.recs=[]from(by rw[B6 (w:=⟨live,seen,rep,lim,⟨6,s,q,p⟩⟩) hh2 hh3];rfl))) ZLe.nil))))) (ZLe.cons (A3.eq (show AV.i .i64 1=AV.i .i64 (B1 { live:=live,seen:=seen,rep:=rep,lim:=lim,act:={ kind:=(6:Int),sku:=s,qty:=q,past:=p:Actn }:Wish }).2 from(by rw[B6 (w:=⟨live,seen,rep,lim,⟨6,s,q,p⟩⟩) hh2 hh3]))) ZLe.nil)))
 refine sK<|sn<|sq<|sq<|A7 (σ':=⟨[(0,.sl (List.map c46 live)),(2,.i .i64 (rep)),(6,.ptr (6) (0) (0) (0)),(8,.ptr (8) (0) (0) (0)),(9,.ptr (9) (0) (0) (0)),(10,.ptr (10) (0) (0) (0)),(39,.b (decide (rep <(0:Int)∨16≤rep)))],[(6,⟨0,26,.var [.sl (List.map c3 seen.vec),.sl (List.map A9 seen.cloud)]⟩),(8,⟨0,28,.var [.i .i64 (lim.lines),.i .i64 (lim.count)]⟩),(9,⟨0,30,.var [.i .i64 ((6:Int)),.s ({ kind:=(6:Int),sku:=s,qty:=q,past:=p:Actn }.sku),.i .i64 ({ kind:=(6:Int),sku:=s,qty:=q,past:=p:Actn }.qty),.sl (List.map c3 { kind:=(6:Int),sku:=s,qty:=q,past:=p:Actn }.past.vec),.sl (List.map A9 { kind:=(6:Int),sku:=s,qty:=q,past:=p:Actn }.past.cloud)]⟩),(10,⟨0,36,.var [.nl,.nl,.nl,.nl]⟩)]⟩) ?_ ?_
 refine A2 (rep <(0:Int)) (fun h_5=>?_) (fun h_5=>?_)
 refine rG cx [0,2,6,8,9,10,39] [6,8,9,10] (tT 1 (A1 h_5) (tD 5 true (rep <(0:Int)∨16≤rep) (by simp only [eq_true h_5,tsl]) z0)) ?_
 exact⟨rfl,by kernel_rfl⟩
 refine rG cx [0,2,6,8,9,10,39] [6,8,9,10] (tT 1 (A0 h_5) (tB 4 (16≤rep) (tD 5 (decide (16≤rep)) (rep <(0:Int)∨16≤rep) (by simp only [eq_false h_5,tsl]) z0))) ?_
 exact⟨rfl,by kernel_rfl⟩
 refine sn<|dC (rep <(0:Int)∨16≤rep) (fun h6=>?_) fun h6=>?_
 refine sq<|rG cx [10,11] [10] z0<|sn<|rT<|nR<|qR (.tup [.agg [.nl,.nl,.nl,.nl],.i .i64 ((3:Int))]) (A3.tup (ZLe.cons (A3.agg (ZLe.cons (A3.nl' (show List.map c46 (B1 { live:=live,seen:=seen,rep:=rep,lim:=lim,act:={ kind:=(6:Int),sku:=s,qty:=q,past:=p:Actn }:Wish }).1.adds=[]from(by rw[C5 (w:=⟨live,seen,rep,lim,⟨6,s,q,p⟩⟩) hh2 hh3 h6];rfl))) (ZLe.cons (A3.nl' (show List.map c3 (B1 { live:=live,seen:=seen,rep:=rep,lim:=lim,act:={ kind:=(6:Int),sku:=s,qty:=q,past:=p:Actn }:Wish }).1.gone.vec=[]from(by rw[C5 (w:=⟨live,seen,rep,lim,⟨6,s,q,p⟩⟩) hh2 hh3 h6];rfl))) (ZLe.cons (A3.nl' (show List.map A9 (B1 { live:=live,seen:=seen,rep:=rep,lim:=lim,act:={ kind:=(6:Int),sku:=s,qty:=q,past:=p:Actn }:Wish }).1.gone.cloud=[]from(by rw[C5 (w:=⟨live,seen,rep,lim,⟨6,s,q,p⟩⟩) hh2 hh3 h6];rfl))) (ZLe.cons (A3.nl' (show List.map c54 (B1 { live:=live,seen:=seen,rep:=rep,lim:=lim,act:={ kind:=(6:Int),sku:=s,qty:=q,past:=p:Actn }:Wish }).1.recs=[]from(by rw[C5 (w:=⟨live,seen,rep,lim,⟨6,s,q,p⟩⟩) hh2 hh3 h6];rfl))) ZLe.nil))))) (ZLe.cons (A3.eq (show AV.i .i64 3=AV.i .i64 (B1 { live:=live,seen:=seen,rep:=rep,lim:=lim,act:={ kind:=(6:Int),sku:=s,qty:=q,past:=p:Actn }:Wish }).2 from(by rw[C5 (w:=⟨live,seen,rep,lim,⟨6,s,q,p⟩⟩) hh2 hh3 h6]))) ZLe.nil)))
 refine sK<|sn<|sq<|sq<|A7 (σ':=⟨[(0,.sl (List.map c46 live)),(2,.i .i64 (rep)),(6,.ptr (6) (0) (0) (0)),(8,.ptr (8) (0) (0) (0)),(9,.ptr (9) (0) (0) (0)),(10,.ptr (10) (0) (0) (0)),(58,.b (decide (lim.lines <(1:Int)∨(1000:Int) < lim.lines∨lim.count <(1:Int)∨(1000000000:Int) < lim.count)))],[(6,⟨0,26,.var [.sl (List.map c3 seen.vec),.sl (List.map A9 seen.cloud)]⟩),(8,⟨0,28,.var [.i .i64 (lim.lines),.i .i64 (lim.count)]⟩),(9,⟨0,30,.var [.i .i64 ((6:Int)),.s ({ kind:=(6:Int),sku:=s,qty:=q,past:=p:Actn }.sku),.i .i64 ({ kind:=(6:Int),sku:=s,qty:=q,past:=p:Actn }.qty),.sl (List.map c3 { kind:=(6:Int),sku:=s,qty:=q,past:=p:Actn }.past.vec),.sl (List.map A9 { kind:=(6:Int),sku:=s,qty:=q,past:=p:Actn }.past.cloud)]⟩),(10,⟨0,36,.var [.nl,.nl,.nl,.nl]⟩)]⟩) ?_ ?_
 refine A2 (lim.lines <(1:Int)) (fun h_8=>?_) (fun h_8=>?_)
 refine rG cx [0,2,6,8,9,10,58] [6,8,9,10] (tT 2 (A1 h_8) (tD 17 true (lim.lines <(1:Int)∨(1000:Int) < lim.lines∨lim.count <(1:Int)∨(1000000000:Int) < lim.count) (by simp only [eq_true h_8,tsl]) z0)) ?_
 exact⟨rfl,by kernel_rfl⟩
 refine A2 ((1000:Int) < lim.lines) (fun h_9=>?_) (fun h_9=>?_)
 refine rG cx [0,2,6,8,9,10,58] [6,8,9,10] (tT 2 (A0 h_8) (tT 6 (A1 h_9) (tD 17 true (lim.lines <(1:Int)∨(1000:Int) < lim.lines∨lim.count <(1:Int)∨(1000000000:Int) < lim.count) (by simp only [eq_false h_8,eq_true h_9,tsl]) z0))) ?_
 exact⟨rfl,by kernel_rfl⟩
 refine A2 (lim.count <(1:Int)) (fun h_10=>?_) (fun h_10=>?_)
 refine rG cx [0,2,6,8,9,10,58] [6,8,9,10] (tT 2 (A0 h_8) (tT 6 (A0 h_9) (tT 11 (A1 h_10) (tD 17 true (lim.lines <(1:Int)∨(1000:Int) < lim.lines∨lim.count <(1:Int)∨(1000000000:Int) < lim.count) (by simp only [eq_false h_8,eq_false h_9,eq_true h_10,tsl]) z0)))) ?_
 exact⟨rfl,by kernel_rfl⟩
 refine rG cx [0,2,6,8,9,10,58] [6,8,9,10] (tT 2 (A0 h_8) (tT 6 (A0 h_9) (tT 11 (A0 h_10) (tB 16 ((1000000000:Int) < lim.count) (tD 17 (decide ((1000000000:Int) < lim.count)) (lim.lines <(1:Int)∨(1000:Int) < lim.lines∨lim.count <(1:Int)∨(1000000000:Int) < lim.count) (by simp only [eq_false h_8,eq_false h_9,eq_false h_10,tsl]) z0))))) ?_
 exact⟨rfl,by kernel_rfl⟩
 refine sn<|dC (lim.lines <(1:Int)∨(1000:Int) < lim.lines∨lim.count <(1:Int)∨(1000000000:Int) < lim.count) (fun h11=>?_) fun h11=>?_
 refine sq<|rG cx [10,11] [10] z0<|sn<|rT<|nR<|qR (.tup [.agg [.nl,.nl,.nl,.nl],.i .i64 ((2:Int))]) (A3.tup (ZLe.cons (A3.agg (ZLe.cons (A3.nl' (show List.map c46 (B1 { live:=live,seen:=seen,rep:=rep,lim:=lim,act:={ kind:=(6:Int),sku:=s,qty:=q,past:=p:Actn }:Wish }).1.adds=[]from(by rw[C6 (w:=⟨live,seen,rep,lim,⟨6,s,q,p⟩⟩) hh2 hh3 h6 h11];rfl))) (ZLe.cons (A3.nl' (show List.map c3 (B1 { live:=live,seen:=seen,rep:=rep,lim:=lim,act:={ kind:=(6:Int),sku:=s,qty:=q,past:=p:Actn }:Wish }).1.gone.vec=[]from(by rw[C6 (w:=⟨live,seen,rep,lim,⟨6,s,q,p⟩⟩) hh2 hh3 h6 h11];rfl))) (ZLe.cons (A3.nl' (show List.map A9 (B1 { live:=live,seen:=seen,rep:=rep,lim:=lim,act:={ kind:=(6:Int),sku:=s,qty:=q,past:=p:Actn }:Wish }).1.gone.cloud=[]from(by rw[C6 (w:=⟨live,seen,rep,lim,⟨6,s,q,p⟩⟩) hh2 hh3 h6 h11];rfl))) (ZLe.cons (A3.nl' (show List.map c54 (B1 { live:=live,seen:=seen,rep:=rep,lim:=lim,act:={ kind:=(6:Int),sku:=s,qty:=q,past:=p:Actn }:Wish }).1.recs=[]from(by rw[C6 (w:=⟨live,seen,rep,lim,⟨6,s,q,p⟩⟩) hh2 hh3 h6 h11];rfl))) ZLe.nil))))) (ZLe.cons (A3.eq (show AV.i .i64 2=AV.i .i64 (B1 { live:=live,seen:=seen,rep:=rep,lim:=lim,act:={ kind:=(6:Int),sku:=s,qty:=q,past:=p:Actn }:Wish }).2 from(by rw[C6 (w:=⟨live,seen,rep,lim,⟨6,s,q,p⟩⟩) hh2 hh3 h6 h11]))) ZLe.nil)))
 refine sK<|sn<|sq<|sq<|rG cx [0,2,6,8,9,10,14] [6,8,9,10] (fT (Ab5 ({ kind:=(6:Int),sku:={ kind:=(6:Int),sku:=s,qty:=q,past:=p:Actn }.sku,qty:={ kind:=(6:Int),sku:=s,qty:=q,past:=p:Actn }.qty,past:={ kind:=(6:Int),sku:=s,qty:=q,past:=p:Actn }.past:Actn }) (by(with_reducible assumption))) (oA 1 (.i .i64 (K6 { kind:=(6:Int),sku:={ kind:=(6:Int),sku:=s,qty:=q,past:=p:Actn }.sku,qty:={ kind:=(6:Int),sku:=s,qty:=q,past:=p:Actn }.qty,past:={ kind:=(6:Int),sku:=s,qty:=q,past:=p:Actn }.past:Actn })) z0))<|sn<|sq<|rG cx [0,2,6,8,9,10,14,63] [6,8,9,10] (tN 1 (K6 { kind:=(6:Int),sku:={ kind:=(6:Int),sku:=s,qty:=q,past:=p:Actn }.sku,qty:={ kind:=(6:Int),sku:=s,qty:=q,past:=p:Actn }.qty,past:={ kind:=(6:Int),sku:=s,qty:=q,past:=p:Actn }.past:Actn }) (0:Int) z0)<|sn<|dC (¬K6 { kind:=(6:Int),sku:={ kind:=(6:Int),sku:=s,qty:=q,past:=p:Actn }.sku,qty:={ kind:=(6:Int),sku:=s,qty:=q,past:=p:Actn }.qty,past:={ kind:=(6:Int),sku:=s,qty:=q,past:=p:Actn }.past:Actn }=(0:Int)) (fun h12=>?_) fun h12=>?_
 refine sq<|rG cx [10,11] [10] z0<|sn<|rT<|nR<|qR (.tup [.agg [.nl,.nl,.nl,.nl],.i .i64 (K6 { kind:=(6:Int),sku:={ kind:=(6:Int),sku:=s,qty:=q,past:=p:Actn }.sku,qty:={ kind:=(6:Int),sku:=s,qty:=q,past:=p:Actn }.qty,past:={ kind:=(6:Int),sku:=s,qty:=q,past:=p:Actn }.past:Actn })]) (A3.tup (ZLe.cons (A3.agg (ZLe.cons (A3.nl' (show List.map c46 (B1 { live:=live,seen:=seen,rep:=rep,lim:=lim,act:={ kind:=(6:Int),sku:=s,qty:=q,past:=p:Actn }:Wish }).1.adds=[]from(by rw[D0 (w:=⟨live,seen,rep,lim,⟨6,s,q,p⟩⟩) hh2 hh3 h6 h11 h12];rfl))) (ZLe.cons (A3.nl' (show List.map c3 (B1 { live:=live,seen:=seen,rep:=rep,lim:=lim,act:={ kind:=(6:Int),sku:=s,qty:=q,past:=p:Actn }:Wish }).1.gone.vec=[]from(by rw[D0 (w:=⟨live,seen,rep,lim,⟨6,s,q,p⟩⟩) hh2 hh3 h6 h11 h12];rfl))) (ZLe.cons (A3.nl' (show List.map A9 (B1 { live:=live,seen:=seen,rep:=rep,lim:=lim,act:={ kind:=(6:Int),sku:=s,qty:=q,past:=p:Actn }:Wish }).1.gone.cloud=[]from(by rw[D0 (w:=⟨live,seen,rep,lim,⟨6,s,q,p⟩⟩) hh2 hh3 h6 h11 h12];rfl))) (ZLe.cons (A3.nl' (show List.map c54 (B1 { live:=live,seen:=seen,rep:=rep,lim:=lim,act:={ kind:=(6:Int),sku:=s,qty:=q,past:=p:Actn }:Wish }).1.recs=[]from(by rw[D0 (w:=⟨live,seen,rep,lim,⟨6,s,q,p⟩⟩) hh2 hh3 h6 h11 h12];rfl))) ZLe.nil))))) (ZLe.cons (A3.eq (show AV.i .i64 (K6 { kind:=(6:Int),sku:={ kind:=(6:Int),sku:=s,qty:=q,past:=p:Actn }.sku,qty:={ kind:=(6:Int),sku:=s,qty:=q,past:=p:Actn }.qty,past:={ kind:=(6:Int),sku:=s,qty:=q,past:=p:Actn }.past:Actn })=AV.i .i64 (B1 { live:=live,seen:=seen,rep:=rep,lim:=lim,act:={ kind:=(6:Int),sku:=s,qty:=q,past:=p:Actn }:Wish }).2 from(by rw[D0 (w:=⟨live,seen,rep,lim,⟨6,s,q,p⟩⟩) hh2 hh3 h6 h11 h12]))) ZLe.nil)))
 refine sK<|sn<|sq<|rA cx [10,11] [10] (fT (A2a ) (fO ((0:Int)≤(6:Int)) (fR (some [AV.fn (Fn.func (159:FuncId)) [] []]) (fR 1 (fT (con159 ({ live:=live,seen:=seen,rep:=rep,lim:=lim,act:={ kind:=(6:Int),sku:={ kind:=(6:Int),sku:=s,qty:=q,past:=p:Actn }.sku,qty:={ kind:=(6:Int),sku:=s,qty:=q,past:=p:Actn }.qty,past:={ kind:=(6:Int),sku:=s,qty:=q,past:=p:Actn }.past:Actn }:Wish }) (by(with_reducible assumption))) (oA 0 (Ap2 (A2a )) (oR 3 [.fn (Fn.func (159:FuncId)) [] []] (oA 11 (.tup [.agg [.sl (List.map c46 (G0 noneS { live:=live,seen:=seen,rep:=rep,lim:=lim,act:={ kind:=(6:Int),sku:={ kind:=(6:Int),sku:=s,qty:=q,past:=p:Actn }.sku,qty:={ kind:=(6:Int),sku:=s,qty:=q,past:=p:Actn }.qty,past:={ kind:=(6:Int),sku:=s,qty:=q,past:=p:Actn }.past:Actn }:Wish }.act.past).adds),.sl (List.map c3 (G0 noneS { live:=live,seen:=seen,rep:=rep,lim:=lim,act:={ kind:=(6:Int),sku:={ kind:=(6:Int),sku:=s,qty:=q,past:=p:Actn }.sku,qty:={ kind:=(6:Int),sku:=s,qty:=q,past:=p:Actn }.qty,past:={ kind:=(6:Int),sku:=s,qty:=q,past:=p:Actn }.past:Actn }:Wish }.act.past).gone.vec),.sl (List.map A9 (G0 noneS { live:=live,seen:=seen,rep:=rep,lim:=lim,act:={ kind:=(6:Int),sku:={ kind:=(6:Int),sku:=s,qty:=q,past:=p:Actn }.sku,qty:={ kind:=(6:Int),sku:=s,qty:=q,past:=p:Actn }.qty,past:={ kind:=(6:Int),sku:=s,qty:=q,past:=p:Actn }.past:Actn }:Wish }.act.past).gone.cloud),.sl (List.map c54 (G0 noneS { live:=live,seen:=seen,rep:=rep,lim:=lim,act:={ kind:=(6:Int),sku:={ kind:=(6:Int),sku:=s,qty:=q,past:=p:Actn }.sku,qty:={ kind:=(6:Int),sku:=s,qty:=q,past:=p:Actn }.qty,past:={ kind:=(6:Int),sku:=s,qty:=q,past:=p:Actn }.past:Actn }:Wish }.act.past).recs)],.i .i64 ((0:Int))]) z0))))))))<|sn<|rT<|qR (.tup [.agg [.sl (List.map c46 (G0 noneS { live:=live,seen:=seen,rep:=rep,lim:=lim,act:={ kind:=(6:Int),sku:={ kind:=(6:Int),sku:=s,qty:=q,past:=p:Actn }.sku,qty:={ kind:=(6:Int),sku:=s,qty:=q,past:=p:Actn }.qty,past:={ kind:=(6:Int),sku:=s,qty:=q,past:=p:Actn }.past:Actn }:Wish }.act.past).adds),.sl (List.map c3 (G0 noneS { live:=live,seen:=seen,rep:=rep,lim:=lim,act:={ kind:=(6:Int),sku:={ kind:=(6:Int),sku:=s,qty:=q,past:=p:Actn }.sku,qty:={ kind:=(6:Int),sku:=s,qty:=q,past:=p:Actn }.qty,past:={ kind:=(6:Int),sku:=s,qty:=q,past:=p:Actn }.past:Actn }:Wish }.act.past).gone.vec),.sl (List.map A9 (G0 noneS { live:=live,seen:=seen,rep:=rep,lim:=lim,act:={ kind:=(6:Int),sku:={ kind:=(6:Int),sku:=s,qty:=q,past:=p:Actn }.sku,qty:={ kind:=(6:Int),sku:=s,qty:=q,past:=p:Actn }.qty,past:={ kind:=(6:Int),sku:=s,qty:=q,past:=p:Actn }.past:Actn }:Wish }.act.past).gone.cloud),.sl (List.map c54 (G0 noneS { live:=live,seen:=seen,rep:=rep,lim:=lim,act:={ kind:=(6:Int),sku:={ kind:=(6:Int),sku:=s,qty:=q,past:=p:Actn }.sku,qty:={ kind:=(6:Int),sku:=s,qty:=q,past:=p:Actn }.qty,past:={ kind:=(6:Int),sku:=s,qty:=q,past:=p:Actn }.past:Actn }:Wish }.act.past).recs)],.i .i64 ((0:Int))]) (A3.tup (ZLe.cons (A3.eq (show AV.agg [AV.sl (List.map c46 (G0 noneS { live:=live,seen:=seen,rep:=rep,lim:=lim,act:={ kind:=(6:Int),sku:={ kind:=(6:Int),sku:=s,qty:=q,past:=p:Actn }.sku,qty:={ kind:=(6:Int),sku:=s,qty:=q,past:=p:Actn }.qty,past:={ kind:=(6:Int),sku:=s,qty:=q,past:=p:Actn }.past:Actn }:Wish }.act.past).adds),AV.sl (List.map c3 (G0 noneS { live:=live,seen:=seen,rep:=rep,lim:=lim,act:={ kind:=(6:Int),sku:={ kind:=(6:Int),sku:=s,qty:=q,past:=p:Actn }.sku,qty:={ kind:=(6:Int),sku:=s,qty:=q,past:=p:Actn }.qty,past:={ kind:=(6:Int),sku:=s,qty:=q,past:=p:Actn }.past:Actn }:Wish }.act.past).gone.vec),AV.sl (List.map A9 (G0 noneS { live:=live,seen:=seen,rep:=rep,lim:=lim,act:={ kind:=(6:Int),sku:={ kind:=(6:Int),sku:=s,qty:=q,past:=p:Actn }.sku,qty:={ kind:=(6:Int),sku:=s,qty:=q,past:=p:Actn }.qty,past:={ kind:=(6:Int),sku:=s,qty:=q,past:=p:Actn }.past:Actn }:Wish }.act.past).gone.cloud),AV.sl (List.map c54 (G0 noneS { live:=live,seen:=seen,rep:=rep,lim:=lim,act:={ kind:=(6:Int),sku:={ kind:=(6:Int),sku:=s,qty:=q,past:=p:Actn }.sku,qty:={ kind:=(6:Int),sku:=s,qty:=q,past:=p:Actn }.qty,past:={ kind:=(6:Int),sku:=s,qty:=q,past:=p:Actn }.past:Actn }:Wish }.act.past).recs)]=AV.agg [AV.sl (List.map c46 (B1 { live:=live,seen:=seen,rep:=rep,lim:=lim,act:={ kind:=(6:Int),sku:=s,qty:=q,past:=p:Actn }:Wish }).1.adds),AV.sl (List.map c3 (B1 { live:=live,seen:=seen,rep:=rep,lim:=lim,act:={ kind:=(6:Int),sku:=s,qty:=q,past:=p:Actn }:Wish }).1.gone.vec),AV.sl (List.map A9 (B1 { live:=live,seen:=seen,rep:=rep,lim:=lim,act:={ kind:=(6:Int),sku:=s,qty:=q,past:=p:Actn }:Wish }).1.gone.cloud),AV.sl (List.map c54 (B1 { live:=live,seen:=seen,rep:=rep,lim:=lim,act:={ kind:=(6:Int),sku:=s,qty:=q,past:=p:Actn }:Wish }).1.recs)]from(by rw[G1 (w:=⟨live,seen,rep,lim,⟨6,s,q,p⟩⟩) hh2 hh3 h6 h11 h12,B0b (w:=⟨live,seen,rep,lim,⟨6,s,q,p⟩⟩) rfl]))) (ZLe.cons (A3.eq (show AV.i .i64 0=AV.i .i64 (B1 { live:=live,seen:=seen,rep:=rep,lim:=lim,act:={ kind:=(6:Int),sku:=s,qty:=q,past:=p:Actn }:Wish }).2 from(by rw[G1 (w:=⟨live,seen,rep,lim,⟨6,s,q,p⟩⟩) hh2 hh3 h6 h11 h12,B0b (w:=⟨live,seen,rep,lim,⟨6,s,q,p⟩⟩) rfl]))) ZLe.nil)))
theorem A2m{a:Actn}(h:K6 a=0):a.kind=1∨a.kind=2∨a.kind=3∨a.kind=4∨a.kind=5∨a.kind=6:=by
 unfold K6 at h
 split at h
 ·omega
 ·omega
noncomputable def A8(live:List Entry)(seen:Past)(rep:Int)(lim:Limits)(a:Actn):Facts×Int:=B1 ⟨live,seen,rep,lim,a⟩
theorem con15(live:List Entry)(seen:Past)(rep:Int)(lim:Limits)(a:Actn)(hs:live.length*40≤140737488351232)(hb:szP seen)(hp:szP a.past):Con Tryz.prog 15 [.sl (live.map c46),.agg (c26 seen),.i .i64 rep,.agg (c28 lim),.agg (c30 a)] (.tup [.agg (c36 (A8 live seen rep lim a).1),.i .i64 (A8 live seen rep lim a).2]):=by
 by_cases h:K6 a=0
 ·have h:=A2m h
  obtain⟨k,s,q,p⟩:=a
  rcases h with h | h | h | h | h | h <;> cases h
  ·exact B3n live seen rep lim s q p hs hb hp
  ·exact B3o live seen rep lim s q p hs hb hp
  ·exact B3p live seen rep lim s q p hs hb hp
  ·exact B3q live seen rep lim s q p hs hb hp
  ·exact B3r live seen rep lim s q p hs hb hp
  ·exact B3s live seen rep lim s q p hs hb hp
 ·exact B3m live seen rep lim a hs hb hp h
end Go.Proofs.YtphcaholhacnpaaGreat
namespace Go.Proofs.YtphcaholhacnpaaGreat
open Go.E
set_option maxRecDepth 100000
set_option maxHeartbeats 4000000
def selB(s:ByteArray)(r:Int)(e:Entry):Bool:=decide ((s=noneS∨e.sku=s)∧(r < 0∨e.dot.rep=r))
def B0d(s:ByteArray)(r:Int)(e:Entry):Bool:=decide (e.sku=s∧(r < 0∨e.dot.rep=r))
def dotS(es:List Entry)(s:ByteArray)(r:Int):Past:=I9 (ofT ((es.filter (selB s r)).map fun e=>e.dot))
end Go.Proofs.YtphcaholhacnpaaGreat
namespace Go.Proofs.YtphcaholhacnpaaGreat
open Go.E
set_option maxRecDepth 100000
set_option maxHeartbeats 4000000
theorem B0e{e:Entry}(h:N9 e=0):U6 e.dot=true:=(A8j.1 h).1
theorem A4b{es:List Entry}(h:B2 es=0){p:Entry→Bool}{d:Dot}:D7 (I9 (ofT ((es.filter p).map fun e=>e.dot))) d=true↔∃ e∈es,p e=true∧e.dot=d:=by
 rw[B4p]
 constructor
 ·rintro⟨_,h2⟩
  obtain⟨e,he,rfl⟩:=List.mem_map.1 h2
  exact⟨e,(List.mem_filter.1 he).1,(List.mem_filter.1 he).2,rfl⟩
 ·rintro⟨e,he,hp,rfl⟩
  exact⟨B0e (A02 h e he),List.mem_map.2 ⟨e,List.mem_filter.2 ⟨he,hp⟩,rfl⟩⟩
theorem B0f{live:List Entry}{seen:Past}(h:B2 live=0)(hn:seen=A4 seen):E0 (F1 (dotS live noneS (-1)) seen)=0↔¬ 0 <((D3 live seen false).1.length:Int):=by
 rw[A6w h hn,G9]
 constructor
 ·intro k c
  obtain⟨e,he⟩:=List.exists_mem_of_length_pos (l:=live.filter fun e=>D7 seen e.dot == false) (by simp only at c;omega)
  have h2:=List.mem_filter.1 he
  have h3:=k e.dot
  rw[A6k]at h3
  have h4:D7 (dotS live noneS (-1)) e.dot=true:=(A4b h).2 ⟨e,h2.1,by unfold selB;simp,rfl⟩
  rw[h4]at h3
  have h5:D7 seen e.dot=false:=by simpa using h2.2
  rw[h5]at h3
  cases h3
 ·intro k d
  rw[A6k]
  cases h1:D7 (dotS live noneS (-1)) d with
  | false=>rfl
  | true =>
   obtain⟨e,he,_,rfl⟩:=(A4b h).1 h1
   cases h2:D7 seen e.dot with
   | true=>rfl
   | false =>
    refine absurd ?_ k
    have:e∈live.filter fun e=>D7 seen e.dot == false:=List.mem_filter.2 ⟨he,by rw[h2];rfl⟩
    have:=List.length_pos_of_mem this
    simp only
    omega
theorem T6{a:Actn}(h:¬ ¬ K6 a=0)(k:a.kind≤4):J6 a.sku=true:=by
 have h:=Classical.not_not.1 h
 unfold K6 at h
 split at h
 ·omega
 ·split at h
  ·omega
  ·split at h
   ·omega
   ·rename_i c
    cases g:J6 a.sku with
    | true=>rfl
    | false=>exact absurd ⟨k,g⟩ c
theorem B0g{a:Actn}(h:¬ ¬ K6 a=0)(k:a.kind=1∨a.kind=2):1≤a.qty∧a.qty≤1000000:=by
 obtain⟨x,s,q,p⟩:=a
 exact B05 h k
theorem B53{live:List Entry}{s:ByteArray}(h:B2 live=0)(g:J6 s=true):(ofV live s).1=live.filter (B0d s (-1)):=by
 rw[A5h h g]
 exact congrArg (fun p=>live.filter p) (funext fun e=>by unfold B0d;simp)
theorem B0h{live:List Entry}{s:ByteArray}{r:Int}(h:B2 live=0)(g:J6 s=true)(hr:¬(r < 0∨16≤r)):(E8 live r s).1=live.filter (B0d s r):=by
 rw[A1q h hr g]
 refine congrArg (fun p=>live.filter p) (funext fun e=>?_)
 unfold B0d
 exact decide_eq_decide.2 ⟨fun k=>⟨k.1,.inr k.2⟩,fun k=>⟨k.1,k.2.elim (fun c=>absurd (.inl c) hr) id⟩⟩
theorem A15{live:List Entry}(h:B2 live=0)(p:Entry→Bool):B2 (live.filter p)=0:=(F8 _).2 (R1 ((F8 _).1 h) List.filter_sublist)
end Go.Proofs.YtphcaholhacnpaaGreat
namespace Go.Proofs.YtphcaholhacnpaaGreat
open Go.E
set_option maxRecDepth 100000
set_option maxHeartbeats 4000000
def A4c(r:Record)(e:Entry):Bool:=decide (r.sku=noneS∨r.sku=e.sku) && D7 r.past e.dot
def M6(rs:List Record)(e:Entry):Int:=(rs.filter fun r=>A4c r e).length
def K1(r:Record)(rs:List Record):List Record:=r :: rs.takeWhile fun x=>decide (x.sku=r.sku)
def A4t(r:Record)(rs:List Record):List Record:=rs.dropWhile fun x=>decide (x.sku=r.sku)
theorem A93(r:Record)(rs:List Record):(A4t r rs).length≤rs.length:=(List.dropWhile_sublist _).length_le
noncomputable def A4d(all:Past)(r:Record)(rs:List Record):Past:=if r.sku=noneS then D8 ((K1 r rs).map fun x=>x.past)else F1 (D8 ((K1 r rs).map fun x=>x.past)) all
noncomputable def allG(all:Past)(r:Record)(rs:List Record):Past:=if r.sku=noneS then D8 ((K1 r rs).map fun x=>x.past)else all
noncomputable def T7(all:Past)(out:List Record):List Record→List Record
 | []=>out
 | r :: rs=>T7 (allG all r rs) (if E0 (A4d all r rs)=0 then out else out++[⟨r.sku,A4d all r rs⟩]) (A4t r rs)
termination_by l=>l.length
decreasing_by
 have:=A93 r rs
 simp only [List.length_cons]
 omega
noncomputable def O1(rs:List Record):List Record×Int:=if R3 rs=0 then(T7 ⟨[],[]⟩ [] rs,0)else([],1)
theorem A4e(all:Past)(out:List Record):T7 all out []=out:=by rw[T7]
theorem A5o(all:Past)(out:List Record)(r:Record)(rs:List Record):T7 all out (r :: rs)=T7 (allG all r rs) (if E0 (A4d all r rs)=0 then out else out++[⟨r.sku,A4d all r rs⟩]) (A4t r rs):=by rw[T7]
theorem Ao5(r:Record)(rs:List Record):K1 r rs++A4t r rs=r :: rs:=by
 unfold K1 A4t
 rw[List.cons_append,List.takeWhile_append_dropWhile]
theorem Aj4{α:Type}{p:α→Bool}{x:α}:∀ {l:List α},x∈l.takeWhile p→p x=true
 | [],h=>by cases h
 | y :: l,h=>by
  rw[List.takeWhile_cons]at h
  split at h
  ·rcases List.mem_cons.1 h with rfl | h
   ·assumption
   ·exact Aj4 h
  ·cases h
theorem A94{r:Record}{rs:List Record}{x:Record}(h:x∈K1 r rs):x.sku=r.sku:=by
 unfold K1 at h
 rcases List.mem_cons.1 h with rfl | h
 ·rfl
 ·have:=Aj4 h
  simpa using this
theorem W1{r:Record}{e:Entry}:A4c r e=true↔(r.sku=noneS∨r.sku=e.sku)∧D7 r.past e.dot=true:=by
 unfold A4c
 rw[Bool.and_eq_true,decide_eq_true_iff]
theorem B3t(e:Entry):∀(n:Nat) (l:List Record),l.length≤n→∀(all:Past) (out:List Record),(∀ d,D7 all d=true→∃ r∈out,r.sku=noneS∧D7 r.past d=true) →
  ((∃ r∈T7 all out l,A4c r e=true)↔(∃ r∈out,A4c r e=true)∨∃ r∈l,A4c r e=true):=by
 intro n
 induction n with
 | zero =>
  intro l hl all out _
  have:l=[]:=List.eq_nil_of_length_eq_zero (by omega)
  subst this
  rw[A4e]
  simp
 | succ n ih =>
  intro l hl all out hP
  cases l with
  | nil=>rw[A4e];simp
  | cons r rs =>
   have hlen:=A93 r rs
   simp only [List.length_cons]at hl
   have hj:∀ d,D7 (D8 ((K1 r rs).map fun x=>x.past)) d=true↔∃ x∈K1 r rs,D7 x.past d=true:=fun d=>by
    rw[B2m,List.any_map,List.any_eq_true]
    simp only [Function.comp]
   have hg:(∃ x∈K1 r rs,A4c x e=true)↔(r.sku=noneS∨r.sku=e.sku)∧D7 (D8 ((K1 r rs).map fun x=>x.past)) e.dot=true:=by
    rw[hj]
    constructor
    ·rintro⟨x,hx,h⟩
     obtain⟨h1,h2⟩:=W1.1 h
     rw[A94 hx]at h1
     exact⟨h1,x,hx,h2⟩
    ·rintro⟨h1,x,hx,h2⟩
     exact⟨x,hx,W1.2 ⟨by rw[A94 hx];exact h1,h2⟩⟩
   have hs:(∃ x∈r :: rs,A4c x e=true)↔(∃ x∈K1 r rs,A4c x e=true)∨∃ x∈A4t r rs,A4c x e=true:=by
    rw[← Ao5 r rs]
    constructor
    ·rintro⟨x,hx,h⟩
     rcases List.mem_append.1 hx with hx | hx
     ·exact .inl ⟨x,hx,h⟩
     ·exact .inr ⟨x,hx,h⟩
    ·rintro(⟨x,hx,h⟩ | ⟨x,hx,h⟩)
     ·exact⟨x,List.mem_append.2 (.inl hx),h⟩
     ·exact⟨x,List.mem_append.2 (.inr hx),h⟩
   -- what the group's own record covers,beside what was there
   have own:∀ q:Past,(r.sku=noneS→∀ d,D7 q d=D7 (D8 ((K1 r rs).map fun x=>x.past)) d)→(¬ r.sku=noneS→∀ d,D7 q d=(D7 (D8 ((K1 r rs).map fun x=>x.past)) d && !D7 all d)) →
     ((∃ x∈(if E0 q=0 then out else out++[⟨r.sku,q⟩]),A4c x e=true)↔(∃ x∈out,A4c x e=true)∨∃ x∈K1 r rs,A4c x e=true):=by
    intro q hq1 hq2
    have hmem:(∃ x∈(if E0 q=0 then out else out++[⟨r.sku,q⟩]),A4c x e=true)↔(∃ x∈out,A4c x e=true)∨((r.sku=noneS∨r.sku=e.sku)∧D7 q e.dot=true):=by
     split
     ·rename_i h0
      have:=(G9 q).1 h0 e.dot
      rw[this]
      simp
     ·constructor
      ·rintro⟨x,hx,h⟩
       rcases List.mem_append.1 hx with hx | hx
       ·exact .inl ⟨x,hx,h⟩
       ·have:x=⟨r.sku,q⟩:=by simpa using hx
        subst this
        exact .inr (W1.1 h)
      ·rintro(⟨x,hx,h⟩ | h)
       ·exact⟨x,by simp [hx],h⟩
       ·exact⟨⟨r.sku,q⟩,by simp,W1.2 h⟩
    rw[hmem,hg]
    by_cases hn:r.sku=noneS
    ·rw[hq1 hn]
    ·rw[hq2 hn,Bool.and_eq_true,Bool.not_eq_true']
     constructor
     ·rintro(h | h)
      ·exact .inl h
      ·exact .inr ⟨h.1,h.2.1⟩
     ·rintro(h | ⟨h1,h2⟩)
      ·exact .inl h
      ·cases ha:D7 all e.dot with
       | false=>exact .inr ⟨h1,h2,rfl⟩
       | true =>
        obtain⟨x,hx,k1,k2⟩:=hP _ ha
        exact .inl ⟨x,hx,W1.2 ⟨.inl k1,k2⟩⟩
   rw[A5o,ih (A4t r rs) (by omega) _ _ ?_,own (A4d all r rs) ?_ ?_,hs,or_assoc]
   ·intro hn d
    unfold A4d
    rw[if_pos hn]
   ·intro hn d
    unfold A4d
    rw[if_neg hn,A6k]
   ·intro d hd
    unfold allG at hd
    by_cases hn:r.sku=noneS
    ·rw[if_pos hn]at hd
     have hq:A4d all r rs=D8 ((K1 r rs).map fun x=>x.past):=by unfold A4d;rw[if_pos hn]
     have h0:¬ E0 (A4d all r rs)=0:=fun h0=>by
      have:=(G9 _).1 h0 d
      rw[hq,hd]at this
      cases this
     rw[if_neg h0]
     exact⟨⟨r.sku,A4d all r rs⟩,by simp,hn,by rw[hq];exact hd⟩
    ·rw[if_neg hn]at hd
     obtain⟨x,hx,k⟩:=hP d hd
     split
     ·exact⟨x,hx,k⟩
     ·exact⟨x,by simp [hx],k⟩
theorem A4f{rs:List Record}{e:Entry}:M6 rs e=0↔¬ ∃ r∈rs,A4c r e=true:=by
 unfold M6
 constructor
 ·rintro h ⟨r,hr,k⟩
  have:0 <(rs.filter fun r=>A4c r e).length:=List.length_pos_iff.2 (List.ne_nil_of_mem (List.mem_filter.2 ⟨hr,k⟩))
  omega
 ·intro h
  have:rs.filter (fun r=>A4c r e)=[]:=List.filter_eq_nil_iff.2 fun r hr k=>h ⟨r,hr,k⟩
  rw[this];rfl
theorem B0i(rs:List Record)(e:Entry):M6 (T7 ⟨[],[]⟩ [] rs) e=0↔M6 rs e=0:=by
 rw[A4f,A4f,B3t e rs.length rs (Nat.le_refl _) _ _ (fun d h=>by rw[A0q]at h;cases h)]
 simp
noncomputable def J3(es:List Entry)(rs:List Record):List Entry×Int:=if B2 es=0∧R3 rs=0 then(es.filter fun e=>decide (M6 rs e=0),0)else([],1)
def Aj5(rs:List Record):Nat:=(rs.map fun r=>r.past.cloud.length+1).sum
def tokR(rs:List Record):Prop:=Aj5 rs*16≤140737488350000∧rs.length*64≤140737488350000
end Go.Proofs.YtphcaholhacnpaaGreat
namespace Go.Proofs.YtphcaholhacnpaaGreat
open Go.E
set_option maxRecDepth 100000
set_option maxHeartbeats 4000000
def B3u(rs:List Record)(e:Entry)(n i r m:Int)(s:ByteArray)(q:Int):Prop:=r=e.dot.rep∧m=e.dot.num∧s=e.sku∧q=e.qty∧0≤i∧i≤rs.length∧0≤n∧n≤i∧n=M6 (rs.take i.toNat) e
def decBr(rs:List Record)(n i r m:Int)(s:ByteArray)(q:Int):Nat:=(rs.length-i).toNat
def B7i(rs:List Record)(i:Int)(all:Past)(out:List Record):Prop:=T7 all out (rs.drop i.toNat)=T7 ⟨[],[]⟩ [] rs
def Ao6(rs:List Record)(i:Int)(v:List Int)(c:List Span)(out:List Record):Prop:=0≤i∧i≤rs.length∧(out.length:Int)≤i∧c.length≤8000000000∧B7i rs i ⟨v,c⟩ out∧(∀ r∈out,r.past=A4 r.past)
def decFo(rs:List Record)(i:Int)(v:List Int)(c:List Span)(out:List Record):Nat:=(rs.length-i).toNat
def B54(rs:List Record)(i j:Int)(ps:List Past):Prop:=ps=((rs.drop i.toNat).take (j-i).toNat).map (fun x=>x.past)∧∀ k:Nat,i≤k→(k:Int) < j→rs[k]!.sku=rs[i.toNat]!.sku
def B7j(rs:List Record)(i:Int)(v0:List Int)(c0:List Span)(o0:List Record)(j:Int)(v:List Int)(c:List Span)(o:List Record)(ps:List Past):Prop:=v=v0∧c=c0∧o=o0∧i≤j∧j≤rs.length∧B54 rs i j ps
def decGr(rs:List Record)(j:Int)(v:List Int)(c:List Span)(o:List Record)(ps:List Past):Nat:=(rs.length-j).toNat
def B3v(es:List Entry)(bars:List Record)(i:Int)(out:List Entry):Prop:=0≤i∧i≤es.length∧(out.length:Int)≤i∧out=(es.take i.toNat).filter fun e=>decide (M6 bars e=0)
def decAp(es:List Entry)(i:Int)(out:List Entry):Nat:=(es.length-i).toNat
theorem Aj6{α:Type}[Inhabited α](p:α→Bool):∀(l:List α) (n:Nat),n≤l.length→(∀ k:Nat,k < n→p l[k]! = true)→(n < l.length→p l[n]! = false)→l.takeWhile p=l.take n∧l.dropWhile p=l.drop n
 | [],n,hn,_,_=>by simp
 | x :: l,0,_,_,h=>by
  have:=h (by simp)
  have hx:p x=false:=this
  simp [List.takeWhile_cons,List.dropWhile_cons,hx]
 | x :: l,n+1,hn,h,hx=>by
  have h0:p x=true:=h 0 (by omega)
  have ih:=Aj6 p l n (by simpa using hn) (fun k hk=>by have:=h (k+1) (by omega);simpa using this) (fun hl=>by have:=hx (by simpa using hl);simpa using this)
  simp [List.takeWhile_cons,List.dropWhile_cons,h0,ih.1,ih.2]
theorem B0j{α:Type}[Inhabited α]{a:List α}{i:Int}(h0:0≤i)(h:i < a.length):a.drop i.toNat=a[i.toNat]! :: a.drop (i+1).toNat:=by
 rw[show(i+1).toNat=i.toNat+1 by omega,getElem!_pos a i.toNat (by omega)]
 exact List.drop_eq_getElem_cons (by omega)
theorem A95{α:Type}[Inhabited α]{a:List α}{i k:Nat}(h:i+k < a.length):(a.drop i)[k]! = a[i+k]!:=by
 rw[getElem!_pos (a.drop i) k (by rw[List.length_drop];omega),getElem!_pos a (i+k) h,List.getElem_drop]
theorem A16{rs:List Record}{i j:Int}{ps:List Past}(h0:0≤i)(hi:i < rs.length)(hij:i≤j)(hj:j≤rs.length)(he:¬(j < rs.length∧rs[j.toNat]!.sku=rs[i.toNat]!.sku))(h:B54 rs i j ps) :
  i < j∧ps=(K1 rs[i.toNat]! (rs.drop (i+1).toNat)).map (fun x=>x.past)∧rs.drop j.toNat=A4t rs[i.toNat]! (rs.drop (i+1).toNat):=by
 have hlt:i < j:=by
  apply Classical.byContradiction
  intro k
  have:j=i:=by omega
  subst this
  exact he ⟨hi,rfl⟩
 have hw:=Aj6 (fun x:Record=>decide (x.sku=rs[i.toNat]!.sku)) (rs.drop i.toNat) (j-i).toNat (by rw[List.length_drop];omega) (fun k hk=>by
  rw[A95 (by omega),decide_eq_true_iff]
  exact h.2 (i.toNat+k) (by omega) (by omega)) (fun hl=>by
  rw[List.length_drop]at hl
  rw[A95 (by omega),decide_eq_false_iff_not,show i.toNat+(j-i).toNat=j.toNat by omega]
  exact fun k=>he ⟨by omega,k⟩)
 have e1:K1 rs[i.toNat]! (rs.drop (i+1).toNat)=(rs.drop i.toNat).takeWhile fun x=>decide (x.sku=rs[i.toNat]!.sku):=by
  rw[B0j h0 hi,List.takeWhile_cons]
  simp [K1]
 have e2:A4t rs[i.toNat]! (rs.drop (i+1).toNat)=(rs.drop i.toNat).dropWhile fun x=>decide (x.sku=rs[i.toNat]!.sku):=by
  rw[B0j h0 hi,List.dropWhile_cons]
  simp [A4t]
 refine⟨hlt,?_,?_⟩
 ·rw[e1,hw.1];exact h.1
 ·rw[e2,hw.2,List.drop_drop,show i.toNat+(j-i).toNat=j.toNat by omega]
theorem A6z{rs:List Record}{i j:Int}{ps:List Past}{all:Past}{out:List Record}(h0:0≤i)(hi:i < rs.length)(hij:i≤j)(hj:j≤rs.length)(he:¬(j < rs.length∧rs[j.toNat]!.sku=rs[i.toNat]!.sku))(h:B54 rs i j ps)(hf:B7i rs i all out) :
  B7i rs j (if rs[i.toNat]!.sku=noneS then D8 ps else all) (if E0 (if rs[i.toNat]!.sku=noneS then D8 ps else F1 (D8 ps) all)=0 then out else out++[⟨rs[i.toNat]!.sku,if rs[i.toNat]!.sku=noneS then D8 ps else F1 (D8 ps) all⟩]):=by
 obtain⟨_,e1,e2⟩:=A16 h0 hi hij hj he h
 unfold B7i at *
 rw[← hf,B0j h0 hi,A5o,e2,e1]
 rfl
theorem Aj7(a b:List Record):Aj5 (a++b)=Aj5 a+Aj5 b:=by simp [Aj5]
theorem B7k(a:List Record):a.length≤Aj5 a:=by
 induction a with
 | nil=>simp [Aj5]
 | cons r a ih=>simp only [Aj5,List.map_cons,List.sum_cons,List.length_cons]at *;omega
theorem B3w(l:List Record):A3d (l.map fun x=>x.past)=Aj5 l:=by simp [A3d,Aj5,Function.comp_def]
theorem gr_tot{rs:List Record}{i j:Int}{ps:List Past}(h:B54 rs i j ps):A3d ps≤Aj5 rs:=by
 rw[h.1,B3w]
 have h1:=Aj7 (rs.take i.toNat) (rs.drop i.toNat)
 rw[List.take_append_drop]at h1
 have h2:=Aj7 ((rs.drop i.toNat).take (j-i).toNat) ((rs.drop i.toNat).drop (j-i).toNat)
 rw[List.take_append_drop]at h2
 omega
theorem B55{rs:List Record}{i j:Int}{ps:List Past}(h:B54 rs i j ps):(ps.length:Int)≤(j-i).toNat:=by
 rw[h.1,List.length_map,List.length_take]
 omega
theorem B7l{rs:List Record}{i j:Int}{ps:List Past}(h0:0≤i)(hij:i≤j)(hj:j < rs.length)(hs:rs[j.toNat]!.sku=rs[i.toNat]!.sku)(h:B54 rs i j ps):B54 rs i (j+1) (ps++[rs[j.toNat]!.past]):=by
 refine⟨?_,fun k hk1 hk2=>?_⟩
 ·rw[h.1,show(j+1-i).toNat=(j-i).toNat+1 by omega,List.take_succ_eq_append_getElem (by rw[List.length_drop];omega),List.map_append]
  congr 1
  have hjn:i.toNat+(j-i).toNat < rs.length:=by omega
  have:(rs.drop i.toNat)[(j-i).toNat]'(by rw[List.length_drop];omega)=rs[j.toNat]!:=by
   rw[List.getElem_drop,getElem!_pos rs j.toNat (by omega)]
   congr 1
   omega
  simp only [List.map_cons,List.map_nil,this]
 ·by_cases e:k=j.toNat
  ·rw[e];exact hs
  ·exact h.2 k hk1 (by omega)
theorem B7m{p:Past}(h:p=A4 p):p.cloud.length≤8000000000:=by
 rw[h]
 exact(X7 _).1
theorem A70(ps:List Past):(D8 ps).cloud.length≤8000000000:=(X7 _).1
theorem B3x(a b:Past):(F1 a b).cloud.length≤8000000000:=(X7 fun r=>A8c (C4 [a] r) (C4 [b] r)).1
theorem B56{rs:List Record}{i:Int}{all:Past}{out:List Record}(hi:¬ i < rs.length)(h:B7i rs i all out):out=T7 ⟨[],[]⟩ [] rs:=by
 unfold B7i at h
 rw[List.drop_of_length_le (by omega),A4e]at h
 exact h
theorem Aj8{out:List Record}{b:Go.E.Blk}{n m:Nat}(hb:b.k=.row m (out.map c54))(h:0 <(out.length:Int))(hn:n=0):Go.E.rowAt b n (c54 out[0]!):=by
 unfold Go.E.rowAt
 rw[hb,hn]
 cases out with
 | nil=>simp at h
 | cons x l=>rfl
theorem B0k{es:List Entry}{B:List Record}{i:Int}{o:List Entry}(h0:0≤i)(hi:i < es.length)(ho:o=(es.take i.toNat).filter fun e=>decide (M6 B e=0)) :
  (es.take (i+1).toNat).filter (fun e=>decide (M6 B e=0))=o++if M6 B es[i.toNat]! = 0 then[es[i.toNat]!]else[]:=by
 rw[← D1 h0 hi,List.filter_append,ho]
 congr 1
 generalize es[i.toNat]! = x
 split
 ·rename_i h;simp [List.filter_cons,h]
 ·rename_i h;simp [List.filter_cons,h]
theorem B7n(es:List Entry)(rs:List Record):es.filter (fun e=>decide (M6 (T7 ⟨[],[]⟩ [] rs) e=0))=es.filter fun e=>decide (M6 rs e=0) :=
 List.filter_congr fun e _=>decide_eq_decide.2 (B0i rs e)
theorem con179(r:Record)(hb:szR r):Con Tryz.prog 179 [.agg (c54 r)] (.agg (c54 ⟨r.sku,A4 r.past⟩)) :=
 by
 refine sC A6 [.cell 2 54] 9 Tryz.func179 ?_
 intro e0 cx
 refine sq<|rG cx [1,2] [1,2] z0<|sn<|sq<|rA cx [2] [2] (fT (A89 (r.past) ?g0) (oA 4 (.agg [.sl (List.map c3 (A4 r.past).vec),.sl (List.map A9 (A4 r.past).cloud)]) z0)) ?_;rotate_left
 refine sn<|rT<|qR (.agg [.s (r.sku),.sl (List.map c3 (A4 r.past).vec),.sl (List.map A9 (A4 r.past).cloud)]) (.eq ?g1);rotate_left
 case g0=>exact hb
 case g1=>exact rfl
theorem con209(r:Record)(e:Entry):Con Tryz.prog 209 [.agg (c54 r),.agg (c46 e)] (.b (A4c r e)) :=
 by
 refine sC A6 [.tmp 4] 22 Tryz.func209 ?_
 intro e0 cx
 refine sq<|rG cx [2,3] [2,3] z0<|sn<|sq<|A7 (σ':=⟨[(4,.b (decide (r.sku={ data:=#[]:ByteArray }∧D7 r.past e.dot=true∨¬r.sku={ data:=#[]:ByteArray }∧r.sku=e.sku∧D7 r.past e.dot=true)))],[]⟩) ?_ ?_
 refine A2 (r.sku={ data:=#[]:ByteArray }) (fun h_1=>?_) (fun h_1=>?_)
 refine rG cx [4] [] (tT 2 (V4 h_1:AV.b (r.sku.toList == { data:=#[]:ByteArray }.toList)=AV.b true) (fT (A8b (r.past) (e.dot)) (tD 17 (D7 r.past e.dot) (r.sku={ data:=#[]:ByteArray }∧D7 r.past e.dot=true∨¬r.sku={ data:=#[]:ByteArray }∧r.sku=e.sku∧D7 r.past e.dot=true) (by simp only [eq_true h_1,tsl]) (oA 15 (.b (D7 r.past e.dot)) z0)))) ?_
 exact⟨rfl,by kernel_rfl⟩
 refine A2 (r.sku=e.sku) (fun h_2=>?_) (fun h_2=>?_)
 refine rG cx [4] [] (tT 2 (N2 h_1:AV.b (r.sku.toList == { data:=#[]:ByteArray }.toList)=AV.b false) (tT 8 (V4 h_2:AV.b (r.sku.toList == e.sku.toList)=AV.b true) (fT (A8b (r.past) (e.dot)) (tD 17 (D7 r.past e.dot) (r.sku={ data:=#[]:ByteArray }∧D7 r.past e.dot=true∨¬r.sku={ data:=#[]:ByteArray }∧r.sku=e.sku∧D7 r.past e.dot=true) (by simp only [eq_false h_1,eq_true h_2,tsl]) (oA 15 (.b (D7 r.past e.dot)) z0))))) ?_
 exact⟨rfl,by kernel_rfl⟩
 refine rG cx [4] [] (tT 2 (N2 h_1:AV.b (r.sku.toList == { data:=#[]:ByteArray }.toList)=AV.b false) (tT 8 (N2 h_2:AV.b (r.sku.toList == e.sku.toList)=AV.b false) (tD 17 false (r.sku={ data:=#[]:ByteArray }∧D7 r.past e.dot=true∨¬r.sku={ data:=#[]:ByteArray }∧r.sku=e.sku∧D7 r.past e.dot=true) (by simp only [eq_false h_1,eq_false h_2,tsl]) z0))) ?_
 exact⟨rfl,by kernel_rfl⟩
 refine sn<|rT<|qR (.b (decide (r.sku={ data:=#[]:ByteArray }∧D7 r.past e.dot=true∨¬r.sku={ data:=#[]:ByteArray }∧r.sku=e.sku∧D7 r.past e.dot=true))) (.eq ?g0);rotate_left
 case g0 =>
  refine congrArg AV.b ?_
  rw[Bool.eq_iff_iff,W1,decide_eq_true_iff]
  show(r.sku=noneS∧_∨¬ r.sku=noneS∧_)↔_
  by_cases c:r.sku=noneS <;> simp [c]
theorem con167(rs:List Record)(e:Entry):Con Tryz.prog 167 [.sl (rs.map c54),.agg (c46 e)] (.i .i64 (M6 rs e)) :=
 by
 have st:∀ {i:Int},0≤i→i < rs.length→M6 (rs.take (i+1).toNat) e=M6 (rs.take i.toNat) e+if A4c rs[i.toNat]! e=true then 1 else 0:=by
  intro i h0 h1
  unfold M6
  rw[← D1 h0 h1,List.filter_append,List.length_append]
  generalize rs[i.toNat]! = x
  split
  ·rename_i h;simp [List.filter_cons,h]
  ·rename_i h;simp [List.filter_cons,h]
 refine lN 0 c54 (rs) Tryz.func167 fun hl_0=>sC A6 [.tmp 4] 21 Tryz.func167 ?_
 intro e0 cx
 refine sq<|rG cx [0,3] [3] z0<|sn<|sq<|rG cx [0,3,5] [3] z0<|sn<|sq<|sq<|rG cx [3,5,8,9,10] [3] (tL 1 c54 rs z0)<|sn<|bL 0<|sL (X:=Int×Int×Int×Int×ByteArray×Int) (fun x=>⟨[(3,.ptr (3) (0) (0) (0)),(5,.i .i64 (x.1)),(8,.sl (List.map c54 rs)),(9,.i .i64 ((↑rs.length:Int))),(10,.i .i64 (x.2.1))],[(3,⟨0,46,.var [.i .i64 (x.2.2.1),.i .i64 (x.2.2.2.1),.s (x.2.2.2.2.1),.i .i64 (x.2.2.2.2.2)]⟩)]⟩) (fun x ↦ decBr rs x.1 x.2.1 x.2.2.1 x.2.2.2.1 x.2.2.2.2.1 x.2.2.2.2.2) (fun x ↦ B3u rs e x.1 x.2.1 x.2.2.1 x.2.2.2.1 x.2.2.2.2.1 x.2.2.2.2.2) [3,5,8,9,10] [3] (((0:Int),(0:Int),e.dot.rep,e.dot.num,e.sku,e.qty)) (show B3u rs e (0:Int) (0:Int) e.dot.rep e.dot.num e.sku e.qty from(by exact⟨rfl,rfl,rfl,rfl,by omega,by omega,by omega,by omega,by simp [M6]⟩)) ?_
 rintro⟨n0,i1,r2,m3,s4,q5⟩ h_6
 obtain⟨hh7,hh8,hh9,hh10,h11,h12,h13,h14,h15⟩:r2=e.dot.rep∧m3=e.dot.num∧s4=e.sku∧q5=e.qty∧0≤i1∧i1≤(↑rs.length:Int)∧0≤n0∧n0≤i1∧n0=M6 (List.take i1.toNat rs) e:=h_6
 refine rE cx [3,5,8,9,10,11] [3] (zB 0 (i1 <(↑rs.length:Int))) (fun h16=>?_) fun h16=>?_
 refine sK<|sn<|sq<|bL 1<|sq<|rG cx [3,5,8,9,10,7] [3,7] (fA (0≤i1) (fG c54 rs i1.toNat (fR 3 (fN 3 3 (oR 0 (c54 rs[i1.toNat]!) z0)))))<|sn<|sq<|rG cx [3,5,8,9,10,16] [3] (fT (con209 (rs[i1.toNat]!) ({ dot:={ rep:=r2,num:=m3:Dot },sku:=s4,qty:=q5:Entry })) (oA 2 (.b (A4c rs[i1.toNat]! { dot:={ rep:=r2,num:=m3:Dot },sku:=s4,qty:=q5:Entry })) z0))<|sn<|Z7 (A4c rs[i1.toNat]! { dot:={ rep:=r2,num:=m3:Dot },sku:=s4,qty:=q5:Entry }) (by kernel_rfl) (by kernel_rfl) (fun h17=>?_) (fun h17=>?_)
 refine rG cx [3,5,8,9,10] [3] (tW 1 (n0+1) z0)<|bN<|sn<|rG cx [3,5,8,9,10] [3] (tW 0 (i1+1) z0)<|sn<|nX ((n0+1,i1+1,r2,m3,s4,q5)) (show((↑rs.length:Int)-(i1+1)).toNat <((↑rs.length:Int)-i1).toNat from(by omega)) (show B3u rs e (n0+1) (i1+1) r2 m3 s4 q5 from ?g1);rotate_left
 refine sK<|bN<|sn<|rG cx [3,5,8,9,10] [3] (tW 0 (i1+1) z0)<|sn<|nX ((n0,i1+1,r2,m3,s4,q5)) (show((↑rs.length:Int)-(i1+1)).toNat <((↑rs.length:Int)-i1).toNat from(by omega)) (show B3u rs e n0 (i1+1) r2 m3 s4 q5 from ?g2);rotate_left
 refine eX 0<|nE<|nE<|bH<|sn<|sq<|rG cx [4] [] z0<|sn<|rT<|qR (.i .i64 (n0)) (.eq (by rw[h15,List.take_of_length_le (by omega)]))
 case g1 =>
  subst hh7 hh8 hh9 hh10
  refine⟨rfl,rfl,rfl,rfl,by omega,by omega,by omega,by omega,?_⟩
  rw[st h11 h16,if_pos h17,h15]
 case g2 =>
  subst hh7 hh8 hh9 hh10
  refine⟨rfl,rfl,rfl,rfl,by omega,by omega,by omega,by omega,?_⟩
  have h17:A4c rs[i1.toNat]! e=false:=h17
  rw[st h11 h16,if_neg (by rw[h17];simp),h15]
  omega
theorem con166(rs:List Record)(hb:B88 rs)(ht:tokR rs):Con Tryz.prog 166 [.sl (rs.map c54)] (.tup [.sl ((O1 rs).1.map c54),.i .i64 (O1 rs).2]) :=
 by
 have hl:=B7k rs
 have ht1:=ht.1
 have ht2:=ht.2
 refine lN 0 c54 (rs) Tryz.func166 fun hl_0=>sC A6 [.tmp 2,.tmp 3] 89 Tryz.func166 ?_
 intro e0 cx
 refine sq<|rG cx [0] [] z0<|sn<|sq<|sq<|rG cx [0,12] [] (fT (Ax1 (rs) (by(with_reducible assumption))) (tN 2 (R3 rs) (0:Int) (oA 1 (.i .i64 (R3 rs)) z0)))<|sn<|dC (¬R3 rs=0) (fun hh0=>?_) fun hh0=>?_
 refine sq<|rG cx [2,3] [] z0<|sn<|rT<|nR<|qR (.tup [.nl,.i .i64 ((1:Int))]) (A3.tup (ZLe.cons (A3.nl' (show List.map c54 (O1 rs).1=[]from(by unfold O1;rw[if_neg hh0];rfl))) (ZLe.cons (A3.eq (show AV.i .i64 1=AV.i .i64 (O1 rs).2 from(by unfold O1;rw[if_neg hh0]))) ZLe.nil)))
 refine sK<|sn<|sq<|rG cx [0,4] [4] z0<|sn<|sq<|rG cx [0,4,5] [4] z0<|sn<|sq<|sq<|rG cx [0,4,5,6] [4] z0<|sn<|bL 0<|G3 5 1005 54 3 (σ':=⟨[(0,.sl (List.map c54 rs)),(4,.ptr (4) (0) (0) (0)),(5,.own 1005 0),(6,.i .i64 ((0:Int)))],[(4,⟨0,26,.var [.nl,.nl]⟩),(1005,⟨0,54,.row 3 (List.map c54 [])⟩)]⟩) (by kernel_rfl)<|Af4 4 0 (σ':=⟨[(0,.sl (List.map c54 rs)),(4,.ptr (4) (0) (0) (0)),(5,.own 1005 0),(6,.i .i64 ((0:Int)))],[(4,⟨0,26,.var [.sl (List.map c3 []),.nl]⟩),(1005,⟨0,54,.row 3 (List.map c54 [])⟩)]⟩) (by kernel_rfl)<|Af4 4 1 (σ':=⟨[(0,.sl (List.map c54 rs)),(4,.ptr (4) (0) (0) (0)),(5,.own 1005 0),(6,.i .i64 ((0:Int)))],[(4,⟨0,26,.var [.sl (List.map c3 []),.sl (List.map A9 [])]⟩),(1005,⟨0,54,.row 3 (List.map c54 [])⟩)]⟩) (by kernel_rfl)<|sL (X:=Int×List Int×List Span×List Record) (fun x=>⟨[(0,.sl (List.map c54 rs)),(4,.ptr (4) (0) (0) (0)),(5,.own 1005 0),(6,.i .i64 (x.1))],[(4,⟨0,26,.var [.sl (List.map c3 x.2.1),.sl (List.map A9 x.2.2.1)]⟩),(1005,⟨0,54,.row 3 (List.map c54 x.2.2.2)⟩)]⟩) (fun x ↦ decFo rs x.1 x.2.1 x.2.2.1 x.2.2.2) (fun x ↦ Ao6 rs x.1 x.2.1 x.2.2.1 x.2.2.2) [0,4,5,6] [4,1005] (((0:Int),[],[],[])) (show Ao6 rs (0:Int) [] [] []from(by exact⟨by omega,by omega,by simp,by simp,rfl,fun r hr=>by cases hr⟩)) ?_
 rintro⟨i1,v2,cc3,o4⟩ h_5
 obtain⟨hh6,hh7,h8,h9,h10,h11⟩:0≤i1∧i1≤(↑rs.length:Int)∧(↑o4.length:Int)≤i1∧cc3.length≤(8000000000:Nat)∧B7i rs i1 { vec:=v2,cloud:=cc3:Past } o4∧∀(r:Record),r∈o4→r.past=A4 r.past:=h_5
 refine sq<|rD cx [0,4,5,6,16] [4,1005] (tL 2 c54 rs (zB 3 (i1 <(↑rs.length:Int)))) (fun h12=>?_) fun h12=>?_
 refine sK<|sn<|bL 1<|sq<|rG cx [0,4,5,6,7] [4,1005] z0<|sn<|sq<|rG cx [0,4,5,6,7,8] [4,1005] z0<|sn<|sq<|bL 2<|G3 8 1008 26 2 (σ':=⟨[(0,.sl (List.map c54 rs)),(4,.ptr (4) (0) (0) (0)),(5,.own 1005 0),(6,.i .i64 (i1)),(7,.i .i64 (i1)),(8,.own 1008 0)],[(4,⟨0,26,.var [.sl (List.map c3 v2),.sl (List.map A9 cc3)]⟩),(1005,⟨0,54,.row 3 (List.map c54 o4)⟩),(1008,⟨0,26,.row 2 (List.map c26 [])⟩)]⟩) (by kernel_rfl)<|sL (X:=Int×List Int×List Span×List Record×List Past) (fun x=>⟨[(0,.sl (List.map c54 rs)),(4,.ptr (4) (0) (0) (0)),(5,.own 1005 0),(6,.i .i64 (i1)),(7,.i .i64 (x.1)),(8,.own 1008 0)],[(4,⟨0,26,.var [.sl (List.map c3 x.2.1),.sl (List.map A9 x.2.2.1)]⟩),(1005,⟨0,54,.row 3 (List.map c54 x.2.2.2.1)⟩),(1008,⟨0,26,.row 2 (List.map c26 x.2.2.2.2)⟩)]⟩) (fun x ↦ decGr rs x.1 x.2.1 x.2.2.1 x.2.2.2.1 x.2.2.2.2) (fun x ↦ B7j rs i1 v2 cc3 o4 x.1 x.2.1 x.2.2.1 x.2.2.2.1 x.2.2.2.2) [0,4,5,6,7,8] [4,1005,1008] ((i1,v2,cc3,o4,[])) (show B7j rs i1 v2 cc3 o4 i1 v2 cc3 o4 []from(by exact⟨rfl,rfl,rfl,by omega,by omega,by simp,fun k hk1 hk2=>by omega⟩)) ?_
 rintro⟨j13,v14,c15,o16,p17⟩ h_18
 obtain⟨h19,h20,h21,h22,h23,h24⟩:v14=v2∧c15=cc3∧o16=o4∧i1≤j13∧j13≤(↑rs.length:Int)∧B54 rs i1 j13 p17:=h_18
 refine sq<|sq<|A7 (σ':=⟨[(0,.sl (List.map c54 rs)),(4,.ptr (4) (0) (0) (0)),(5,.own 1005 0),(6,.i .i64 (i1)),(7,.i .i64 (j13)),(8,.own 1008 0),(34,.b (decide (j13 <(↑rs.length:Int)∧rs[j13.toNat]!.sku=rs[i1.toNat]!.sku)))],[(4,⟨0,26,.var [.sl (List.map c3 v14),.sl (List.map A9 c15)]⟩),(1005,⟨0,54,.row 3 (List.map c54 o16)⟩),(1008,⟨0,26,.row 2 (List.map c26 p17)⟩)]⟩) ?_ ?_
 refine A2 (j13 <(↑rs.length:Int)) (fun h_26=>?_) (fun h_26=>?_)
 refine rA cx [0,4,5,6,7,8,34] [4,1005,1008] (tL 2 c54 rs (tT 3 (A1 h_26) (fO (0≤j13) (fG c54 rs j13.toNat (fR 3 (fA (0≤i1) (fG c54 rs i1.toNat (fR 3 (tT 15 (S4:AV.b (rs[j13.toNat]!.sku.toList == rs[i1.toNat]!.sku.toList)=AV.b (decide (rs[j13.toNat]!.sku=rs[i1.toNat]!.sku))) (tD 16 (decide (rs[j13.toNat]!.sku=rs[i1.toNat]!.sku)) (j13 <(↑rs.length:Int)∧rs[j13.toNat]!.sku=rs[i1.toNat]!.sku) (by simp only [eq_true h_26,tsl]) (oR 7 (c54 rs[j13.toNat]!) (oR 12 (c54 rs[i1.toNat]!) z0)))))))))))) ?_
 exact⟨rfl,by kernel_rfl⟩
 refine rA cx [0,4,5,6,7,8,34] [4,1005,1008] (tL 2 c54 rs (tT 3 (A0 h_26) (tD 16 false (j13 <(↑rs.length:Int)∧rs[j13.toNat]!.sku=rs[i1.toNat]!.sku) (by simp only [eq_false h_26,tsl]) z0))) ?_
 exact⟨rfl,by kernel_rfl⟩
 refine sn<|dC (j13 <(↑rs.length:Int)∧rs[j13.toNat]!.sku=rs[i1.toNat]!.sku) (fun h27=>?_) fun h27=>?_
 refine sK<|sn<|bL 3<|sq<|rG cx [0,4,5,6,7,8] [4,1005,1008] (fO (0≤j13) (fG c54 rs j13.toNat (fR 3 (fN 2 2 (fR 26 (fR 2 (fR 2 (fX c26 [rs[j13.toNat]!.past] 2 (fP ((List.map c26 p17).length+(List.map c26 [rs[j13.toNat]!.past]).length≤maxLen) (by have:=B55 h24;simp only [List.length_map,List.length_cons,List.length_nil,Go.maxLen];omega) (fP (((List.map c26 p17).length+(List.map c26 [rs[j13.toNat]!.past]).length)*(48:Nat)≤(140737488355328:Nat)) (by have:=B55 h24;simp only [List.length_map,List.length_cons,List.length_nil];omega) (fM c26 p17 [rs[j13.toNat]!.past] (oR 3 (c54 rs[j13.toNat]!) (oV 7 { rows:=some (List.map c26 (p17++[rs[j13.toNat]!.past])) } z0))))))))))))) ?_
 refine sn<|rG cx [0,4,5,6,7,8] [4,1005,1008] (tW 1 (j13+1) z0)<|bN<|sn<|nX ((j13+1,v14,c15,o16,p17++[rs[j13.toNat]!.past])) (show((↑rs.length:Int)-(j13+1)).toNat <((↑rs.length:Int)-j13).toNat from(by omega)) (show B7j rs i1 v2 cc3 o4 (j13+1) v14 c15 o16 (p17++[rs[j13.toNat]!.past])from(by exact⟨h19,h20,h21,by omega,by omega,B7l hh6 h22 h27.1 h27.2 h24⟩))
 refine eX 2<|nE<|nE<|bH<|sn<|sq<|rA cx [0,4,5,7,9] [4,1005,9] (fA (0≤i1) (fG c54 rs i1.toNat (fR 3 (fT (con21 (p17) (by have:=gr_tot h24;omega)) (oR 2 (c54 rs[i1.toNat]!) (oA 6 (.agg [.sl (List.map c3 (D8 p17).vec),.sl (List.map A9 (D8 p17).cloud)]) z0)))))) ?_
 refine sn<|sq<|sq<|rG cx [0,4,5,7,9,55] [4,1005,9] (tT 2 (S4:AV.b (rs[i1.toNat]!.sku.toList == { data:=#[]:ByteArray }.toList)=AV.b (decide (rs[i1.toNat]!.sku={ data:=#[]:ByteArray }))) z0)<|sn<|dC (rs[i1.toNat]!.sku={ data:=#[]:ByteArray }) (fun h28=>?_) fun h28=>?_
 refine rG cx [0,4,5,7,9] [4,1005,9] z0<|sn<|sq<|sq<|rG cx [0,4,5,7,9,66] [4,1005,9] (fT (An4 (D8 p17) (by have:=A70 p17;omega)) (tQ 3 (E0 (D8 p17)=0) (oA 2 (.b (decide (E0 (D8 p17)=0))) z0))) ?_
 refine sn<|dC (¬E0 (D8 p17)=0) (fun h29=>?_) fun h29=>?_
 refine rG cx [0,4,5,7] [4,1005] (fR 54 (fR 3 (fR 3 (fX c54 [{ sku:=rs[i1.toNat]!.sku,past:=D8 p17:Record }] 3 (fP ((List.map c54 o16).length+(List.map c54 [{ sku:=rs[i1.toNat]!.sku,past:=D8 p17:Record }]).length≤maxLen) (by subst h21;simp only [List.length_map,List.length_cons,List.length_nil,Go.maxLen];omega) (fP (((List.map c54 o16).length+(List.map c54 [{ sku:=rs[i1.toNat]!.sku,past:=D8 p17:Record }]).length)*(64:Nat)≤(140737488355328:Nat)) (by subst h21;simp only [List.length_map,List.length_cons,List.length_nil];omega) (fM c54 o16 [{ sku:=rs[i1.toNat]!.sku,past:=D8 p17:Record }] (oV 3 { rows:=some (List.map c54 (o16++[{ sku:=rs[i1.toNat]!.sku,past:=D8 p17:Record }])) } z0)))))))) ?_
 refine sn<|rG cx [0,4,5,6] [4,1005] z0<|bN<|sn<|nX ((j13,(D8 p17).vec,(D8 p17).cloud,o16++[{ sku:=rs[i1.toNat]!.sku,past:=D8 p17:Record }])) (show((↑rs.length:Int)-j13).toNat <((↑rs.length:Int)-i1).toNat from(by have:=(A16 hh6 h12 h22 h23 h27 h24).1;omega)) (show Ao6 rs j13 (D8 p17).vec (D8 p17).cloud (o16++[{ sku:=rs[i1.toNat]!.sku,past:=D8 p17:Record }])from ?g12);rotate_left
 refine sK<|sn<|rG cx [0,4,5,6] [4,1005] z0<|bN<|sn<|nX ((j13,(D8 p17).vec,(D8 p17).cloud,o16)) (show((↑rs.length:Int)-j13).toNat <((↑rs.length:Int)-i1).toNat from(by have:=(A16 hh6 h12 h22 h23 h27 h24).1;omega)) (show Ao6 rs j13 (D8 p17).vec (D8 p17).cloud o16 from ?g14);rotate_left
 refine rG cx [0,4,5,7,9] [4,1005,9] (fT (con143 (D8 p17) ({ vec:=v14,cloud:=c15:Past }) (by have:=A70 p17;omega) (by subst h20;simp only;omega)) (oA 3 (.agg [.sl (List.map c3 (F1 (D8 p17) { vec:=v14,cloud:=c15:Past }).vec),.sl (List.map A9 (F1 (D8 p17) { vec:=v14,cloud:=c15:Past }).cloud)]) z0)) ?_
 refine sn<|sq<|sq<|rG cx [0,4,5,7,9,66] [4,1005,9] (fT (An4 (F1 (D8 p17) { vec:=v14,cloud:=c15:Past }) (by have:=B3x (D8 p17) ⟨v14,c15⟩;omega)) (tQ 3 (E0 (F1 (D8 p17) { vec:=v14,cloud:=c15:Past })=0) (oA 2 (.b (decide (E0 (F1 (D8 p17) { vec:=v14,cloud:=c15:Past })=0))) z0))) ?_
 refine sn<|dC (¬E0 (F1 (D8 p17) { vec:=v14,cloud:=c15:Past })=0) (fun h30=>?_) fun h30=>?_
 refine rG cx [0,4,5,7] [4,1005] (fR 54 (fR 3 (fR 3 (fX c54 [{ sku:=rs[i1.toNat]!.sku,past:=F1 (D8 p17) { vec:=v14,cloud:=c15:Past }:Record }] 3 (fP ((List.map c54 o16).length+(List.map c54 [{ sku:=rs[i1.toNat]!.sku,past:=F1 (D8 p17) { vec:=v14,cloud:=c15:Past }:Record }]).length≤maxLen) (by subst h21;simp only [List.length_map,List.length_cons,List.length_nil,Go.maxLen];omega) (fP (((List.map c54 o16).length+(List.map c54 [{ sku:=rs[i1.toNat]!.sku,past:=F1 (D8 p17) { vec:=v14,cloud:=c15:Past }:Record }]).length)*(64:Nat)≤(140737488355328:Nat)) (by subst h21;simp only [List.length_map,List.length_cons,List.length_nil];omega) (fM c54 o16 [{ sku:=rs[i1.toNat]!.sku,past:=F1 (D8 p17) { vec:=v14,cloud:=c15:Past }:Record }] (oV 3 { rows:=some (List.map c54 (o16++[{ sku:=rs[i1.toNat]!.sku,past:=F1 (D8 p17) { vec:=v14,cloud:=c15:Past }:Record }])) } z0)))))))) ?_
 refine sn<|rG cx [0,4,5,6] [4,1005] z0<|bN<|sn<|nX ((j13,v14,c15,o16++[{ sku:=rs[i1.toNat]!.sku,past:=F1 (D8 p17) { vec:=v14,cloud:=c15:Past }:Record }])) (show((↑rs.length:Int)-j13).toNat <((↑rs.length:Int)-i1).toNat from(by have:=(A16 hh6 h12 h22 h23 h27 h24).1;omega)) (show Ao6 rs j13 v14 c15 (o16++[{ sku:=rs[i1.toNat]!.sku,past:=F1 (D8 p17) { vec:=v14,cloud:=c15:Past }:Record }])from ?g21);rotate_left
 refine sK<|sn<|rG cx [0,4,5,6] [4,1005] z0<|bN<|sn<|nX ((j13,v14,c15,o16)) (show((↑rs.length:Int)-j13).toNat <((↑rs.length:Int)-i1).toNat from(by have:=(A16 hh6 h12 h22 h23 h27 h24).1;omega)) (show Ao6 rs j13 v14 c15 o16 from ?g23);rotate_left
 refine eX 0<|nE<|nE<|bH<|sn<|sq<|sq<|A7 (σ':=⟨[(5,.own 1005 0),(81,.b (decide ((0:Int) <(↑o4.length:Int)∧o4[0]!.sku={ data:=#[]:ByteArray })))],[(1005,⟨0,54,.row 3 (List.map c54 o4)⟩)]⟩) ?_ ?_
 refine A2 ((0:Int) <(↑o4.length:Int)) (fun h32=>?_) (fun h32=>?_)
 refine rG cx [5,81] [1005] (tL 1 c54 o4 (tT 2 (A1 h32) (fO ((0:Int)≤(0:Int)) (fP (Int.toNat (0:Int) <(List.map c54 o4).length) (by(first | omega | (simp only [List.length_map];omega))) (fR 3 (fP (E.rowAt { ver:=0,ty:=54,k:=BK.row (3) (List.map c54 o4):Blk } (0) (c54 o4[0]!)) (by exact Aj8 rfl h32 rfl) (tT 8 (S4:AV.b (o4[0]!.sku.toList == { data:=#[]:ByteArray }.toList)=AV.b (decide (o4[0]!.sku={ data:=#[]:ByteArray }))) (tD 9 (decide (o4[0]!.sku={ data:=#[]:ByteArray })) ((0:Int) <(↑o4.length:Int)∧o4[0]!.sku={ data:=#[]:ByteArray }) (by simp only [eq_true h32,tsl]) (oR 7 (c54 o4[0]!) z0))))))))) ?_
 exact⟨rfl,by kernel_rfl⟩
 refine rG cx [5,81] [1005] (tL 1 c54 o4 (tT 2 (A0 h32) (tD 9 false ((0:Int) <(↑o4.length:Int)∧o4[0]!.sku={ data:=#[]:ByteArray }) (by simp only [eq_false h32,tsl]) z0))) ?_
 exact⟨rfl,by kernel_rfl⟩
 refine sn<|dC ((0:Int) <(↑o4.length:Int)∧o4[0]!.sku={ data:=#[]:ByteArray }) (fun h33=>?_) fun h33=>?_
 refine rG cx [5] [1005] (fO ((0:Int)≤(0:Int)) (fP (Int.toNat (0:Int) <(List.map c54 o4).length) (by(first | omega | (simp only [List.length_map];omega))) (fR 3 (fP (E.rowAt { ver:=0,ty:=54,k:=BK.row (3) (List.map c54 o4):Blk } (0) (c54 o4[0]!)) (by exact Aj8 rfl h33.1 rfl) (fP (0+(3:Nat)≤(c54 o4[0]!).length) (by exact Nat.le_refl 3) (fT (con179 (o4[0]!) ?g27) (fO ((0:Int)≤(0:Int)) (fP (Int.toNat (0:Int) <(List.map c54 o4).length) (by(first | omega | (simp only [List.length_map];omega))) (fR 3 (fP ((List.map c54 o4)[0]?=some (c54 o4[0]!)) (by((try simp only [Nat.mul_one,Nat.add_zero,Nat.zero_add]);with_reducible refine P4 ?_;omega)) (fR 3 (fP (0+(3:Nat)≤3) (by(first | omega | (simp only [List.length_map];omega))) (fP ((List.map c54 o4).set (0) (List.take (0) (c54 o4[0]!)++D9 (AV.agg [AV.s { sku:=o4[0]!.sku,past:=A4 o4[0]!.past:Record }.sku,AV.sl (List.map c3 { sku:=o4[0]!.sku,past:=A4 o4[0]!.past:Record }.past.vec),AV.sl (List.map A9 { sku:=o4[0]!.sku,past:=A4 o4[0]!.past:Record }.past.cloud)])++List.drop (0+(3:Nat)) (c54 o4[0]!))=List.map c54 (o4.set (0) { sku:=o4[0]!.sku,past:=A4 o4[0]!.past:Record })) (by(with_reducible refine A65 ?_;kernel_rfl)) (oR 3 (c54 o4[0]!) (oA 4 (.agg [.s ({ sku:=o4[0]!.sku,past:=A4 o4[0]!.past:Record }.sku),.sl (List.map c3 { sku:=o4[0]!.sku,past:=A4 o4[0]!.past:Record }.past.vec),.sl (List.map A9 { sku:=o4[0]!.sku,past:=A4 o4[0]!.past:Record }.past.cloud)]) (oV 6 { row:=(c54 o4[0]!),rows:=some (List.map c54 (o4.set (0) { sku:=o4[0]!.sku,past:=A4 o4[0]!.past:Record })) } z0)))))))))))))))) ?_;rotate_left
 refine sn<|sq<|rG cx [2,3] [1005] z0<|sn<|rT<|qR (.tup [.sl (List.map c54 (o4.set (0) { sku:=o4[0]!.sku,past:=A4 o4[0]!.past:Record })),.i .i64 ((0:Int))]) (A3.tup (ZLe.cons (A3.eq (show AV.sl (List.map c54 (o4.set (0) { sku:=o4[0]!.sku,past:=A4 o4[0]!.past:Record }))=AV.sl (List.map c54 (O1 rs).1)from ?g29)) (ZLe.cons (A3.eq (show AV.i .i64 0=AV.i .i64 (O1 rs).2 from(by unfold O1;rw[if_pos (Classical.not_not.1 hh0)]))) ZLe.nil)));rotate_left
 refine sK<|sn<|sq<|rG cx [2,3] [1005] z0<|sn<|rT<|qR (.tup [.sl (List.map c54 o4),.i .i64 ((0:Int))]) (A3.tup (ZLe.cons (A3.eq (show AV.sl (List.map c54 o4)=AV.sl (List.map c54 (O1 rs).1)from ?g31)) (ZLe.cons (A3.eq (show AV.i .i64 0=AV.i .i64 (O1 rs).2 from(by unfold O1;rw[if_pos (Classical.not_not.1 hh0)]))) ZLe.nil)));rotate_left
 case g12 =>
  have k4':rs[i1.toNat]!.sku=noneS:=h28
  have g:=A6z hh6 h12 h22 h23 h27 h24 h10
  have g2:=(A16 hh6 h12 h22 h23 h27 h24).1
  rw[if_pos k4',if_neg (by rw[if_pos k4'];exact h29),if_pos k4']at g
  subst h21
  refine⟨by omega,by omega,by rw[List.length_append,List.length_singleton];omega,A70 p17,g,fun r hr=>?_⟩
  rcases List.mem_append.1 hr with hr | hr
  ·exact h11 r hr
  ·have:r=⟨rs[i1.toNat]!.sku,D8 p17⟩:=by simpa using hr
   subst this
   exact Aw3 p17
 case g14 =>
  have k4':rs[i1.toNat]!.sku=noneS:=h28
  have g:=A6z hh6 h12 h22 h23 h27 h24 h10
  have g2:=(A16 hh6 h12 h22 h23 h27 h24).1
  rw[if_pos k4',if_pos (by rw[if_pos k4'];exact Classical.not_not.1 h29)]at g
  subst h21
  exact⟨by omega,by omega,by omega,A70 p17,g,h11⟩
 case g21 =>
  have k4':¬ rs[i1.toNat]!.sku=noneS:=h28
  have g:=A6z hh6 h12 h22 h23 h27 h24 h10
  have g2:=(A16 hh6 h12 h22 h23 h27 h24).1
  subst h19 h20 h21
  rw[if_neg k4',if_neg (by rw[if_neg k4'];exact h30),if_neg k4']at g
  refine⟨by omega,by omega,by rw[List.length_append,List.length_singleton];omega,h9,g,fun r hr=>?_⟩
  rcases List.mem_append.1 hr with hr | hr
  ·exact h11 r hr
  ·have:r=⟨rs[i1.toNat]!.sku,F1 (D8 p17) ⟨v14,c15⟩⟩:=by simpa using hr
   subst this
   exact An0 _ _
 case g23 =>
  have k4':¬ rs[i1.toNat]!.sku=noneS:=h28
  have g:=A6z hh6 h12 h22 h23 h27 h24 h10
  have g2:=(A16 hh6 h12 h22 h23 h27 h24).1
  subst h19 h20 h21
  rw[if_neg k4',if_pos (by rw[if_neg k4'];exact Classical.not_not.1 h30)]at g
  exact⟨by omega,by omega,by omega,h9,g,h11⟩
 case g27 =>
  have:=B7m (h11 o4[0]! (H5 (by omega)))
  unfold szR
  omega
 case g29 =>
  have e:(⟨o4[0]!.sku,A4 o4[0]!.past⟩:Record)=o4[0]!:=by
   have:=h11 o4[0]! (H5 (by omega))
   generalize o4[0]! = r at *
   cases r
   simp only at this
   rw[← this]
  have e2:o4.set 0 o4[0]! = o4:=by
   cases o4 with
   | nil=>rfl
   | cons x l=>rfl
  unfold O1
  rw[if_pos (Classical.not_not.1 hh0),← B56 h12 h10]
  show AV.sl (List.map c54 (o4.set 0 ⟨o4[0]!.sku,A4 o4[0]!.past⟩))=_
  rw[e,e2]
 case g31 =>
  unfold O1
  rw[if_pos (Classical.not_not.1 hh0),← B56 h12 h10]
theorem con96(es:List Entry)(rs:List Record)(hb:B88 rs)(ht:tokR rs):Con Tryz.prog 96 [.sl (es.map c46),.sl (rs.map c54)] (.tup [.sl ((J3 es rs).1.map c46),.i .i64 (J3 es rs).2]) :=
 by
 have hl:B2 es=0→es.length≤16000000000:=fun h=>A1r (L7 h)
 have hf:R3 rs=0→(O1 rs).1=T7 ⟨[],[]⟩ [] rs:=fun h=>by unfold O1;rw[if_pos h]
 have no:¬B2 es=0∨¬R3 rs=0→¬(B2 es=0∧R3 rs=0):=fun h k=>by rcases h with h | h;exact h k.1;exact h k.2
 have yes:¬(¬B2 es=0∨¬R3 rs=0)→B2 es=0∧R3 rs=0:=fun h=>⟨Classical.not_not.1 fun k=>h (.inl k),Classical.not_not.1 fun k=>h (.inr k)⟩
 refine lN 0 c46 (es) Tryz.func96 fun hl_0=>lN 1 c54 (rs) Tryz.func96 fun hl_1=>sC A6 [.tmp 4,.tmp 5] 40 Tryz.func96 ?_
 intro e0 cx
 refine sq<|rG cx [0,1] [] z0<|sn<|sq<|sq<|A7 (σ':=⟨[(0,.sl (List.map c46 es)),(1,.sl (List.map c54 rs)),(18,.b (decide (¬B2 es=0∨¬R3 rs=0)))],[]⟩) ?_ ?_
 refine A2 (¬B2 es=0) (fun h_1=>?_) (fun h_1=>?_)
 refine rG cx [0,1,18] [] (fT (I1 (es)) (tT 2 (E1 h_1:AV.b (B2 es !=0)=AV.b true) (tD 7 true (¬B2 es=0∨¬R3 rs=0) (by simp only [eq_false h_1,tsl]) (oA 1 (.i .i64 (B2 es)) z0)))) ?_
 exact⟨rfl,by kernel_rfl⟩
 refine rG cx [0,1,18] [] (fT (I1 (es)) (tN 2 (B2 es) (0:Int) (tT 3 (A0 h_1) (fT (Ax1 (rs) (by(with_reducible assumption))) (tN 6 (R3 rs) (0:Int) (tT 7 (by first | (simp only [eq_false h_1,tsl];done) | simp_all:AV.b (decide ¬R3 rs=0)=AV.b (decide (¬B2 es=0∨¬R3 rs=0))) (oA 1 (.i .i64 (B2 es)) (oA 5 (.i .i64 (R3 rs)) z0)))))))) ?_
 exact⟨rfl,by kernel_rfl⟩
 refine sn<|dC (¬B2 es=0∨¬R3 rs=0) (fun hh2=>?_) fun hh2=>?_
 refine sq<|rG cx [4,5] [] z0<|sn<|rT<|nR<|qR (.tup [.nl,.i .i64 ((1:Int))]) (A3.tup (ZLe.cons (A3.nl' (show List.map c46 (J3 es rs).1=[]from(by unfold J3;rw[if_neg (no hh2)];rfl))) (ZLe.cons (A3.eq (show AV.i .i64 1=AV.i .i64 (J3 es rs).2 from(by unfold J3;rw[if_neg (no hh2)]))) ZLe.nil)))
 refine sK<|sn<|sq<|rG cx [0,6] [] (fT (con166 (rs) (by(with_reducible assumption)) (by(with_reducible assumption))) (oA 1 (.tup [.sl (List.map c54 (O1 rs).1),.i .i64 ((O1 rs).2)]) z0))<|sn<|sq<|rG cx [0,6,8] [] z0<|sn<|sq<|sq<|rG cx [6,8,24,25,26] [] (tL 1 c46 es z0)<|sn<|bL 0<|G3 8 1008 46 4 (σ':=⟨[(6,.sl (List.map c54 (O1 rs).1)),(8,.own 1008 0),(24,.sl (List.map c46 es)),(25,.i .i64 ((↑es.length:Int))),(26,.i .i64 ((0:Int)))],[(1008,⟨0,46,.row 4 (List.map c46 [])⟩)]⟩) (by kernel_rfl)<|sL (X:=Int×List Entry) (fun x=>⟨[(6,.sl (List.map c54 (O1 rs).1)),(8,.own 1008 0),(24,.sl (List.map c46 es)),(25,.i .i64 ((↑es.length:Int))),(26,.i .i64 (x.1))],[(1008,⟨0,46,.row 4 (List.map c46 x.2)⟩)]⟩) (fun x ↦ decAp es x.1 x.2) (fun x ↦ B3v es (T7 { vec:=[],cloud:=[]:Past } [] rs) x.1 x.2) [6,8,24,25,26] [1008] (((0:Int),[])) (show B3v es (T7 { vec:=[],cloud:=[]:Past } [] rs) (0:Int) []from(by exact⟨by omega,by omega,by simp,by simp⟩)) ?_
 rintro⟨i3,o4⟩ h_5
 obtain⟨h6,h7,h8,h9⟩:0≤i3∧i3≤(↑es.length:Int)∧(↑o4.length:Int)≤i3∧o4=List.filter (fun e ↦ decide (M6 (T7 { vec:=[],cloud:=[]:Past } [] rs) e=0)) (List.take i3.toNat es):=h_5
 refine rE cx [6,8,24,25,26,27] [1008] (zB 0 (i3 <(↑es.length:Int))) (fun h10=>?_) fun h10=>?_
 refine sK<|sn<|sq<|bL 1<|sq<|rG cx [6,8,24,25,26,10] [1008,10] (fA (0≤i3) (fG c46 es i3.toNat (fR 4 (fN 4 4 (oR 0 (c46 es[i3.toNat]!) z0)))))<|sn<|rD cx [6,8,24,25,26,10,33] [1008,10] (fT (con167 ((O1 rs).1) (es[i3.toNat]!)) (oA 2 (.i .i64 (M6 (O1 rs).1 es[i3.toNat]!)) (zB 3 (M6 (O1 rs).1 es[i3.toNat]! =(0:Int))))) (fun h11=>?_) fun h11=>?_
 refine rG cx [6,8,24,25,26] [1008] (fR 46 (fR 4 (fR 4 (fX c46 [es[i3.toNat]!] 4 (fS c46 o4 c46 [es[i3.toNat]!] (fP (((List.map c46 o4).length+(List.map c46 [es[i3.toNat]!]).length)*(40:Nat)≤(140737488355328:Nat)) (by have:=hl (yes hh2).1;simp only [List.length_map,List.length_cons,List.length_nil];omega) (fM c46 o4 [es[i3.toNat]!] (oV 3 { rows:=some (List.map c46 (o4++[es[i3.toNat]!])) } z0)))))))) ?_
 refine bN<|sn<|rG cx [6,8,24,25,26] [1008] (tW 0 (i3+1) z0)<|sn<|nX ((i3+1,o4++[es[i3.toNat]!])) (show((↑es.length:Int)-(i3+1)).toNat <((↑es.length:Int)-i3).toNat from(by omega)) (show B3v es (T7 { vec:=[],cloud:=[]:Past } [] rs) (i3+1) (o4++[es[i3.toNat]!])from ?g4);rotate_left
 refine sK<|bN<|sn<|rG cx [6,8,24,25,26] [1008] (tW 0 (i3+1) z0)<|sn<|nX ((i3+1,o4)) (show((↑es.length:Int)-(i3+1)).toNat <((↑es.length:Int)-i3).toNat from(by omega)) (show B3v es (T7 { vec:=[],cloud:=[]:Past } [] rs) (i3+1) o4 from ?g5);rotate_left
 refine eX 0<|nE<|nE<|bH<|sn<|sq<|rG cx [4,5] [1008] z0<|sn<|rT<|qR (.tup [.sl (List.map c46 o4),.i .i64 ((0:Int))]) (A3.tup (ZLe.cons (A3.eq (show AV.sl (List.map c46 o4)=AV.sl (List.map c46 (J3 es rs).1)from ?g7)) (ZLe.cons (A3.eq (show AV.i .i64 0=AV.i .i64 (J3 es rs).2 from(by unfold J3;rw[if_pos (yes hh2)]))) ZLe.nil)));rotate_left
 case g4 =>
  rw[hf (yes hh2).2]at h11
  refine⟨by omega,by omega,by rw[List.length_append,List.length_singleton];omega,?_⟩
  rw[B0k h6 h10 h9,if_pos h11]
 case g5 =>
  rw[hf (yes hh2).2]at h11
  refine⟨by omega,by omega,by omega,?_⟩
  rw[B0k h6 h10 h9,if_neg h11,List.append_nil]
 case g7 =>
  unfold J3
  rw[if_pos (yes hh2),h9,List.take_of_length_le (by omega),B7n]
end Go.Proofs.YtphcaholhacnpaaGreat
namespace Go.Proofs.YtphcaholhacnpaaGreat
open Go.E
set_option maxRecDepth 100000
set_option maxHeartbeats 4000000
theorem A71{s:List Entry}(hs:Az1 s){i j:Nat}(hij:i < j)(hj:j < s.length):¬ dLt s[j]!.dot s[i]!.dot=true:=by
 have:=List.pairwise_iff_getElem.1 hs i j (by omega) hj hij
 rw[← getElem!_pos s i (by omega),← getElem!_pos s j hj]at this
 simpa [ltE]using this
theorem B0l{s:List Entry}(hs:Az1 s):∀(n:Nat) (l:List Entry),n≤s.length→M4 s n=some l→upE l∧∀ e,e∈l↔e∈s.take n
 | 0,l,_,h=>by
  simp only [M4,Option.some.injEq]at h
  subst h
  exact⟨List.Pairwise.nil,fun e=>by simp⟩
 | n+1,l,hn,h=>by
  rw[M4]at h
  split at h
  ·cases h
  ·rename_i l0 h0
   obtain⟨i1,i2⟩:=B0l hs n l0 (by omega) h0
   have et:s.take (n+1)=s.take n++[s[n]!]:=by rw[getElem!_pos s n (by omega),← List.take_succ_eq_append_getElem (by omega)]
   split at h
   ·rename_i hc
    simp only [Option.some.injEq]at h
    subst h
    refine⟨List.pairwise_append.2 ⟨i1,by simp,fun x hx y hy=>?_⟩,fun e=>?_⟩
    ·have:y=s[n]!:=by simpa using hy
     subst this
     obtain⟨i,hi,rfl⟩:=List.mem_iff_getElem.1 ((i2 x).1 hx)
     rw[List.length_take]at hi
     rw[List.getElem_take,← getElem!_pos s i (by omega)]
     have h1:=A71 hs (i:=i) (j:=n) (by omega) (by omega)
     apply Classical.byContradiction
     intro h2
     have hd:=A8s h2 h1
     rcases hc with hc | hc
     ·omega
     ·by_cases ei:i=n-1
      ·subst ei;exact hc hd
      ·have h3:=A71 hs (i:=i) (j:=n-1) (by omega) (by omega)
       have h4:=A71 hs (i:=n-1) (j:=n) (by omega) (by omega)
       rw[hd]at h3
       exact hc (A8s h3 h4)
    ·rw[List.mem_append,et,List.mem_append,i2]
   ·rename_i hc
    split at h
    ·rename_i he
     simp only [Option.some.injEq]at h
     subst h
     refine⟨i1,fun e=>?_⟩
     rw[et,List.mem_append,i2]
     constructor
     ·exact fun k=>.inl k
     ·rintro(k | k)
      ·exact k
      ·have hn0:¬ n=0:=fun k0=>hc (.inl k0)
       have:e=s[n-1]!:=by rw[he];simpa using k
       subst this
       have hlt:n-1 <(s.take n).length:=by rw[List.length_take];omega
       have:=List.getElem_mem hlt
       rw[List.getElem_take,← getElem!_pos s (n-1) (by omega)]at this
       exact this
    ·cases h
theorem A96{s:List Entry}(hc:∀ x∈s,∀ y∈s,x.dot=y.dot→x=y):∀ n:Nat,n≤s.length→∃ l,M4 s n=some l
 | 0,_=>⟨[],rfl⟩
 | n+1,hn=>by
  obtain⟨l,hl⟩:=A96 hc n (by omega)
  rw[M4,hl]
  simp only
  split
  ·exact⟨_,rfl⟩
  ·rename_i h
   rw[if_pos]
   ·exact⟨_,rfl⟩
   ·refine hc _ (A6c (by omega)) _ (A6c (by omega)) ?_
    apply Classical.byContradiction
    exact fun k=>h (.inr k)
theorem B0m(es:List Entry)(e:Entry):e∈A48 es↔e∈es:=(List.mergeSort_perm es _).mem_iff
def B57(a b:List Entry):Prop:=∀ x∈a,∀ y∈b,x.dot=y.dot→x=y
theorem B0n{a b:List Entry}(ha:S9 a)(hb:S9 b)(hc:B57 a b):∃ l,K0 a b=(l,0)∧S9 l∧∀ e,e∈l↔e∈a∨e∈b:=by
 rw[Aj2 ((F8 a).2 ha) ((F8 b).2 hb)]
 have hall:∀ x∈A48 (a++b),∀ y∈A48 (a++b),x.dot=y.dot→x=y:=by
  intro x hx y hy hd
  rw[B0m,List.mem_append]at hx hy
  rcases hx with hx | hx <;> rcases hy with hy | hy
  ·exact A40 ha hx hy hd
  ·exact hc x hx y hy hd
  ·exact(hc y hy x hx hd.symm).symm
  ·exact A40 hb hx hy hd
 obtain⟨l,hl⟩:=A96 hall _ (Nat.le_refl _)
 obtain⟨h1,h2⟩:=B0l (Ao4 _) _ l (Nat.le_refl _) hl
 have h3:∀ e,e∈l↔e∈a∨e∈b:=fun e=>by rw[h2,List.take_length,B0m,List.mem_append]
 refine⟨l,by unfold A4a;rw[hl],⟨fun e he=>?_,h1⟩,h3⟩
 rcases(h3 e).1 he with k | k
 ·exact ha.1 e k
 ·exact hb.1 e k
end Go.Proofs.YtphcaholhacnpaaGreat
namespace Go.Proofs.YtphcaholhacnpaaGreat
open Go.E
set_option maxRecDepth 100000
set_option maxHeartbeats 4000000
noncomputable def Ao7(live:List Entry)(f:Facts):List Entry:=(live.filter fun e=>D7 f.gone e.dot == false).filter fun e=>decide (M6 f.recs e=0)
def A17(live adds:List Entry):Bool:=adds.any fun e=>(J4 live e.dot).2
noncomputable def C8(live:List Entry)(f:Facts):List Entry×Int:=if ¬ B2 live=0∨¬ okF f=true then([],1)else if ¬ evE f=0 then([],evE f)else if A17 live f.adds=true then([],10)else K0 (Ao7 live f) f.adds
theorem B0o{live:List Entry}{f:Facts}(h:S9 live):S9 (Ao7 live f):=R1 (R1 h List.filter_sublist) List.filter_sublist
theorem A2n{f:Facts}(h:evE f=0):okF f=true∧f.adds.length≤1∧f.recs.length≤1:=by
 unfold evE at h
 split at h
 ·omega
 ·rename_i h0
  have h0:okF f=true:=by cases k:okF f <;> simp_all
  refine⟨h0,?_⟩
  split at h
  ·omega
  ·split at h
   ·omega
   ·split at h
    ·omega
    ·omega
theorem Aj9{live:List Entry}{f:Facts}(h:¬ B2 live=0∨¬ okF f=true):C8 live f=([],1):=by unfold C8;rw[if_pos h]
theorem B58{live:List Entry}{f:Facts}(h1:¬(¬ B2 live=0∨¬ okF f=true))(h:¬ evE f=0):C8 live f=([],evE f):=by unfold C8;rw[if_neg h1,if_pos h]
theorem A97{live:List Entry}{f:Facts}(h1:¬(¬ B2 live=0∨¬ okF f=true))(h2:evE f=0)(h:A17 live f.adds=true):C8 live f=([],10):=by unfold C8;rw[if_neg h1,if_neg (fun k=>k h2),if_pos h]
theorem A98{live:List Entry}{f:Facts}(h1:¬(¬ B2 live=0∨¬ okF f=true))(h2:evE f=0)(h:¬ A17 live f.adds=true):C8 live f=K0 (Ao7 live f) f.adds:=by unfold C8;rw[if_neg h1,if_neg (fun k=>k h2),if_neg h]
def B7o(live:List Entry)(f:Facts)(i:Int)(x1:List Entry)(x2:List Int)(x3:List Span)(x4:List Record):Prop:=x1=f.adds∧x2=f.gone.vec∧x3=f.gone.cloud∧x4=f.recs∧0≤i∧i≤f.adds.length∧∀ k:Nat,(k:Int) < i→¬(J4 live f.adds[k]!.dot).2=true
def decEc(f:Facts)(i:Int)(x1:List Entry)(x2:List Int)(x3:List Span)(x4:List Record):Nat:=(f.adds.length-i).toNat
def A18(f:Facts)(x:Entry):Prop:=¬ D7 f.gone x.dot=true∧M6 f.recs x=0
theorem Ak0{live:List Entry}{f:Facts}{e:Entry}:e∈Ao7 live f↔e∈live∧A18 f e:=by
 unfold Ao7 A18
 rw[List.mem_filter,List.mem_filter,decide_eq_true_iff]
 constructor
 ·rintro⟨⟨h1,h2⟩,h3⟩
  exact⟨h1,fun k=>(by rw[k]at h2;cases h2),h3⟩
 ·rintro⟨h1,h2,h3⟩
  exact⟨⟨h1,by cases k:D7 f.gone e.dot with | true=>exact absurd k h2 | false=>rfl⟩,h3⟩
theorem B3y{rs:List Record}(h:rs.length≤1)(hf:R3 rs=0):tokR rs:=by
 refine⟨?_,by omega⟩
 match rs,h,hf with
 | [],_,_=>simp [Aj5]
 | [r],_,hf =>
  have h1:=(ck_ok.1 (((Ah5 [r]).1 hf).1 r (by simp))).2.1
  have h2:r.past.cloud.length≤8000000000:=by rw[h1];exact(X7 _).1
  have h3:Aj5 [r]=r.past.cloud.length+1:=by simp [Aj5]
  rw[h3]
  omega
theorem Ak1{live adds:List Entry}(h:∀ k:Nat,(k:Int) < adds.length→¬(J4 live adds[k]!.dot).2=true):¬ A17 live adds=true:=by
 intro c
 unfold A17 at c
 obtain⟨e,he,c⟩:=List.any_eq_true.1 c
 obtain⟨k,hk,rfl⟩:=List.mem_iff_getElem.1 he
 refine h k (by omega) ?_
 rw[getElem!_pos adds k hk]
 exact c
theorem Ak2{live adds:List Entry}{i:Int}(h0:0≤i)(hi:i < adds.length)(h:(J4 live adds[i.toNat]!.dot).2=true):A17 live adds=true:=by
 unfold A17
 exact List.any_eq_true.2 ⟨adds[i.toNat]!,H5 (by omega),h⟩
theorem A4g{f:Facts}(h:okF f=true):B2 f.adds=0∧f.gone=A4 f.gone∧R3 f.recs=0:=by
 rw[Ax4,decide_eq_true_iff]at h
 exact h
theorem A99{live:List Entry}{f:Facts}(h1:¬(¬ B2 live=0∨¬ okF f=true))(h2:evE f=0)(h:¬ A17 live f.adds=true):K0 (J3 (D3 live f.gone false).1 f.recs).1 f.adds=C8 live f:=by
 have hl:B2 live=0:=Classical.not_not.1 fun k=>h1 (.inl k)
 have hk:=A4g (Classical.not_not.1 fun k=>h1 (.inr k))
 have e1:(D3 live f.gone false).1=live.filter fun e=>D7 f.gone e.dot == false:=by unfold D3;rw[if_pos ⟨L7 hl,hk.2.1⟩]
 have e2:B2 (live.filter fun e=>D7 f.gone e.dot == false)=0:=(F8 _).2 (R1 ((F8 live).1 hl) List.filter_sublist)
 rw[A98 h1 h2 h,e1]
 unfold J3
 rw[if_pos ⟨e2,hk.2.2⟩]
 rfl
theorem con23(live:List Entry)(f:Facts)(hb:szF f):Con Tryz.prog 23 [.sl (live.map c46),.agg (c36 f)] (.tup [.sl ((C8 live f).1.map c46),.i .i64 (C8 live f).2]) :=
 by
 refine lN 0 c46 (live) Tryz.func23 fun hl_0=>sC A6 [.tmp 4,.tmp 5] 62 Tryz.func23 ?_
 intro e0 cx
 refine sq<|rG cx [0,3] [3] z0<|sn<|sq<|sq<|A7 (σ':=⟨[(0,.sl (List.map c46 live)),(3,.ptr (3) (0) (0) (0)),(20,.b (decide (¬B2 live=0∨¬okF f=true)))],[(3,⟨0,36,.var [.sl (List.map c46 f.adds),.sl (List.map c3 f.gone.vec),.sl (List.map A9 f.gone.cloud),.sl (List.map c54 f.recs)]⟩)]⟩) ?_ ?_
 refine A2 (¬B2 live=0) (fun h_1=>?_) (fun h_1=>?_)
 refine rG cx [0,3,20] [3] (fT (I1 (live)) (tT 2 (E1 h_1:AV.b (B2 live !=0)=AV.b true) (tD 7 true (¬B2 live=0∨¬okF f=true) (by simp only [eq_false h_1,tsl]) (oA 1 (.i .i64 (B2 live)) z0)))) ?_
 exact⟨rfl,by kernel_rfl⟩
 refine rG cx [0,3,20] [3] (fT (I1 (live)) (tN 2 (B2 live) (0:Int) (tT 3 (A0 h_1) (fT (con87 (f) (by(with_reducible assumption))) (tT 6 (G7:(AV.b !okF f)=AV.b (decide ¬okF f=true)) (tT 7 (by first | (simp only [eq_false h_1,tsl];done) | simp_all:AV.b (decide ¬okF f=true)=AV.b (decide (¬B2 live=0∨¬okF f=true))) (oA 1 (.i .i64 (B2 live)) (oA 5 (.b (okF f)) z0)))))))) ?_
 exact⟨rfl,by kernel_rfl⟩
 refine sn<|dC (¬B2 live=0∨¬okF f=true) (fun hh2=>?_) fun hh2=>?_
 refine sq<|rG cx [4,5] [] z0<|sn<|rT<|nR<|qR (.tup [.nl,.i .i64 ((1:Int))]) (A3.tup (ZLe.cons (A3.nl' (show List.map c46 (C8 live f).1=[]from(by rw[Aj9 hh2];rfl))) (ZLe.cons (A3.eq (show AV.i .i64 1=AV.i .i64 (C8 live f).2 from(by rw[Aj9 hh2]))) ZLe.nil)))
 refine sK<|sn<|sq<|sq<|rG cx [0,3,6] [3] (fT (con17 (f) (by(with_reducible assumption))) (oA 1 (.i .i64 (evE f)) z0))<|sn<|sq<|rG cx [0,3,6,24] [3] (tN 1 (evE f) (0:Int) z0)<|sn<|dC (¬evE f=0) (fun h3=>?_) fun h3=>?_
 refine sq<|rG cx [4,5] [] z0<|sn<|rT<|nR<|qR (.tup [.nl,.i .i64 (evE f)]) (A3.tup (ZLe.cons (A3.nl' (show List.map c46 (C8 live f).1=[]from(by rw[B58 hh2 h3];rfl))) (ZLe.cons (A3.eq (show AV.i .i64 (evE f)=AV.i .i64 (C8 live f).2 from(by rw[B58 hh2 h3]))) ZLe.nil)))
 refine sK<|sn<|sq<|sq<|rG cx [0,3,27,28,29] [3] (tL 2 c46 f.adds z0)<|sn<|bL 0<|sL (X:=Int×List Entry×List Int×List Span×List Record) (fun x=>⟨[(0,.sl (List.map c46 live)),(3,.ptr (3) (0) (0) (0)),(27,.sl (List.map c46 f.adds)),(28,.i .i64 ((↑f.adds.length:Int))),(29,.i .i64 (x.1))],[(3,⟨0,36,.var [.sl (List.map c46 x.2.1),.sl (List.map c3 x.2.2.1),.sl (List.map A9 x.2.2.2.1),.sl (List.map c54 x.2.2.2.2)]⟩)]⟩) (fun x ↦ decEc f x.1 x.2.1 x.2.2.1 x.2.2.2.1 x.2.2.2.2) (fun x ↦ B7o live f x.1 x.2.1 x.2.2.1 x.2.2.2.1 x.2.2.2.2) [0,3,27,28,29] [3] (((0:Int),f.adds,f.gone.vec,f.gone.cloud,f.recs)) (show B7o live f (0:Int) f.adds f.gone.vec f.gone.cloud f.recs from(by exact⟨rfl,rfl,rfl,rfl,by omega,by omega,fun k hk=>by omega⟩)) ?_
 rintro⟨i4,x5,x6,x7,x8⟩ h_9
 obtain⟨h10,h11,h12,h13,h14,h15,h16⟩:x5=f.adds∧x6=f.gone.vec∧x7=f.gone.cloud∧x8=f.recs∧0≤i4∧i4≤(↑f.adds.length:Int)∧∀(k:Nat),(↑k:Int) < i4→¬(J4 live f.adds[k]!.dot).2=true:=h_9
 refine rE cx [0,3,27,28,29,30] [3] (zB 0 (i4 <(↑f.adds.length:Int))) (fun h17=>?_) fun h17=>?_
 refine sK<|sn<|sq<|bL 1<|sq<|rG cx [0,3,27,28,29,8] [3,8] (fA (0≤i4) (fG c46 f.adds i4.toNat (fR 4 (fN 4 4 (oR 0 (c46 f.adds[i4.toNat]!) z0)))))<|sn<|sq<|rG cx [0,3,27,28,29,10] [3] (fT (con95 (live) (f.adds[i4.toNat]!.dot)) (oA 3 (.tup [.agg [.i .i64 ((J4 live f.adds[i4.toNat]!.dot).1.dot.rep),.i .i64 ((J4 live f.adds[i4.toNat]!.dot).1.dot.num),.s ((J4 live f.adds[i4.toNat]!.dot).1.sku),.i .i64 ((J4 live f.adds[i4.toNat]!.dot).1.qty)],.b ((J4 live f.adds[i4.toNat]!.dot).2)]) z0))<|sn<|sq<|rG cx [0,3,27,28,29,40] [3] z0<|sn<|Z7 ((J4 live f.adds[i4.toNat]!.dot).2) (by kernel_rfl) (by kernel_rfl) (fun h18=>?_) (fun h18=>?_)
 refine sq<|rG cx [4,5] [] z0<|sn<|rT<|bR<|nR<|nR<|bR<|nR<|qR (.tup [.nl,.i .i64 ((10:Int))]) (A3.tup (ZLe.cons (A3.nl' (show List.map c46 (C8 live f).1=[]from(by rw[A97 hh2 (Classical.not_not.1 h3) (Ak2 h14 h17 h18)];rfl))) (ZLe.cons (A3.eq (show AV.i .i64 10=AV.i .i64 (C8 live f).2 from(by rw[A97 hh2 (Classical.not_not.1 h3) (Ak2 h14 h17 h18)]))) ZLe.nil)))
 refine sK<|bN<|sn<|rG cx [0,3,27,28,29] [3] (tT 0 (C1 (by omega) (by have:=(A2n (Classical.not_not.1 h3)).2.1;omega):AV.i .i64 (IntKind.i64.wrap (i4+1))=AV.i .i64 (i4+1)) z0) ?_
 refine sn<|nX ((i4+1,x5,x6,x7,x8)) (show((↑f.adds.length:Int)-(i4+1)).toNat <((↑f.adds.length:Int)-i4).toNat from(by omega)) (show B7o live f (i4+1) x5 x6 x7 x8 from ?g8);rotate_left
 refine eX 0<|nE<|nE<|bH<|sn<|sq<|rG cx [3,11] [3] (fT (A8w (live) ({ vec:=x6,cloud:=x7:Past }) (by show x7.length*16≤_;rw[h12];exact hb.1.1)) (oA 3 (.tup [.sl (List.map c46 (D3 live { vec:=x6,cloud:=x7:Past } false).1),.i .i64 ((D3 live { vec:=x6,cloud:=x7:Past } false).2)]) z0)) ?_
 refine sn<|sq<|rG cx [3,11] [3] (fT (con96 ((D3 live { vec:=x6,cloud:=x7:Past } false).1) (x8) (by rw[h13];exact fun r hr=>(hb.2 r hr).1) (by rw[h13];exact B3y (A2n (Classical.not_not.1 h3)).2.2 (A4g (A2n (Classical.not_not.1 h3)).1).2.2)) (oA 3 (.tup [.sl (List.map c46 (J3 (D3 live { vec:=x6,cloud:=x7:Past } false).1 x8).1),.i .i64 ((J3 (D3 live { vec:=x6,cloud:=x7:Past } false).1 x8).2)]) z0)) ?_
 refine sn<|sq<|rG cx [4,5] [] (fT (con97 ((J3 (D3 live { vec:=x6,cloud:=x7:Past } false).1 x8).1) (x5)) (oA 3 (Ap2 (con97 ((J3 (D3 live { vec:=x6,cloud:=x7:Past } false).1 x8).1) (x5))) z0))<|sn<|rT<|qR (.tup [.sl (List.map c46 (K0 (J3 (D3 live { vec:=x6,cloud:=x7:Past } false).1 x8).1 x5).1),.i .i64 ((K0 (J3 (D3 live { vec:=x6,cloud:=x7:Past } false).1 x8).1 x5).2)]) (A3.tup (ZLe.cons (A3.eq (show AV.sl (List.map c46 (K0 (J3 (D3 live { vec:=x6,cloud:=x7:Past } false).1 x8).1 x5).1)=AV.sl (List.map c46 (C8 live f).1)from ?g13)) (ZLe.cons (A3.eq (show AV.i .i64 (K0 (J3 (D3 live { vec:=x6,cloud:=x7:Past } false).1 x8).1 x5).2=AV.i .i64 (C8 live f).2 from ?g12)) ZLe.nil)));rotate_left 2
 case g8 =>
  refine⟨h10,h11,h12,h13,by omega,by omega,fun k hk=>?_⟩
  by_cases e:k=i4.toNat
  ·rw[e,h18];simp
  ·exact h16 k (by omega)
 case g12 =>
  subst h10 h11 h12 h13
  exact congrArg (fun v=>AV.i .i64 v.2) (A99 hh2 (Classical.not_not.1 h3) (Ak1 fun k hk=>h16 k (by omega)))
 case g13 =>
  subst h10 h11 h12 h13
  exact congrArg (fun v=>AV.sl (List.map c46 v.1)) (A99 hh2 (Classical.not_not.1 h3) (Ak1 fun k hk=>h16 k (by omega)))
end Go.Proofs.YtphcaholhacnpaaGreat
namespace Go.Proofs.YtphcaholhacnpaaGreat
open Go.E
set_option maxRecDepth 100000
set_option maxHeartbeats 4000000
theorem con13 :Con Tryz.prog 13 [] (.b true) :=
 by
 refine sC A6 [.tmp 0] 43 Tryz.func13 ?_
 intro e0 cx
 refine sq<|rG cx [] [] z0<|sn<|sq<|rG cx [1] [8] z0<|sn<|sq<|rG cx [2,3] [2] (fP (Con Tryz.prog (15:Nat) [AV.sl (List.map c46 [{ dot:={ rep:=(0:Int),num:=(1:Int):Dot },sku:={ data:=#[(65:UInt8)]:ByteArray },qty:=(5:Int):Entry },{ dot:={ rep:=(1:Int),num:=(2:Int):Dot },sku:={ data:=#[(65:UInt8)]:ByteArray },qty:=(7:Int):Entry }]),AV.agg [AV.sl (List.map c3 [(3:Int),(3:Int)]),AV.nl],AV.i .i64 (0:Int),AV.agg [AV.i .i64 (2:Int),AV.i .i64 (4:Int)],AV.agg [AV.i .i64 (1:Int),AV.s { data:=#[(65:UInt8)]:ByteArray },AV.i .i64 (9:Int),AV.nl,AV.nl]] (AV.tup [AV.agg [AV.sl (List.map c46 (B1 { live:=[{ dot:={ rep:=(0:Int),num:=(1:Int):Dot },sku:={ data:=#[(65:UInt8)]:ByteArray },qty:=(5:Int):Entry },{ dot:={ rep:=(1:Int),num:=(2:Int):Dot },sku:={ data:=#[(65:UInt8)]:ByteArray },qty:=(7:Int):Entry }],seen:={ vec:=[(3:Int),(3:Int)],cloud:=[]:Past },rep:=(0:Int),lim:={ lines:=(2:Int),count:=(4:Int):Limits },act:={ kind:=(1:Int),sku:={ data:=#[(65:UInt8)]:ByteArray },qty:=(9:Int),past:={ vec:=[],cloud:=[]:Past }:Actn }:Wish }).1.adds),AV.sl (List.map c3 (B1 { live:=[{ dot:={ rep:=(0:Int),num:=(1:Int):Dot },sku:={ data:=#[(65:UInt8)]:ByteArray },qty:=(5:Int):Entry },{ dot:={ rep:=(1:Int),num:=(2:Int):Dot },sku:={ data:=#[(65:UInt8)]:ByteArray },qty:=(7:Int):Entry }],seen:={ vec:=[(3:Int),(3:Int)],cloud:=[]:Past },rep:=(0:Int),lim:={ lines:=(2:Int),count:=(4:Int):Limits },act:={ kind:=(1:Int),sku:={ data:=#[(65:UInt8)]:ByteArray },qty:=(9:Int),past:={ vec:=[],cloud:=[]:Past }:Actn }:Wish }).1.gone.vec),AV.sl (List.map A9 (B1 { live:=[{ dot:={ rep:=(0:Int),num:=(1:Int):Dot },sku:={ data:=#[(65:UInt8)]:ByteArray },qty:=(5:Int):Entry },{ dot:={ rep:=(1:Int),num:=(2:Int):Dot },sku:={ data:=#[(65:UInt8)]:ByteArray },qty:=(7:Int):Entry }],seen:={ vec:=[(3:Int),(3:Int)],cloud:=[]:Past },rep:=(0:Int),lim:={ lines:=(2:Int),count:=(4:Int):Limits },act:={ kind:=(1:Int),sku:={ data:=#[(65:UInt8)]:ByteArray },qty:=(9:Int),past:={ vec:=[],cloud:=[]:Past }:Actn }:Wish }).1.gone.cloud),AV.sl (List.map c54 (B1 { live:=[{ dot:={ rep:=(0:Int),num:=(1:Int):Dot },sku:={ data:=#[(65:UInt8)]:ByteArray },qty:=(5:Int):Entry },{ dot:={ rep:=(1:Int),num:=(2:Int):Dot },sku:={ data:=#[(65:UInt8)]:ByteArray },qty:=(7:Int):Entry }],seen:={ vec:=[(3:Int),(3:Int)],cloud:=[]:Past },rep:=(0:Int),lim:={ lines:=(2:Int),count:=(4:Int):Limits },act:={ kind:=(1:Int),sku:={ data:=#[(65:UInt8)]:ByteArray },qty:=(9:Int),past:={ vec:=[],cloud:=[]:Past }:Actn }:Wish }).1.recs)],AV.i .i64 (0:Int)])) (Con.le (cast (by kernel_rfl) (con15 ([{ dot:={ rep:=(0:Int),num:=(1:Int):Dot },sku:={ data:=#[(65:UInt8)]:ByteArray },qty:=(5:Int):Entry },{ dot:={ rep:=(1:Int),num:=(2:Int):Dot },sku:={ data:=#[(65:UInt8)]:ByteArray },qty:=(7:Int):Entry }]) ({ vec:=[(3:Int),(3:Int)],cloud:=[]:Past }) ((0:Int)) ({ lines:=(2:Int),count:=(4:Int):Limits }) ({ kind:=(1:Int),sku:={ data:=#[(65:UInt8)]:ByteArray },qty:=(9:Int),past:={ vec:=[],cloud:=[]:Past }:Actn }) (by(simp only [List.length_append,List.length_cons,List.length_nil];omega)) ?g0 ?g1):Con Tryz.prog (15:FuncId) [AV.sl (List.map c46 [{ dot:={ rep:=(0:Int),num:=(1:Int):Dot },sku:={ data:=#[(65:UInt8)]:ByteArray },qty:=(5:Int):Entry },{ dot:={ rep:=(1:Int),num:=(2:Int):Dot },sku:={ data:=#[(65:UInt8)]:ByteArray },qty:=(7:Int):Entry }]),AV.agg (c26 { vec:=[(3:Int),(3:Int)],cloud:=[]:Past }),AV.i .i64 (0:Int),AV.agg (c28 { lines:=(2:Int),count:=(4:Int):Limits }),AV.agg (c30 { kind:=(1:Int),sku:={ data:=#[(65:UInt8)]:ByteArray },qty:=(9:Int),past:={ vec:=[],cloud:=[]:Past }:Actn })] (AV.tup [AV.agg [AV.sl (List.map c46 (B1 { live:=[{ dot:={ rep:=(0:Int),num:=(1:Int):Dot },sku:={ data:=#[(65:UInt8)]:ByteArray },qty:=(5:Int):Entry },{ dot:={ rep:=(1:Int),num:=(2:Int):Dot },sku:={ data:=#[(65:UInt8)]:ByteArray },qty:=(7:Int):Entry }],seen:={ vec:=[(3:Int),(3:Int)],cloud:=[]:Past },rep:=(0:Int),lim:={ lines:=(2:Int),count:=(4:Int):Limits },act:={ kind:=(1:Int),sku:={ data:=#[(65:UInt8)]:ByteArray },qty:=(9:Int),past:={ vec:=[],cloud:=[]:Past }:Actn }:Wish }).1.adds),AV.sl (List.map c3 (B1 { live:=[{ dot:={ rep:=(0:Int),num:=(1:Int):Dot },sku:={ data:=#[(65:UInt8)]:ByteArray },qty:=(5:Int):Entry },{ dot:={ rep:=(1:Int),num:=(2:Int):Dot },sku:={ data:=#[(65:UInt8)]:ByteArray },qty:=(7:Int):Entry }],seen:={ vec:=[(3:Int),(3:Int)],cloud:=[]:Past },rep:=(0:Int),lim:={ lines:=(2:Int),count:=(4:Int):Limits },act:={ kind:=(1:Int),sku:={ data:=#[(65:UInt8)]:ByteArray },qty:=(9:Int),past:={ vec:=[],cloud:=[]:Past }:Actn }:Wish }).1.gone.vec),AV.sl (List.map A9 (B1 { live:=[{ dot:={ rep:=(0:Int),num:=(1:Int):Dot },sku:={ data:=#[(65:UInt8)]:ByteArray },qty:=(5:Int):Entry },{ dot:={ rep:=(1:Int),num:=(2:Int):Dot },sku:={ data:=#[(65:UInt8)]:ByteArray },qty:=(7:Int):Entry }],seen:={ vec:=[(3:Int),(3:Int)],cloud:=[]:Past },rep:=(0:Int),lim:={ lines:=(2:Int),count:=(4:Int):Limits },act:={ kind:=(1:Int),sku:={ data:=#[(65:UInt8)]:ByteArray },qty:=(9:Int),past:={ vec:=[],cloud:=[]:Past }:Actn }:Wish }).1.gone.cloud),AV.sl (List.map c54 (B1 { live:=[{ dot:={ rep:=(0:Int),num:=(1:Int):Dot },sku:={ data:=#[(65:UInt8)]:ByteArray },qty:=(5:Int):Entry },{ dot:={ rep:=(1:Int),num:=(2:Int):Dot },sku:={ data:=#[(65:UInt8)]:ByteArray },qty:=(7:Int):Entry }],seen:={ vec:=[(3:Int),(3:Int)],cloud:=[]:Past },rep:=(0:Int),lim:={ lines:=(2:Int),count:=(4:Int):Limits },act:={ kind:=(1:Int),sku:={ data:=#[(65:UInt8)]:ByteArray },qty:=(9:Int),past:={ vec:=[],cloud:=[]:Past }:Actn }:Wish }).1.recs)],AV.i .i64 (0:Int)])) (ZLe.cons (A3.refl _) (ZLe.cons (A3.agg (ZLe.cons (A3.refl _) (ZLe.cons A3.nl ZLe.nil))) (ZLe.cons (A3.refl _) (ZLe.cons (A3.refl _) (ZLe.cons (A3.agg (ZLe.cons (A3.refl _) (ZLe.cons (A3.refl _) (ZLe.cons (A3.refl _) (ZLe.cons A3.nl (ZLe.cons A3.nl ZLe.nil)))))) ZLe.nil)))))) (oA 5 (.tup [.agg [.sl (List.map c46 (B1 { live:=[{ dot:={ rep:=(0:Int),num:=(1:Int):Dot },sku:={ data:=#[(65:UInt8)]:ByteArray },qty:=(5:Int):Entry },{ dot:={ rep:=(1:Int),num:=(2:Int):Dot },sku:={ data:=#[(65:UInt8)]:ByteArray },qty:=(7:Int):Entry }],seen:={ vec:=[(3:Int),(3:Int)],cloud:=[]:Past },rep:=(0:Int),lim:={ lines:=(2:Int),count:=(4:Int):Limits },act:={ kind:=(1:Int),sku:={ data:=#[(65:UInt8)]:ByteArray },qty:=(9:Int),past:={ vec:=[],cloud:=[]:Past }:Actn }:Wish }).1.adds),.sl (List.map c3 (B1 { live:=[{ dot:={ rep:=(0:Int),num:=(1:Int):Dot },sku:={ data:=#[(65:UInt8)]:ByteArray },qty:=(5:Int):Entry },{ dot:={ rep:=(1:Int),num:=(2:Int):Dot },sku:={ data:=#[(65:UInt8)]:ByteArray },qty:=(7:Int):Entry }],seen:={ vec:=[(3:Int),(3:Int)],cloud:=[]:Past },rep:=(0:Int),lim:={ lines:=(2:Int),count:=(4:Int):Limits },act:={ kind:=(1:Int),sku:={ data:=#[(65:UInt8)]:ByteArray },qty:=(9:Int),past:={ vec:=[],cloud:=[]:Past }:Actn }:Wish }).1.gone.vec),.sl (List.map A9 (B1 { live:=[{ dot:={ rep:=(0:Int),num:=(1:Int):Dot },sku:={ data:=#[(65:UInt8)]:ByteArray },qty:=(5:Int):Entry },{ dot:={ rep:=(1:Int),num:=(2:Int):Dot },sku:={ data:=#[(65:UInt8)]:ByteArray },qty:=(7:Int):Entry }],seen:={ vec:=[(3:Int),(3:Int)],cloud:=[]:Past },rep:=(0:Int),lim:={ lines:=(2:Int),count:=(4:Int):Limits },act:={ kind:=(1:Int),sku:={ data:=#[(65:UInt8)]:ByteArray },qty:=(9:Int),past:={ vec:=[],cloud:=[]:Past }:Actn }:Wish }).1.gone.cloud),.sl (List.map c54 (B1 { live:=[{ dot:={ rep:=(0:Int),num:=(1:Int):Dot },sku:={ data:=#[(65:UInt8)]:ByteArray },qty:=(5:Int):Entry },{ dot:={ rep:=(1:Int),num:=(2:Int):Dot },sku:={ data:=#[(65:UInt8)]:ByteArray },qty:=(7:Int):Entry }],seen:={ vec:=[(3:Int),(3:Int)],cloud:=[]:Past },rep:=(0:Int),lim:={ lines:=(2:Int),count:=(4:Int):Limits },act:={ kind:=(1:Int),sku:={ data:=#[(65:UInt8)]:ByteArray },qty:=(9:Int),past:={ vec:=[],cloud:=[]:Past }:Actn }:Wish }).1.recs)],.i .i64 ((0:Int))]) z0)) ?_;rotate_left 2
 refine sn<|sq<|rG cx [0] [] (fO ((0:Int)≤(0:Int)) (fR (some (c46 { dot:=(U4 { live:=[{ dot:={ rep:=(0:Int),num:=(1:Int):Dot },sku:={ data:=#[(65:UInt8)]:ByteArray },qty:=(5:Int):Entry },{ dot:={ rep:=(1:Int),num:=(2:Int):Dot },sku:={ data:=#[(65:UInt8)]:ByteArray },qty:=(7:Int):Entry }],seen:={ vec:=[(3:Int),(3:Int)],cloud:=[]:Past },rep:=(0:Int),lim:={ lines:=(2:Int),count:=(4:Int):Limits },act:={ kind:=(1:Int),sku:={ data:=#[(65:UInt8)]:ByteArray },qty:=(9:Int),past:={ vec:=[],cloud:=[]:Past }:Actn }:Wish }.seen { live:=[{ dot:={ rep:=(0:Int),num:=(1:Int):Dot },sku:={ data:=#[(65:UInt8)]:ByteArray },qty:=(5:Int):Entry },{ dot:={ rep:=(1:Int),num:=(2:Int):Dot },sku:={ data:=#[(65:UInt8)]:ByteArray },qty:=(7:Int):Entry }],seen:={ vec:=[(3:Int),(3:Int)],cloud:=[]:Past },rep:=(0:Int),lim:={ lines:=(2:Int),count:=(4:Int):Limits },act:={ kind:=(1:Int),sku:={ data:=#[(65:UInt8)]:ByteArray },qty:=(9:Int),past:={ vec:=[],cloud:=[]:Past }:Actn }:Wish }.rep { live:=[{ dot:={ rep:=(0:Int),num:=(1:Int):Dot },sku:={ data:=#[(65:UInt8)]:ByteArray },qty:=(5:Int):Entry },{ dot:={ rep:=(1:Int),num:=(2:Int):Dot },sku:={ data:=#[(65:UInt8)]:ByteArray },qty:=(7:Int):Entry }],seen:={ vec:=[(3:Int),(3:Int)],cloud:=[]:Past },rep:=(0:Int),lim:={ lines:=(2:Int),count:=(4:Int):Limits },act:={ kind:=(1:Int),sku:={ data:=#[(65:UInt8)]:ByteArray },qty:=(9:Int),past:={ vec:=[],cloud:=[]:Past }:Actn }:Wish }.lim.count).1,sku:={ live:=[{ dot:={ rep:=(0:Int),num:=(1:Int):Dot },sku:={ data:=#[(65:UInt8)]:ByteArray },qty:=(5:Int):Entry },{ dot:={ rep:=(1:Int),num:=(2:Int):Dot },sku:={ data:=#[(65:UInt8)]:ByteArray },qty:=(7:Int):Entry }],seen:={ vec:=[(3:Int),(3:Int)],cloud:=[]:Past },rep:=(0:Int),lim:={ lines:=(2:Int),count:=(4:Int):Limits },act:={ kind:=(1:Int),sku:={ data:=#[(65:UInt8)]:ByteArray },qty:=(9:Int),past:={ vec:=[],cloud:=[]:Past }:Actn }:Wish }.act.sku,qty:={ live:=[{ dot:={ rep:=(0:Int),num:=(1:Int):Dot },sku:={ data:=#[(65:UInt8)]:ByteArray },qty:=(5:Int):Entry },{ dot:={ rep:=(1:Int),num:=(2:Int):Dot },sku:={ data:=#[(65:UInt8)]:ByteArray },qty:=(7:Int):Entry }],seen:={ vec:=[(3:Int),(3:Int)],cloud:=[]:Past },rep:=(0:Int),lim:={ lines:=(2:Int),count:=(4:Int):Limits },act:={ kind:=(1:Int),sku:={ data:=#[(65:UInt8)]:ByteArray },qty:=(9:Int),past:={ vec:=[],cloud:=[]:Past }:Actn }:Wish }.act.qty:Entry })) (fR 4 (fO ((0:Int)≤(0:Int)) (fR (some (c46 { dot:=(U4 { live:=[{ dot:={ rep:=(0:Int),num:=(1:Int):Dot },sku:={ data:=#[(65:UInt8)]:ByteArray },qty:=(5:Int):Entry },{ dot:={ rep:=(1:Int),num:=(2:Int):Dot },sku:={ data:=#[(65:UInt8)]:ByteArray },qty:=(7:Int):Entry }],seen:={ vec:=[(3:Int),(3:Int)],cloud:=[]:Past },rep:=(0:Int),lim:={ lines:=(2:Int),count:=(4:Int):Limits },act:={ kind:=(1:Int),sku:={ data:=#[(65:UInt8)]:ByteArray },qty:=(9:Int),past:={ vec:=[],cloud:=[]:Past }:Actn }:Wish }.seen { live:=[{ dot:={ rep:=(0:Int),num:=(1:Int):Dot },sku:={ data:=#[(65:UInt8)]:ByteArray },qty:=(5:Int):Entry },{ dot:={ rep:=(1:Int),num:=(2:Int):Dot },sku:={ data:=#[(65:UInt8)]:ByteArray },qty:=(7:Int):Entry }],seen:={ vec:=[(3:Int),(3:Int)],cloud:=[]:Past },rep:=(0:Int),lim:={ lines:=(2:Int),count:=(4:Int):Limits },act:={ kind:=(1:Int),sku:={ data:=#[(65:UInt8)]:ByteArray },qty:=(9:Int),past:={ vec:=[],cloud:=[]:Past }:Actn }:Wish }.rep { live:=[{ dot:={ rep:=(0:Int),num:=(1:Int):Dot },sku:={ data:=#[(65:UInt8)]:ByteArray },qty:=(5:Int):Entry },{ dot:={ rep:=(1:Int),num:=(2:Int):Dot },sku:={ data:=#[(65:UInt8)]:ByteArray },qty:=(7:Int):Entry }],seen:={ vec:=[(3:Int),(3:Int)],cloud:=[]:Past },rep:=(0:Int),lim:={ lines:=(2:Int),count:=(4:Int):Limits },act:={ kind:=(1:Int),sku:={ data:=#[(65:UInt8)]:ByteArray },qty:=(9:Int),past:={ vec:=[],cloud:=[]:Past }:Actn }:Wish }.lim.count).1,sku:={ live:=[{ dot:={ rep:=(0:Int),num:=(1:Int):Dot },sku:={ data:=#[(65:UInt8)]:ByteArray },qty:=(5:Int):Entry },{ dot:={ rep:=(1:Int),num:=(2:Int):Dot },sku:={ data:=#[(65:UInt8)]:ByteArray },qty:=(7:Int):Entry }],seen:={ vec:=[(3:Int),(3:Int)],cloud:=[]:Past },rep:=(0:Int),lim:={ lines:=(2:Int),count:=(4:Int):Limits },act:={ kind:=(1:Int),sku:={ data:=#[(65:UInt8)]:ByteArray },qty:=(9:Int),past:={ vec:=[],cloud:=[]:Past }:Actn }:Wish }.act.sku,qty:={ live:=[{ dot:={ rep:=(0:Int),num:=(1:Int):Dot },sku:={ data:=#[(65:UInt8)]:ByteArray },qty:=(5:Int):Entry },{ dot:={ rep:=(1:Int),num:=(2:Int):Dot },sku:={ data:=#[(65:UInt8)]:ByteArray },qty:=(7:Int):Entry }],seen:={ vec:=[(3:Int),(3:Int)],cloud:=[]:Past },rep:=(0:Int),lim:={ lines:=(2:Int),count:=(4:Int):Limits },act:={ kind:=(1:Int),sku:={ data:=#[(65:UInt8)]:ByteArray },qty:=(9:Int),past:={ vec:=[],cloud:=[]:Past }:Actn }:Wish }.act.qty:Entry })) (fR 4 (oR 11 (c46 { dot:=(U4 { live:=[{ dot:={ rep:=(0:Int),num:=(1:Int):Dot },sku:={ data:=#[(65:UInt8)]:ByteArray },qty:=(5:Int):Entry },{ dot:={ rep:=(1:Int),num:=(2:Int):Dot },sku:={ data:=#[(65:UInt8)]:ByteArray },qty:=(7:Int):Entry }],seen:={ vec:=[(3:Int),(3:Int)],cloud:=[]:Past },rep:=(0:Int),lim:={ lines:=(2:Int),count:=(4:Int):Limits },act:={ kind:=(1:Int),sku:={ data:=#[(65:UInt8)]:ByteArray },qty:=(9:Int),past:={ vec:=[],cloud:=[]:Past }:Actn }:Wish }.seen { live:=[{ dot:={ rep:=(0:Int),num:=(1:Int):Dot },sku:={ data:=#[(65:UInt8)]:ByteArray },qty:=(5:Int):Entry },{ dot:={ rep:=(1:Int),num:=(2:Int):Dot },sku:={ data:=#[(65:UInt8)]:ByteArray },qty:=(7:Int):Entry }],seen:={ vec:=[(3:Int),(3:Int)],cloud:=[]:Past },rep:=(0:Int),lim:={ lines:=(2:Int),count:=(4:Int):Limits },act:={ kind:=(1:Int),sku:={ data:=#[(65:UInt8)]:ByteArray },qty:=(9:Int),past:={ vec:=[],cloud:=[]:Past }:Actn }:Wish }.rep { live:=[{ dot:={ rep:=(0:Int),num:=(1:Int):Dot },sku:={ data:=#[(65:UInt8)]:ByteArray },qty:=(5:Int):Entry },{ dot:={ rep:=(1:Int),num:=(2:Int):Dot },sku:={ data:=#[(65:UInt8)]:ByteArray },qty:=(7:Int):Entry }],seen:={ vec:=[(3:Int),(3:Int)],cloud:=[]:Past },rep:=(0:Int),lim:={ lines:=(2:Int),count:=(4:Int):Limits },act:={ kind:=(1:Int),sku:={ data:=#[(65:UInt8)]:ByteArray },qty:=(9:Int),past:={ vec:=[],cloud:=[]:Past }:Actn }:Wish }.lim.count).1,sku:={ live:=[{ dot:={ rep:=(0:Int),num:=(1:Int):Dot },sku:={ data:=#[(65:UInt8)]:ByteArray },qty:=(5:Int):Entry },{ dot:={ rep:=(1:Int),num:=(2:Int):Dot },sku:={ data:=#[(65:UInt8)]:ByteArray },qty:=(7:Int):Entry }],seen:={ vec:=[(3:Int),(3:Int)],cloud:=[]:Past },rep:=(0:Int),lim:={ lines:=(2:Int),count:=(4:Int):Limits },act:={ kind:=(1:Int),sku:={ data:=#[(65:UInt8)]:ByteArray },qty:=(9:Int),past:={ vec:=[],cloud:=[]:Past }:Actn }:Wish }.act.sku,qty:={ live:=[{ dot:={ rep:=(0:Int),num:=(1:Int):Dot },sku:={ data:=#[(65:UInt8)]:ByteArray },qty:=(5:Int):Entry },{ dot:={ rep:=(1:Int),num:=(2:Int):Dot },sku:={ data:=#[(65:UInt8)]:ByteArray },qty:=(7:Int):Entry }],seen:={ vec:=[(3:Int),(3:Int)],cloud:=[]:Past },rep:=(0:Int),lim:={ lines:=(2:Int),count:=(4:Int):Limits },act:={ kind:=(1:Int),sku:={ data:=#[(65:UInt8)]:ByteArray },qty:=(9:Int),past:={ vec:=[],cloud:=[]:Past }:Actn }:Wish }.act.qty:Entry }) (oR 19 (c46 { dot:=(U4 { live:=[{ dot:={ rep:=(0:Int),num:=(1:Int):Dot },sku:={ data:=#[(65:UInt8)]:ByteArray },qty:=(5:Int):Entry },{ dot:={ rep:=(1:Int),num:=(2:Int):Dot },sku:={ data:=#[(65:UInt8)]:ByteArray },qty:=(7:Int):Entry }],seen:={ vec:=[(3:Int),(3:Int)],cloud:=[]:Past },rep:=(0:Int),lim:={ lines:=(2:Int),count:=(4:Int):Limits },act:={ kind:=(1:Int),sku:={ data:=#[(65:UInt8)]:ByteArray },qty:=(9:Int),past:={ vec:=[],cloud:=[]:Past }:Actn }:Wish }.seen { live:=[{ dot:={ rep:=(0:Int),num:=(1:Int):Dot },sku:={ data:=#[(65:UInt8)]:ByteArray },qty:=(5:Int):Entry },{ dot:={ rep:=(1:Int),num:=(2:Int):Dot },sku:={ data:=#[(65:UInt8)]:ByteArray },qty:=(7:Int):Entry }],seen:={ vec:=[(3:Int),(3:Int)],cloud:=[]:Past },rep:=(0:Int),lim:={ lines:=(2:Int),count:=(4:Int):Limits },act:={ kind:=(1:Int),sku:={ data:=#[(65:UInt8)]:ByteArray },qty:=(9:Int),past:={ vec:=[],cloud:=[]:Past }:Actn }:Wish }.rep { live:=[{ dot:={ rep:=(0:Int),num:=(1:Int):Dot },sku:={ data:=#[(65:UInt8)]:ByteArray },qty:=(5:Int):Entry },{ dot:={ rep:=(1:Int),num:=(2:Int):Dot },sku:={ data:=#[(65:UInt8)]:ByteArray },qty:=(7:Int):Entry }],seen:={ vec:=[(3:Int),(3:Int)],cloud:=[]:Past },rep:=(0:Int),lim:={ lines:=(2:Int),count:=(4:Int):Limits },act:={ kind:=(1:Int),sku:={ data:=#[(65:UInt8)]:ByteArray },qty:=(9:Int),past:={ vec:=[],cloud:=[]:Past }:Actn }:Wish }.lim.count).1,sku:={ live:=[{ dot:={ rep:=(0:Int),num:=(1:Int):Dot },sku:={ data:=#[(65:UInt8)]:ByteArray },qty:=(5:Int):Entry },{ dot:={ rep:=(1:Int),num:=(2:Int):Dot },sku:={ data:=#[(65:UInt8)]:ByteArray },qty:=(7:Int):Entry }],seen:={ vec:=[(3:Int),(3:Int)],cloud:=[]:Past },rep:=(0:Int),lim:={ lines:=(2:Int),count:=(4:Int):Limits },act:={ kind:=(1:Int),sku:={ data:=#[(65:UInt8)]:ByteArray },qty:=(9:Int),past:={ vec:=[],cloud:=[]:Past }:Actn }:Wish }.act.sku,qty:={ live:=[{ dot:={ rep:=(0:Int),num:=(1:Int):Dot },sku:={ data:=#[(65:UInt8)]:ByteArray },qty:=(5:Int):Entry },{ dot:={ rep:=(1:Int),num:=(2:Int):Dot },sku:={ data:=#[(65:UInt8)]:ByteArray },qty:=(7:Int):Entry }],seen:={ vec:=[(3:Int),(3:Int)],cloud:=[]:Past },rep:=(0:Int),lim:={ lines:=(2:Int),count:=(4:Int):Limits },act:={ kind:=(1:Int),sku:={ data:=#[(65:UInt8)]:ByteArray },qty:=(9:Int),past:={ vec:=[],cloud:=[]:Past }:Actn }:Wish }.act.qty:Entry }) z0)))))))) ?_
 refine sn<|rT ?_
 exact A25 (r:=.b (true)) (obl:=[]) (by kernel_rfl) trivial (A3.refl _)
 case g0=>exact⟨by decide,by decide⟩
 case g1=>exact⟨by decide,by decide⟩
end Go.Proofs.YtphcaholhacnpaaGreat
namespace Go.Proofs.YtphcaholhacnpaaGreat
open Go.E
set_option maxRecDepth 100000
set_option maxHeartbeats 4000000
theorem B0p{p:Past}{d:Dot}:D7 p d=true↔U6 d=true∧inR (C4 [p] d.rep.toNat) d.num:=by
 rw[← K8 p d]
 exact P6 _ d
theorem B59{r n:Int}(h:¬(r < 0∨16≤r))(h1:1≤n)(h2:n≤1000000000):U6 ⟨r,n⟩=true:=by
 unfold U6
 rw[decide_eq_true_iff]
 simp only
 omega
theorem B0q{p:Past}{r:Int}(h:¬(r < 0∨16≤r)){n:Int}(hn:J0 p r < n):¬ D7 p ⟨r,n⟩=true:=by
 intro k
 have k1:=B0p.1 k
 have k2:=k1.1
 unfold U6 at k2
 rw[decide_eq_true_iff]at k2
 simp only at k2
 unfold J0 at hn
 rw[if_neg h]at hn
 rcases A3h (C4 [p] r.toNat)with⟨_,a⟩ | ⟨_,_,_,a⟩
 ·exact a n (by omega) (by omega) k1.2
 ·have:=a n (by omega) (by omega) k1.2
  omega
theorem B7p{p q:Past}{r:Int}(h:¬(r < 0∨16≤r))(k:∀ d,D7 p d=true→D7 q d=true):J0 p r≤J0 q r:=by
 refine Int.not_lt.1 fun c=>?_
 have h1:=A2i q r
 have e:J0 p r=A4i (C4 [p] r.toNat):=by unfold J0;rw[if_neg h]
 rcases A3h (C4 [p] r.toNat)with⟨a,_⟩ | ⟨a,b,a2,_⟩
 ·omega
 ·exact B0q h c (k _ (B0p.2 ⟨B59 h (by omega) (by omega),by rw[e];exact a2⟩))
def B7q(w:Wish)(f:Facts):Prop:=f=default∨(∃ es,f=⟨[],(C3 es).1,[]⟩) ∨
 (∃ s,(s=noneS∨J6 s=true)∧¬ E0 w.act.past=0∧f=⟨[],⟨[],[]⟩,[⟨s,A4 w.act.past⟩]⟩) ∨
 (∃ q old,J6 w.act.sku=true∧1≤q∧q≤1000000∧¬(w.rep < 0∨16≤w.rep)∧J0 w.seen w.rep < 1000000000∧(∀ d,D7 (C3 old).1 d=true→D7 w.seen d=true)∧f=⟨[⟨⟨w.rep,J0 w.seen w.rep+1⟩,w.act.sku,q⟩],(C3 old).1,[]⟩)
theorem A5p(es:List Entry):(C3 es).1=A4 (C3 es).1:=by
 by_cases h:B2 es=0
 ·rw[Y1 h];exact(A2h _).symm
 ·rw[A2l h];exact A3n.symm
theorem one_in{d:Dot}{s:ByteArray}{q:Int}(h:U6 d=true)(g:J6 s=true)(h1:1≤q)(h2:q≤1000000):B2 [⟨d,s,q⟩]=0 :=
 (F8 _).2 ⟨fun e he=>by rw[List.mem_singleton.1 he];exact A8j.2 ⟨h,g,h1,h2⟩,List.pairwise_singleton _ _⟩
theorem B5a{w:Wish}{f:Facts}(h:B7q w f):okF f=true:=by
 rw[Ax4,decide_eq_true_iff]
 rcases h with rfl | ⟨es,rfl⟩ | ⟨s,hs,hz,rfl⟩ | ⟨q,old,g,h1,h2,hr,hl,_,rfl⟩
 ·exact⟨rfl,A3n.symm,rfl⟩
 ·exact⟨rfl,A5p es,rfl⟩
 ·exact⟨rfl,A3n.symm,(Ah5 _).2 ⟨fun r hr=>by rw[List.mem_singleton.1 hr];exact ck_ok.2 ⟨hs,(Av7 _).symm,fun k=>hz ((Aw7 _).1 k)⟩,List.pairwise_singleton _ _⟩⟩
 ·have:=A2i w.seen w.rep
  exact⟨one_in (B59 hr (by omega) (by omega)) g h1 h2,A5p old,rfl⟩
theorem shp_ev{w:Wish}{f:Facts}(h:B7q w f):evE f=0:=by
 have k:=B5a h
 unfold evE
 rw[if_neg (by rw[k];decide)]
 rcases h with rfl | ⟨es,rfl⟩ | ⟨s,hs,hz,rfl⟩ | ⟨q,old,g,h1,h2,hr,hl,hd,rfl⟩
 ·rfl
 ·rfl
 ·rw[if_neg (by simp),if_neg (by simp),if_pos ⟨rfl,rfl,(G9 _).2 A0q⟩]
 ·rw[if_pos ⟨rfl,rfl⟩]
  have:=B7p hr hd
  rw[if_pos]
  show J0 (C3 old).1 w.rep < J0 w.seen w.rep+1
  omega
theorem B7r{w:Wish}{f:Facts}(h:B7q w f):(f.adds.length:Int)=0∨¬ D7 w.seen f.adds[0]!.dot=true:=by
 rcases h with rfl | ⟨es,rfl⟩ | ⟨s,hs,hz,rfl⟩ | ⟨q,old,g,h1,h2,hr,hl,hd,rfl⟩
 ·exact .inl rfl
 ·exact .inl rfl
 ·exact .inl rfl
 ·refine .inr (B0q hr ?_)
  omega
theorem shp_sz{w:Wish}{f:Facts}(h:B7q w f):szF f∧f.recs.length≤1:=by
 have hd:=fun es=>Ay8 es
 have hn:szP ⟨[],[]⟩:=⟨by decide,by decide⟩
 have hdz:∀ es,szP (C3 es).1:=fun es=>by have:=hd es;exact⟨by omega,by omega⟩
 have hq0:szQ []:=fun r hr=>by cases hr
 rcases h with rfl | ⟨es,rfl⟩ | ⟨s,hs,hz,rfl⟩ | ⟨q,old,_,_,_,_,_,_,rfl⟩
 ·exact⟨⟨hn,hq0⟩,by decide⟩
 ·exact⟨⟨hdz es,hq0⟩,Nat.zero_le _⟩
 ·refine⟨⟨hn,fun r hr=>?_⟩,Nat.le_refl _⟩
  rw[List.mem_singleton.1 hr]
  have:=X7 (C4 [w.act.past])
  exact⟨by show(I9 (C4 [w.act.past])).cloud.length*16≤_;omega,by show(I9 (C4 [w.act.past])).vec.length≤_;omega⟩
 ·exact⟨⟨hdz old,hq0⟩,Nat.zero_le _⟩
theorem B3z{live:List Entry}{s:ByteArray}{r:Int}(h:B2 live=0):L3 (live.filter (B0d s r))≤L3 (live.filter (B0d s (-1))):=by
 have hq:∀ e∈live,1≤e.qty:=fun e he=>(Ac0 (A02 h e he)).1
 clear h
 induction live with
 | nil=>exact Int.le_refl _
 | cons e l ih =>
  have ih:=ih fun x hx=>hq x (List.mem_cons_of_mem _ hx)
  have:=hq e (by simp)
  have k:B0d s r e=true→B0d s (-1) e=true:=fun c=>by
   unfold B0d at c ⊢
   rw[decide_eq_true_iff]at c ⊢
   exact⟨c.1,.inl (by omega)⟩
  rw[List.filter_cons,List.filter_cons]
  by_cases a:B0d s r e=true
  ·rw[if_pos a,if_pos (k a)];simp only [L3];omega
  ·rw[if_neg a]
   by_cases b:B0d s (-1) e=true
   ·rw[if_pos b];simp only [L3];omega
   ·rw[if_neg b];exact ih
theorem B0r{w:Wish}{q:Int}{old:List Entry}(h3:¬(w.rep < 0∨16≤w.rep))(hn:w.seen=A4 w.seen)(g:J6 w.act.sku=true)(h1:1≤q)(h2:q≤1000000)(hd:∀ d,D7 (C3 old).1 d=true→D7 w.seen d=true):B7q w (J5 w q old).1:=by
 have e:U4 w.seen w.rep w.lim.count=H6 w.seen w.rep w.lim.count:=by unfold U4;rw[if_neg fun k=>k hn]
 by_cases c:min w.lim.count 1000000000≤J0 w.seen w.rep
 ·have e2:H6 w.seen w.rep w.lim.count=(default,9):=by unfold H6;rw[if_neg h3,if_pos c]
  unfold J5
  rw[e,e2,if_pos (by decide)]
  exact .inl rfl
 ·have e2:H6 w.seen w.rep w.lim.count=(⟨w.rep,J0 w.seen w.rep+1⟩,0):=by unfold H6;rw[if_neg h3,if_neg c]
  unfold J5
  rw[e,e2,if_neg (by simp)]
  have:=A2i w.seen w.rep
  by_cases z:J0 w.seen w.rep < 1000000000
  ·exact .inr (.inr (.inr ⟨q,old,g,h1,h2,h3,z,hd,rfl⟩))
  ·omega
theorem A9a{live:List Entry}{seen:Past}(h:B2 live=0)(hn:seen=A4 seen)(hs:¬ 0 <((D3 live seen false).1.length:Int))(p:Entry→Bool):∀ d,D7 (C3 (live.filter p)).1 d=true→D7 seen d=true:=fun d k=>by
 rw[Y1 (A15 h p)]at k
 obtain⟨e,he,_,rfl⟩:=(A4b h).1 k
 have z:=(G9 _).1 ((B0f h hn).2 hs) e.dot
 rw[A6k]at z
 have h4:D7 (dotS live noneS (-1)) e.dot=true:=(A4b h).2 ⟨e,he,by unfold selB;simp,rfl⟩
 rw[h4]at z
 cases c:D7 seen e.dot with
 | true=>rfl
 | false=>rw[c]at z;cases z
theorem B0s{w:Wish}{s:ByteArray}(hs:s=noneS∨J6 s=true):B7q w (G0 s w.act.past):=by
 unfold G0
 by_cases c:E0 w.act.past=0
 ·rw[if_pos c];exact .inl rfl
 ·rw[if_neg c];exact .inr (.inr (.inl ⟨s,hs,c,rfl⟩))
theorem A72(w:Wish):B7q w (B1 w).1:=by
 by_cases h1:¬ B2 w.live=0∨¬ w.seen=A4 w.seen
 ·rw[B5 h1];exact .inl rfl
 by_cases h2:0 <((D3 w.live w.seen false).1.length:Int)
 ·rw[B6 h1 h2];exact .inl rfl
 by_cases h3:w.rep < 0∨16≤w.rep
 ·rw[C5 h1 h2 h3];exact .inl rfl
 by_cases h4:w.lim.lines < 1∨1000 < w.lim.lines∨w.lim.count < 1∨1000000000 < w.lim.count
 ·rw[C6 h1 h2 h3 h4];exact .inl rfl
 by_cases h5:¬ K6 w.act=0
 ·rw[D0 h1 h2 h3 h4 h5];exact .inl rfl
 rw[G1 h1 h2 h3 h4 h5]
 have hl:=Classical.not_not.1 fun k=>h1 (.inl k)
 have hn:=Classical.not_not.1 fun k=>h1 (.inr k)
 have hd:=A9a hl hn h2
 rcases A2m (Classical.not_not.1 h5)with k | k | k | k | k | k
 ·have g:=T6 h5 (by omega)
  have q:=B0g h5 (.inl k)
  rw[B06 k]
  unfold T3
  by_cases c:A04 w=true
  ·rw[if_pos c];exact .inl rfl
  ·rw[if_neg c,B53 hl g];exact B0r h3 hn g q.1 q.2 (hd _)
 ·have g:=T6 h5 (by omega)
  have q:=B0g h5 (.inr k)
  rw[B07 k]
  unfold M5
  by_cases c:A04 w=true
  ·rw[if_pos c];exact .inl rfl
  ·rw[if_neg c]
   by_cases c2:1000000 <(M3 (ofV w.live w.act.sku).1).1+w.act.qty
   ·rw[if_pos c2];exact .inl rfl
   ·rw[if_neg c2]
    have z:=A14 (E8 w.live w.rep w.act.sku).1
    have y:(M3 (E8 w.live w.rep w.act.sku).1).1≤(M3 (ofV w.live w.act.sku).1).1:=by
     rw[B0h hl g h3,B53 hl g,A03 (A15 hl _),A03 (A15 hl _)]
     exact B3z hl
    rw[B0h hl g h3]at z y ⊢
    exact B0r h3 hn g (by omega) (by omega) (hd _)
 ·rw[B08 k]
  unfold T4
  by_cases c:((ofV w.live w.act.sku).1.length:Int)=0
  ·rw[if_pos c];exact .inl rfl
  ·rw[if_neg c];exact .inr (.inl ⟨_,rfl⟩)
 ·rw[B09 k];exact B0s (.inr (T6 h5 (by omega)))
 ·rw[B0a k];exact .inr (.inl ⟨_,rfl⟩)
 ·rw[B0b k];exact B0s (.inl rfl)
end Go.Proofs.YtphcaholhacnpaaGreat
namespace Go.Proofs.YtphcaholhacnpaaGreat
open Go.E
set_option maxRecDepth 100000
set_option maxHeartbeats 4000000
def H4(s:ByteArray)(e:Entry):Bool:=decide (¬ e.sku=s)
def Y6(a b:List Entry)(s:ByteArray)(i j:Int):Prop:=(a.take i.toNat).filter (H4 s)=(b.take j.toNat).filter (H4 s)
def Ad4(a b:List Entry)(s:ByteArray)(i j:Int):Prop:=0≤i∧i≤a.length∧0≤j∧j≤b.length∧Y6 a b s i j
def decO1(a b:List Entry)(i j:Int):Nat:=(a.length-i+(b.length-j)).toNat
def B7s(a b:List Entry)(s:ByteArray)(i0 j i:Int):Prop:=i0≤i∧Ad4 a b s i j
def decOa(a:List Entry)(i:Int):Nat:=(a.length-i).toNat
def B7t(a b:List Entry)(s:ByteArray)(i j0 j:Int):Prop:=j0≤j∧Ad4 a b s i j
def A4u(s:ByteArray)(p:Past)(e:Entry):Bool:=decide (¬((s=noneS∨e.sku=s)∧D7 p e.dot=true))
def B7u(live l:List Entry)(s:ByteArray)(p:Past)(i j:Int):Prop:=(live.take i.toNat).filter (A4u s p)=l.take j.toNat
def B40(live l:List Entry)(s:ByteArray)(p:Past)(j i:Int)(v:List Int)(c:List Span):Prop:=v=p.vec∧c=p.cloud∧0≤i∧i≤live.length∧0≤j∧j≤l.length∧B7u live l s p i j
def decKp(live:List Entry)(j i:Int)(v:List Int)(c:List Span):Nat:=(live.length-i).toNat
end Go.Proofs.YtphcaholhacnpaaGreat
namespace Go.Proofs.YtphcaholhacnpaaGreat
open Go.E
set_option maxRecDepth 100000
set_option maxHeartbeats 4000000
theorem F6{w:Wish}(h:(B1 w).2=0):B2 w.live=0∧w.seen=A4 w.seen∧¬ 0 <((D3 w.live w.seen false).1.length:Int)∧¬(w.rep < 0∨16≤w.rep)∧K6 w.act=0∧B1 w=A05 w:=by
 by_cases h1:¬ B2 w.live=0∨¬ w.seen=A4 w.seen
 ·rw[B5 h1]at h;cases h
 by_cases h2:0 <((D3 w.live w.seen false).1.length:Int)
 ·rw[B6 h1 h2]at h;cases h
 by_cases h3:w.rep < 0∨16≤w.rep
 ·rw[C5 h1 h2 h3]at h;cases h
 by_cases h4:w.lim.lines < 1∨1000 < w.lim.lines∨w.lim.count < 1∨1000000000 < w.lim.count
 ·rw[C6 h1 h2 h3 h4]at h;cases h
 by_cases h5:¬ K6 w.act=0
 ·rw[D0 h1 h2 h3 h4 h5]at h;exact absurd h h5
 exact⟨Classical.not_not.1 fun k=>h1 (.inl k),Classical.not_not.1 fun k=>h1 (.inr k),h2,h3,Classical.not_not.1 h5,G1 h1 h2 h3 h4 h5⟩
theorem B0t{w:Wish}{q:Int}{old:List Entry}(h:¬(J5 w q old).2=0):(J5 w q old).1=default:=by
 unfold J5 at *
 split
 ·rfl
 ·rename_i k;rw[if_neg k]at h;exact absurd rfl h
theorem B7v{w:Wish}(h:¬(B1 w).2=0):(B1 w).1=default:=by
 by_cases h1:¬ B2 w.live=0∨¬ w.seen=A4 w.seen
 ·rw[B5 h1]
 by_cases h2:0 <((D3 w.live w.seen false).1.length:Int)
 ·rw[B6 h1 h2]
 by_cases h3:w.rep < 0∨16≤w.rep
 ·rw[C5 h1 h2 h3]
 by_cases h4:w.lim.lines < 1∨1000 < w.lim.lines∨w.lim.count < 1∨1000000000 < w.lim.count
 ·rw[C6 h1 h2 h3 h4]
 by_cases h5:¬ K6 w.act=0
 ·rw[D0 h1 h2 h3 h4 h5]
 rw[G1 h1 h2 h3 h4 h5]at h ⊢
 rcases A2m (Classical.not_not.1 h5)with k | k | k | k | k | k
 ·rw[B06 k]at h ⊢
  unfold T3 at *
  by_cases c:A04 w=true
  ·rw[if_pos c]
  ·rw[if_neg c]at h ⊢;exact B0t h
 ·rw[B07 k]at h ⊢
  unfold M5 at *
  by_cases c:A04 w=true
  ·rw[if_pos c]
  ·rw[if_neg c]at h ⊢
   by_cases c2:1000000 <(M3 (ofV w.live w.act.sku).1).1+w.act.qty
   ·rw[if_pos c2]
   ·rw[if_neg c2]at h ⊢;exact B0t h
 ·rw[B08 k]at h ⊢
  unfold T4 at *
  by_cases c:((ofV w.live w.act.sku).1.length:Int)=0
  ·rw[if_pos c]
  ·rw[if_neg c]at h;exact absurd rfl h
 ·rw[B09 k]at h;exact absurd rfl h
 ·rw[B0a k]at h;exact absurd rfl h
 ·rw[B0b k]at h;exact absurd rfl h
theorem A06{w:Wish}(h:(B1 w).2=0):∃ L,C8 w.live (B1 w).1=(L,0)∧S9 L∧∀ e,e∈L↔(e∈w.live∧A18 (B1 w).1 e)∨e∈(B1 w).1.adds:=by
 obtain⟨hl,hn,hs,_,_,_⟩:=F6 h
 have ok:=B5a (A72 w)
 have ev:=shp_ev (A72 w)
 have nw:=B7r (A72 w)
 have seen:∀ e∈w.live,D7 w.seen e.dot=true:=fun e he=>by
  have z:=A9a hl hn hs (fun _=>true) e.dot
  rw[List.filter_eq_self.2 (fun _ _=>rfl),Y1 hl]at z
  exact z ((B4p _ _).2 ⟨B0e (A02 hl e he),List.mem_map.2 ⟨e,he,rfl⟩⟩)
 generalize (B1 w).1=F at ok ev nw
 have hF:=(F8 _).1 (A4g ok).1
 have a1:=(A2n ev).2.1
 have dif:∀ x∈w.live,∀ y∈F.adds,¬ x.dot=y.dot:=fun x hx y hy hd=>by
  have e:F.adds[0]! = y:=by
   match hq:F.adds,a1,hy with
   | [z],_,hy=>rw[List.mem_singleton.1 hy];rfl
  rcases nw with nw | nw
  ·have:=List.length_pos_of_mem hy;omega
  ·rw[e,← hd]at nw
   exact nw (seen x hx)
 have ag:B57 (Ao7 w.live F) F.adds:=fun x hx y hy hd=>absurd hd (dif x (Ak0.1 hx).1 y hy)
 obtain⟨L,e1,e2,e3⟩:=B0n (B0o (f:=F) ((F8 _).1 hl)) hF ag
 refine⟨L,?_,e2,fun e=>by rw[e3,Ak0]⟩
 rw[A98 (fun k=>k.elim (fun k=>k hl) fun k=>k ok) ev ?_,e1]
 intro k
 unfold A17 at k
 obtain⟨y,hy,k⟩:=List.any_eq_true.1 k
 have k:(J4 w.live y.dot).2=true:=k
 unfold J4 at k
 split at k
 ·rename_i z hz
  exact dif z (List.mem_of_find?_eq_some hz) y hy (by have:=List.find?_some hz;simpa using this)
 ·cases k
theorem I2{l:List Entry}(h:S9 l)(p:Entry→Bool):S9 (l.filter p):=R1 h List.filter_sublist
theorem A19{live:List Entry}(h:B2 live=0){p:Entry→Bool}{e:Entry}(he:e∈live):D7 (C3 (live.filter p)).1 e.dot=true↔p e=true:=by
 rw[Y1 (A15 h p),A4b h]
 constructor
 ·rintro⟨x,hx,hp,hd⟩
  have:=A40 ((F8 _).1 h) hx he hd
  rw[← this];exact hp
 ·intro hp
  exact⟨e,he,hp,rfl⟩
theorem W2{g:Past}{a:List Entry}{e:Entry}:A18 ⟨a,g,[]⟩ e↔¬ D7 g e.dot=true:=by
 unfold A18
 exact⟨fun h=>h.1,fun h=>⟨h,by simp [M6]⟩⟩
theorem B41{s:ByteArray}{p:Past}{e:Entry}:A18 (G0 s p) e↔¬((s=noneS∨e.sku=s)∧D7 p e.dot=true):=by
 unfold G0
 by_cases c:E0 p=0
 ·rw[if_pos c]
  have hz:D7 p e.dot=false:=(G9 p).1 c e.dot
  have:A18 default e:=⟨by show ¬ D7 ⟨[],[]⟩ e.dot=true;rw[A0q];decide,by rfl⟩
  exact⟨fun _ k=>by rw[hz]at k;exact absurd k.2 (by decide),fun _=>this⟩
 ·rw[if_neg c]
  unfold A18
  rw[A4f]
  constructor
  ·rintro⟨_,h⟩ ⟨k1,k2⟩
   exact h ⟨⟨s,A4 p⟩,List.mem_singleton.2 rfl,W1.2 ⟨k1.imp id Eq.symm,by rw[K8];exact k2⟩⟩
  ·intro h
   refine⟨by show ¬ D7 ⟨[],[]⟩ e.dot=true;rw[A0q];decide,?_⟩
   rintro⟨r,hr,k⟩
   rw[List.mem_singleton.1 hr]at k
   obtain⟨k1,k2⟩:=W1.1 k
   rw[K8]at k2
   exact h ⟨k1.imp id Eq.symm,k2⟩
theorem B42(s:ByteArray)(p:Past):(G0 s p).adds=[]:=by unfold G0;split <;> rfl
theorem T9{L:List Entry}{s:ByteArray}(h:B2 L=0)(g:J6 s=true):(B4 L s).2=0∧(B4 L s).1.qty=L3 (F2 L s)∧(B4 L s).1.parts=(F2 L s).length:=by
 unfold B4
 rw[if_pos h,if_pos g]
 by_cases c:F2 L s=[]
 ·rw[if_pos c,c];exact⟨rfl,rfl,rfl⟩
 ·rw[if_neg c];exact⟨rfl,rfl,rfl⟩
theorem B5b{l:List Entry}(h:upE l):l.Nodup:=h.imp fun {a b} hab e=>by rw[e]at hab;exact A1s _ hab
theorem B7w{p:Past}{r c:Int}(h:(U4 p r c).2=0):(U4 p r c).1.rep=r:=by
 unfold U4 H6 at *
 split at h
 ·cases h
 ·rename_i h1
  rw[if_neg h1]
  split at h
  ·cases h
  ·rename_i h2
   rw[if_neg h2]
   split at h
   ·cases h
   ·rename_i h3
    rw[if_neg h3]
theorem A9b{l:List Entry}{x:Entry}(h:S9 l)(hm:∀ e,e∈l↔e=x):l=[x] :=
 R2 h.2 (List.pairwise_singleton _ _) fun e=>by rw[hm,List.mem_singleton]
theorem A9c(q:Entry→Bool):∀ l:List Entry,L3 l=L3 (l.filter q)+L3 (l.filter fun e=>!q e)
 | []=>rfl
 | e :: l=>by
  have ih:=A9c q l
  by_cases c:q e=true
  ·rw[List.filter_cons_of_pos c,List.filter_cons_of_neg (by rw[c];decide)]
   simp only [L3]
   omega
  ·rw[List.filter_cons_of_neg c,List.filter_cons_of_pos (by simp [c])]
   simp only [L3]
   omega
theorem B43{w:Wish}(h:(B1 w).2=0)(k:w.act.kind=5){L:List Entry}(hm:∀ e,e∈L↔(e∈w.live∧A18 (B1 w).1 e)∨e∈(B1 w).1.adds):L=[]:=by
 obtain⟨hl,_,_,_,_,e⟩:=F6 h
 rw[e,B0a k]at hm
 refine List.eq_nil_iff_forall_not_mem.2 fun x hx=>?_
 rcases(hm x).1 hx with⟨a,b⟩ | a
 ·refine W2.1 b ?_
  have:=(A19 (p:=fun _=>true) hl a).2 rfl
  rwa [List.filter_eq_self.2 (fun _ _=>rfl)]at this
 ·cases a
theorem B5c{w:Wish}{L:List Entry}{s:ByteArray}(hl:B2 w.live=0)(hf:S9 L)(hm:∀ e,e∈L↔(e∈w.live∧A18 (G0 s w.act.past) e)∨e∈(G0 s w.act.past).adds):w.live.filter (A4u s w.act.past)=L:=by
 refine R2 (I2 ((F8 _).1 hl) _).2 hf.2 fun e=>?_
 rw[hm,B42,List.mem_filter,B41]
 unfold A4u
 rw[decide_eq_true_iff]
 constructor
 ·exact .inl
 ·rintro(h | h)
  ·exact h
  ·cases h
theorem A4v{s:ByteArray}{e:Entry}:H4 s e=true↔¬ e.sku=s:=by unfold H4;rw[decide_eq_true_iff]
theorem B0u{w:Wish}(h:(B1 w).2=0)(k:w.act.kind=3){L:List Entry}(hf:S9 L)(hm:∀ e,e∈L↔(e∈w.live∧A18 (B1 w).1 e)∨e∈(B1 w).1.adds) :
  0 <((F2 w.live w.act.sku).length:Int)∧F2 L w.act.sku=[]∧w.live.filter (H4 w.act.sku)=L.filter (H4 w.act.sku):=by
 obtain⟨hl,_,_,_,ha,e⟩:=F6 h
 have g:=T6 (fun q=>q ha) (by omega)
 rw[e,B08 k]at hm h
 have ho:(ofV w.live w.act.sku).1=w.live.filter (fun e=>decide (e.sku=w.act.sku)):=by rw[A5h hl g]
 unfold T4 at hm h
 by_cases c:((ofV w.live w.act.sku).1.length:Int)=0
 ·rw[if_pos c]at h;cases h
 rw[if_neg c]at hm
 have hm:∀ e,e∈L↔e∈w.live∧¬ e.sku=w.act.sku:=fun e=>by
  rw[hm]
  constructor
  ·rintro(⟨a,b⟩ | a)
   ·refine⟨a,fun q=>W2.1 b ?_⟩
    rw[ho]
    exact(A19 hl a).2 (decide_eq_true q)
   ·cases a
  ·rintro⟨a,b⟩
   refine .inl ⟨a,W2.2 fun q=>b ?_⟩
   rw[ho]at q
   exact of_decide_eq_true ((A19 hl a).1 q)
 refine⟨?_,A8m fun e he=>((hm e).1 he).2,?_⟩
 ·rw[ho]at c
  unfold F2
  omega
 ·refine R2 (I2 ((F8 _).1 hl) _).2 (I2 hf _).2 fun e=>?_
  rw[List.mem_filter,List.mem_filter,hm,A4v]
  exact⟨fun q=>⟨⟨q.1,q.2⟩,q.2⟩,fun q=>⟨q.1.1,q.2⟩⟩
theorem B5d{w:Wish}{q:Int}{p:Entry→Bool}(h:(J5 w q (w.live.filter p)).2=0)(hl:B2 w.live=0)(hr:¬(w.rep < 0∨16≤w.rep))(g:J6 w.act.sku=true){L:List Entry}(hf:S9 L)
  (hs:∀ e∈w.live,p e=true→e.sku=w.act.sku) (ho:∀ e∈w.live,e.sku=w.act.sku→e.dot.rep=w.rep→p e=true)
  (hm:∀ e,e∈L↔(e∈w.live∧A18 (J5 w q (w.live.filter p)).1 e)∨e∈(J5 w q (w.live.filter p)).1.adds) :
  ((E8 L w.rep w.act.sku).1.length:Int)=1∧w.live.filter (H4 w.act.sku)=L.filter (H4 w.act.sku)∧L3 (F2 L w.act.sku)+L3 (w.live.filter p)=L3 (F2 w.live w.act.sku)+q ∧
   ((∀ e∈w.live,e.sku=w.act.sku→p e=true)→((F2 L w.act.sku).length:Int)=1):=by
 unfold J5 at h hm
 by_cases c:¬(U4 w.seen w.rep w.lim.count).2=0
 ·rw[if_pos c]at h;exact absurd h c
 rw[if_neg c]at hm
 have hd:(U4 w.seen w.rep w.lim.count).1.rep=w.rep:=B7w (Classical.not_not.1 c)
 generalize hx:(⟨(U4 w.seen w.rep w.lim.count).1,w.act.sku,q⟩:Entry)=x at hm
 have xr:x.dot.rep=w.rep:=by rw[← hx];exact hd
 have xs:x.sku=w.act.sku:=by rw[← hx]
 have xq:x.qty=q:=by rw[← hx]
 have hm:∀ e,e∈L↔(e∈w.live∧¬ p e=true)∨e=x:=fun e=>by
  rw[hm]
  constructor
  ·rintro(⟨a,b⟩ | a)
   ·exact .inl ⟨a,fun z=>W2.1 b ((A19 hl a).2 z)⟩
   ·exact .inr (List.mem_singleton.1 a)
  ·rintro(⟨a,b⟩ | a)
   ·exact .inl ⟨a,W2.2 fun z=>b ((A19 hl a).1 z)⟩
   ·exact .inr (List.mem_singleton.2 a)
 have fl:=(F8 _).1 hl
 have xl:¬(x∈w.live∧¬ p x=true):=fun z=>z.2 (ho x z.1 xs xr)
 refine⟨?_,?_,?_,?_⟩
 ·rw[A1q ((F8 _).2 hf) hr g]
  have:L.filter (fun e=>decide (e.sku=w.act.sku∧e.dot.rep=w.rep))=[x]:=A9b (I2 hf _) fun e=>by
   rw[List.mem_filter,hm,decide_eq_true_iff]
   constructor
   ·rintro⟨⟨a,b⟩ | a,z⟩
    ·exact absurd (ho e a z.1 z.2) b
    ·exact a
   ·rintro rfl
    exact⟨.inr rfl,xs,xr⟩
  rw[this]
  rfl
 ·refine R2 (I2 fl _).2 (I2 hf _).2 fun e=>?_
  rw[List.mem_filter,List.mem_filter,hm,A4v]
  constructor
  ·rintro⟨a,b⟩
   exact⟨.inl ⟨a,fun z=>b (hs e a z)⟩,b⟩
  ·rintro⟨⟨a,_⟩ | a,b⟩
   ·exact⟨a,b⟩
   ·rw[a]at b;exact absurd xs b
 ·have pm:(F2 L w.act.sku).Perm ((F2 w.live w.act.sku).filter (fun e=>!p e)++[x]):=by
   unfold F2
   refine(List.perm_ext_iff_of_nodup (B5b (I2 hf _).2) ?_).2 fun e=>?_
   ·rw[List.nodup_append]
    refine⟨B5b (I2 (I2 fl _) _).2,List.pairwise_singleton _ _,fun a ha b hb e=>?_⟩
    rw[List.mem_singleton.1 hb]at e
    rw[e]at ha
    have h1:=List.mem_filter.1 ha
    exact xl ⟨(List.mem_filter.1 h1.1).1,by have:=h1.2;simpa using this⟩
   ·rw[List.mem_filter,hm,List.mem_append,List.mem_filter,List.mem_filter,List.mem_singleton,decide_eq_true_iff]
    constructor
    ·rintro⟨⟨a,b⟩ | a,z⟩
     ·exact .inl ⟨⟨a,z⟩,by simp [b]⟩
     ·exact .inr a
    ·rintro(⟨⟨a,z⟩,b⟩ | rfl)
     ·exact⟨.inl ⟨a,by simpa using b⟩,z⟩
     ·exact⟨.inr rfl,xs⟩
  have e1:=Ax8 pm
  rw[A6q]at e1
  have e2:=A9c p (F2 w.live w.act.sku)
  have e3:(F2 w.live w.act.sku).filter p=w.live.filter p:=by
   unfold F2
   rw[List.filter_filter]
   refine List.filter_congr fun e he=>?_
   by_cases z:p e=true
   ·simp [z,hs e he z]
   ·simp [z]
  rw[e3]at e2
  have e4:L3 [x]=q:=by simp [L3,xq]
  omega
 ·intro hall
  have:F2 L w.act.sku=[x]:=A9b (I2 hf _) fun e=>by
   unfold F2
   rw[List.mem_filter,hm,decide_eq_true_iff]
   constructor
   ·rintro⟨⟨a,b⟩ | a,z⟩
    ·exact absurd (hall e a z) b
    ·exact a
   ·rintro rfl
    exact⟨.inr rfl,xs⟩
  rw[this]
  rfl
theorem rd_set{w:Wish}(h:(B1 w).2=0)(k:w.act.kind=1){L:List Entry}(hf:S9 L)(hm:∀ e,e∈L↔(e∈w.live∧A18 (B1 w).1 e)∨e∈(B1 w).1.adds) :
  ((E8 L w.rep w.act.sku).1.length:Int)=1∧w.live.filter (H4 w.act.sku)=L.filter (H4 w.act.sku)∧L3 (F2 L w.act.sku)=w.act.qty∧((F2 L w.act.sku).length:Int)=1:=by
 obtain⟨hl,_,_,hr,ha,e⟩:=F6 h
 have g:=T6 (fun q=>q ha) (by omega)
 have ho:(ofV w.live w.act.sku).1=w.live.filter (fun e=>decide (e.sku=w.act.sku)):=by rw[A5h hl g]
 rw[e,B06 k]at hm h
 unfold T3 at hm h
 by_cases c:A04 w=true
 ·rw[if_pos c]at h;cases h
 rw[if_neg c,ho]at hm h
 obtain⟨z1,z2,z3,z4⟩:=B5d h hl hr g hf (fun e _ q=>of_decide_eq_true q) (fun e _ q _=>decide_eq_true q) hm
 have z3:L3 (F2 L w.act.sku)+L3 (F2 w.live w.act.sku)=L3 (F2 w.live w.act.sku)+w.act.qty:=z3
 exact⟨z1,z2,by omega,z4 fun e _ q=>decide_eq_true q⟩
theorem rd_add{w:Wish}(h:(B1 w).2=0)(k:w.act.kind=2){L:List Entry}(hf:S9 L)(hm:∀ e,e∈L↔(e∈w.live∧A18 (B1 w).1 e)∨e∈(B1 w).1.adds) :
  ((E8 L w.rep w.act.sku).1.length:Int)=1∧w.live.filter (H4 w.act.sku)=L.filter (H4 w.act.sku)∧L3 (F2 L w.act.sku)=L3 (F2 w.live w.act.sku)+w.act.qty:=by
 obtain⟨hl,_,_,hr,ha,e⟩:=F6 h
 have g:=T6 (fun q=>q ha) (by omega)
 have ho:(E8 w.live w.rep w.act.sku).1=w.live.filter (fun e=>decide (e.sku=w.act.sku∧e.dot.rep=w.rep)):=by rw[A1q hl hr g]
 rw[e,B07 k]at hm h
 unfold M5 at hm h
 by_cases c:A04 w=true
 ·rw[if_pos c]at h;cases h
 rw[if_neg c]at hm h
 by_cases c2:1000000 <(M3 (ofV w.live w.act.sku).1).1+w.act.qty
 ·rw[if_pos c2]at h;cases h
 rw[if_neg c2,ho,A03 (A15 hl _)]at hm h
 obtain⟨z1,z2,z3,_⟩:=B5d h hl hr g hf (fun e _ q=>(of_decide_eq_true q).1) (fun e _ q q'=>decide_eq_true ⟨q,q'⟩) hm
 exact⟨z1,z2,by simp only at z3;omega⟩
theorem B0v{w:Wish}(h:(B1 w).2=0):(C8 w.live (B1 w).1).2=0∧B2 (C8 w.live (B1 w).1).1=0:=by
 obtain⟨L,e1,e2,_⟩:=A06 h
 rw[e1]
 exact⟨rfl,(F8 _).2 e2⟩
theorem B44{es:List Entry}{s:ByteArray}(h:B2 es=0):0≤L3 (F2 es s)∧L3 (F2 es s)≤1000000*es.length:=by
 have k:=R0 (l:=F2 es s) fun e he=>A02 h e (List.mem_filter.1 he).1
 have:(F2 es s).length≤es.length:=List.length_filter_le _ _
 omega
end Go.Proofs.YtphcaholhacnpaaGreat
