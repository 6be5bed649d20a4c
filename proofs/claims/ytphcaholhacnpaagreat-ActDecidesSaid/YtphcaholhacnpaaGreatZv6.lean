/- Dd: act: the document's Decide. Conditions: sizes. Ea: act.Effect, the document's Effect. Conditions: sizes. Eb: the law of Effect. Conditions: sizes. Tv: the document's Check, Less, Within, Order, Copy, Equal. Conditions: sizes. De: the law of Decide. Conditions: sizes. Dq: act: what Decide answers is an event, whose add is new. Conditions: none. Df: the law of Decide. Conditions: sizes. EN: from a law's contract to its row: 'for every input it answers true, and the input reads as it did'. Conditions: none named, none written. Wx: what is handed in, by its types. Conditions: none. Wy: what is handed in, by its types (acts, facts). Conditions: none. Qj: facts of the program that every row asks for, each by itself. Conditions: none. -/
import Derived.Below
import Derived.OwnWalk
import Derived.WalkKit
import Derived.KernelRfl
import Derived.Laws.MakeOwn
import Derived.Laws.OwnMore
import Derived.Laws.Slices
import Derived.Laws.CopyOwn
import Derived.Laws.AppendOwnNone
import Derived.Laws.Rows
import Derived.Orders
import Derived.Test.YtphcaholhacnpaaGreatProg
import Derived.DataReads
import Derived.ChangeOld
import Derived.DataElems
import Derived.SizedLaws
import Derived.ChangeKeysEq
import Derived.Sort.LotA
import Derived.Shelf.SlSortFuncK.RowK2
import Derived.Shelf.SlSortCmp.NoneTotal
import Derived.Lib.Walk
import Derived.Shelf.SlLaysE0
import Derived.Shelf.RegionOpenPlain
import Derived.Deep.LoopGhost
import Derived.Lib.SliceRun
import Derived.Lib.Bytealg
import Derived.BigQuiet
import Derived.Shelf.SlSortFuncK.WholeK
import Derived.Shelf.GgSortFunc.Tiny
import Derived.Maps.RangeRun
import Derived.Shelf.SlSortFuncK.SWK
import Derived.Deep.Cut
import Derived.Deep.CutRange
import Derived.Deep.DeepCutAuto
import Derived.Lib.ReflectliteSwap
import Derived.Laws.Externs
import Derived.Lib.ReflectliteSlice
import Derived.Lib.AppendZeros
import Derived.ProofKit
import Derived.JoinedCond
import Derived.Deep.CondSized
import Derived.Test.YtphcaholhacnpaaGreatRows
import Derived.Test.YtphcaholhacnpaaGreatZv5
set_option linter.unusedVariables false
set_option linter.unusedSimpArgs false
namespace Go.Proofs.YtphcaholhacnpaaGreat
open Go.E
set_option maxRecDepth 100000
set_option maxHeartbeats 4000000
theorem cl8{n:Nat}(h:n≤8000000000):n*16≤140737488350000:=by omega
theorem B2s(w:Wish)(hs:w.live.length*40≤140737488351232)(hb:szP w.seen)(hp:szP w.act.past):Con Tryz.prog 14 [.sl (w.live.map c46),.agg (c26 w.seen),.i .i64 w.rep,.agg (c28 w.lim),.agg (c30 w.act)] (.tup [.agg (c36 (B4 w).1),.i .i64 (B4 w).2]) :=
 by
 refine sC B3 [.cell 10 36,.tmp 11] 165 Tryz.func14 ?_
 intro e0 cx
 refine sq<|rG cx [0,2,6,8,9,10] [6,8,9,10] z0<|sn<|sq<|sq<|A9 (σ':=⟨[(0,.sl (List.map c46 w.live)),(2,.i .i64 (w.rep)),(6,.ptr (6) (0) (0) (0)),(8,.ptr (8) (0) (0) (0)),(9,.ptr (9) (0) (0) (0)),(10,.ptr (10) (0) (0) (0)),(31,.b (decide (¬C1 w.live=0∨¬w.seen=A6 w.seen∨¬C6 (E2 (G3 w.live { data:=#[]:ByteArray } (-1:Int)) w.seen)=0)))],[(6,⟨0,26,.var [.sl (List.map c3 w.seen.vec),.sl (List.map B1 w.seen.cloud)]⟩),(8,⟨0,28,.var [.i .i64 (w.lim.lines),.i .i64 (w.lim.count)]⟩),(9,⟨0,30,.var [.i .i64 (w.act.kind),.s (w.act.sku),.i .i64 (w.act.qty),.sl (List.map c3 w.act.past.vec),.sl (List.map B1 w.act.past.cloud)]⟩),(10,⟨0,36,.var [.nl,.nl,.nl,.nl]⟩)]⟩) ?_ ?_
 refine A4 (¬C1 w.live=0) (fun h1=>?_) (fun h1=>?_)
 refine ra (A:=_∧_∧(AV.b true=AV.b (decide (¬C1 w.live=0∨¬w.seen=A6 w.seen∨¬C6 (E2 (G3 w.live { data:=#[]:ByteArray } (-1:Int)) w.seen)=0)))) cx [(1,{ val:=some (.b (decide (C1 w.live=0))),tell:=some (.b (false)) }),(14,{ tell:=some (.b (decide (¬C1 w.live=0∨¬w.seen=A6 w.seen∨¬C6 (E2 (G3 w.live { data:=#[]:ByteArray } (-1:Int)) w.seen)=0))) })] [0,2,6,8,9,10,31] [6,8,9,10] ⟨(A0 h1),(Au7 (w.live)),(by simp only [eq_false h1,tsl])⟩ ?_
 exact⟨rfl,by kernel_rfl⟩
 refine A4 (¬w.seen=A6 w.seen) (fun h2=>?_) (fun h2=>?_)
 refine ra (A:=_∧((AV.b !decide (C1 w.live=0))=AV.b (decide ¬C1 w.live=0))∧_∧_∧_∧(AV.b true=AV.b (decide (¬C1 w.live=0∨¬w.seen=A6 w.seen∨¬C6 (E2 (G3 w.live { data:=#[]:ByteArray } (-1:Int)) w.seen)=0)))) cx [(1,{ val:=some (A95 (Au7 (w.live))) }),(2,{ tell:=some (.b (decide ¬C1 w.live=0)) }),(3,{ tell:=some (.b (false)) }),(5,{ val:=some (.b (decide (w.seen=A6 w.seen))),tell:=some (.b (false)) }),(14,{ tell:=some (.b (decide (¬C1 w.live=0∨¬w.seen=A6 w.seen∨¬C6 (E2 (G3 w.live { data:=#[]:ByteArray } (-1:Int)) w.seen)=0))) })] [0,2,6,8,9,10,31] [6,8,9,10] ⟨(Au7 (w.live)),(A2l),(A0 h1),(A0 h2),(Au1 (w.seen) (by exact hb.1) (by exact hb.2)),(by first | (simp only [eq_false h1,eq_false h2,tsl];done) | simp_all)⟩ ?_
 exact⟨rfl,by kernel_rfl⟩
 refine rA cx [0,2,6,8,9,10,31] [6,8,9,10] (fT (Au7 (w.live)) (tQ 2 (C1 w.live=0) (tT 3 (A0 h1) (fT (Au1 (w.seen) (by exact hb.1) (by exact hb.2)) (tQ 6 (w.seen=A6 w.seen) (tT 7 (A0 h2) (fT (Al3 (w.live) ({ data:=#[]:ByteArray }) ((-1:Int)) (by(with_reducible assumption))) (fT (con46 (G3 w.live { data:=#[]:ByteArray } (-1:Int)) (w.seen) (by exact cl8 (A0i _).1) (by exact hb.1)) (tQ 13 (C6 (E2 (G3 w.live { data:=#[]:ByteArray } (-1:Int)) w.seen)=0) (tT 14 (by first | (simp only [eq_false h1,eq_false h2,tsl];done) | simp_all:AV.b (decide ¬C6 (E2 (G3 w.live { data:=#[]:ByteArray } (-1:Int)) w.seen)=0)=AV.b (decide (¬C1 w.live=0∨¬w.seen=A6 w.seen∨¬C6 (E2 (G3 w.live { data:=#[]:ByteArray } (-1:Int)) w.seen)=0))) (oA 1 (A95 (Au7 (w.live))) (oA 5 (.b (decide (w.seen=A6 w.seen))) (oA 10 (.agg [.sl (List.map c3 (G3 w.live { data:=#[]:ByteArray } (-1:Int)).vec),.sl (List.map B1 (G3 w.live { data:=#[]:ByteArray } (-1:Int)).cloud)]) (oA 12 (.b (decide (C6 (E2 (G3 w.live { data:=#[]:ByteArray } (-1:Int)) w.seen)=0))) z0)))))))))))))) ?_
 exact⟨rfl,by kernel_rfl⟩
 refine sn<|dC (¬C1 w.live=0∨¬w.seen=A6 w.seen∨¬C6 (E2 (G3 w.live { data:=#[]:ByteArray } (-1:Int)) w.seen)=0) (fun hh3=>?_) fun hh3=>?_
 refine sq<|rG cx [10,11] [10] z0<|sn<|rT<|nR<|qR (.tup [.agg [.nl,.nl,.nl,.nl],.i .i64 ((1:Int))]) (A5.tup (ZLe.cons (A5.agg (ZLe.cons (A5.nl' (show List.map c46 (B4 w).1.adds=[]from(by rw[A3y hh3];rfl))) (ZLe.cons (A5.nl' (show List.map c3 (B4 w).1.gone.vec=[]from(by rw[A3y hh3];rfl))) (ZLe.cons (A5.nl' (show List.map B1 (B4 w).1.gone.cloud=[]from(by rw[A3y hh3];rfl))) (ZLe.cons (A5.nl' (show List.map c54 (B4 w).1.recs=[]from(by rw[A3y hh3];rfl))) ZLe.nil))))) (ZLe.cons (A5.eq (show AV.i .i64 1=AV.i .i64 (B4 w).2 from(by rw[A3y hh3]))) ZLe.nil)))
 refine sK<|sn<|sq<|sq<|A9 (σ':=⟨[(0,.sl (List.map c46 w.live)),(2,.i .i64 (w.rep)),(6,.ptr (6) (0) (0) (0)),(8,.ptr (8) (0) (0) (0)),(9,.ptr (9) (0) (0) (0)),(10,.ptr (10) (0) (0) (0)),(38,.b (decide (w.rep <(0:Int)∨16≤w.rep)))],[(6,⟨0,26,.var [.sl (List.map c3 w.seen.vec),.sl (List.map B1 w.seen.cloud)]⟩),(8,⟨0,28,.var [.i .i64 (w.lim.lines),.i .i64 (w.lim.count)]⟩),(9,⟨0,30,.var [.i .i64 (w.act.kind),.s (w.act.sku),.i .i64 (w.act.qty),.sl (List.map c3 w.act.past.vec),.sl (List.map B1 w.act.past.cloud)]⟩),(10,⟨0,36,.var [.nl,.nl,.nl,.nl]⟩)]⟩) ?_ ?_
 refine A4 (w.rep <(0:Int)) (fun h_5=>?_) (fun h_5=>?_)
 refine rG cx [0,2,6,8,9,10,38] [6,8,9,10] (tT 1 (A3 h_5) (tD 5 true (w.rep <(0:Int)∨16≤w.rep) (by simp only [eq_true h_5,tsl]) z0)) ?_
 exact⟨rfl,by kernel_rfl⟩
 refine rG cx [0,2,6,8,9,10,38] [6,8,9,10] (tT 1 (A0 h_5) (tB 4 (16≤w.rep) (tD 5 (decide (16≤w.rep)) (w.rep <(0:Int)∨16≤w.rep) (by simp only [eq_false h_5,tsl]) z0))) ?_
 exact⟨rfl,by kernel_rfl⟩
 refine sn<|dC (w.rep <(0:Int)∨16≤w.rep) (fun h6=>?_) fun h6=>?_
 refine sq<|rG cx [10,11] [10] z0<|sn<|rT<|nR<|qR (.tup [.agg [.nl,.nl,.nl,.nl],.i .i64 ((3:Int))]) (A5.tup (ZLe.cons (A5.agg (ZLe.cons (A5.nl' (show List.map c46 (B4 w).1.adds=[]from(by rw[C9 (B5 hh3).2.1 (B5 hh3).2.2 h6];rfl))) (ZLe.cons (A5.nl' (show List.map c3 (B4 w).1.gone.vec=[]from(by rw[C9 (B5 hh3).2.1 (B5 hh3).2.2 h6];rfl))) (ZLe.cons (A5.nl' (show List.map B1 (B4 w).1.gone.cloud=[]from(by rw[C9 (B5 hh3).2.1 (B5 hh3).2.2 h6];rfl))) (ZLe.cons (A5.nl' (show List.map c54 (B4 w).1.recs=[]from(by rw[C9 (B5 hh3).2.1 (B5 hh3).2.2 h6];rfl))) ZLe.nil))))) (ZLe.cons (A5.eq (show AV.i .i64 3=AV.i .i64 (B4 w).2 from(by rw[C9 (B5 hh3).2.1 (B5 hh3).2.2 h6]))) ZLe.nil)))
 refine sK<|sn<|sq<|sq<|A9 (σ':=⟨[(0,.sl (List.map c46 w.live)),(2,.i .i64 (w.rep)),(6,.ptr (6) (0) (0) (0)),(8,.ptr (8) (0) (0) (0)),(9,.ptr (9) (0) (0) (0)),(10,.ptr (10) (0) (0) (0)),(57,.b (decide (w.lim.lines <(1:Int)∨(1000:Int) < w.lim.lines∨w.lim.count <(1:Int)∨(1000000000:Int) < w.lim.count)))],[(6,⟨0,26,.var [.sl (List.map c3 w.seen.vec),.sl (List.map B1 w.seen.cloud)]⟩),(8,⟨0,28,.var [.i .i64 (w.lim.lines),.i .i64 (w.lim.count)]⟩),(9,⟨0,30,.var [.i .i64 (w.act.kind),.s (w.act.sku),.i .i64 (w.act.qty),.sl (List.map c3 w.act.past.vec),.sl (List.map B1 w.act.past.cloud)]⟩),(10,⟨0,36,.var [.nl,.nl,.nl,.nl]⟩)]⟩) ?_ ?_
 refine A4 (w.lim.lines <(1:Int)) (fun h_8=>?_) (fun h_8=>?_)
 refine rG cx [0,2,6,8,9,10,57] [6,8,9,10] (tT 2 (A3 h_8) (tD 17 true (w.lim.lines <(1:Int)∨(1000:Int) < w.lim.lines∨w.lim.count <(1:Int)∨(1000000000:Int) < w.lim.count) (by simp only [eq_true h_8,tsl]) z0)) ?_
 exact⟨rfl,by kernel_rfl⟩
 refine A4 ((1000:Int) < w.lim.lines) (fun h_9=>?_) (fun h_9=>?_)
 refine rG cx [0,2,6,8,9,10,57] [6,8,9,10] (tT 2 (A0 h_8) (tT 6 (A3 h_9) (tD 17 true (w.lim.lines <(1:Int)∨(1000:Int) < w.lim.lines∨w.lim.count <(1:Int)∨(1000000000:Int) < w.lim.count) (by simp only [eq_false h_8,eq_true h_9,tsl]) z0))) ?_
 exact⟨rfl,by kernel_rfl⟩
 refine A4 (w.lim.count <(1:Int)) (fun h_10=>?_) (fun h_10=>?_)
 refine rG cx [0,2,6,8,9,10,57] [6,8,9,10] (tT 2 (A0 h_8) (tT 6 (A0 h_9) (tT 11 (A3 h_10) (tD 17 true (w.lim.lines <(1:Int)∨(1000:Int) < w.lim.lines∨w.lim.count <(1:Int)∨(1000000000:Int) < w.lim.count) (by simp only [eq_false h_8,eq_false h_9,eq_true h_10,tsl]) z0)))) ?_
 exact⟨rfl,by kernel_rfl⟩
 refine rG cx [0,2,6,8,9,10,57] [6,8,9,10] (tT 2 (A0 h_8) (tT 6 (A0 h_9) (tT 11 (A0 h_10) (tB 16 ((1000000000:Int) < w.lim.count) (tD 17 (decide ((1000000000:Int) < w.lim.count)) (w.lim.lines <(1:Int)∨(1000:Int) < w.lim.lines∨w.lim.count <(1:Int)∨(1000000000:Int) < w.lim.count) (by simp only [eq_false h_8,eq_false h_9,eq_false h_10,tsl]) z0))))) ?_
 exact⟨rfl,by kernel_rfl⟩
 refine sn<|dC (w.lim.lines <(1:Int)∨(1000:Int) < w.lim.lines∨w.lim.count <(1:Int)∨(1000000000:Int) < w.lim.count) (fun h11=>?_) fun h11=>?_
 refine sq<|rG cx [10,11] [10] z0<|sn<|rT<|nR<|qR (.tup [.agg [.nl,.nl,.nl,.nl],.i .i64 ((2:Int))]) (A5.tup (ZLe.cons (A5.agg (ZLe.cons (A5.nl' (show List.map c46 (B4 w).1.adds=[]from(by rw[D0 (B5 hh3).2.1 (B5 hh3).2.2 h6 h11];rfl))) (ZLe.cons (A5.nl' (show List.map c3 (B4 w).1.gone.vec=[]from(by rw[D0 (B5 hh3).2.1 (B5 hh3).2.2 h6 h11];rfl))) (ZLe.cons (A5.nl' (show List.map B1 (B4 w).1.gone.cloud=[]from(by rw[D0 (B5 hh3).2.1 (B5 hh3).2.2 h6 h11];rfl))) (ZLe.cons (A5.nl' (show List.map c54 (B4 w).1.recs=[]from(by rw[D0 (B5 hh3).2.1 (B5 hh3).2.2 h6 h11];rfl))) ZLe.nil))))) (ZLe.cons (A5.eq (show AV.i .i64 2=AV.i .i64 (B4 w).2 from(by rw[D0 (B5 hh3).2.1 (B5 hh3).2.2 h6 h11]))) ZLe.nil)))
 refine sK<|sn<|sq<|rG cx [0,2,6,8,9,10,12] [6,8,9,10] (fT (con75 (w.act) (by(with_reducible assumption))) (oA 1 (.i .i64 (G8 w.act)) z0))<|sn<|sq<|sq<|rG cx [0,2,6,8,9,10,12,62] [6,8,9,10] (tN 1 (G8 w.act) (0:Int) z0)<|sn<|dC (¬G8 w.act=0) (fun h12=>?_) fun h12=>?_
 refine sq<|rG cx [10,11] [10] z0<|sn<|rT<|nR<|qR (.tup [.agg [.nl,.nl,.nl,.nl],.i .i64 (G8 w.act)]) (A5.tup (ZLe.cons (A5.agg (ZLe.cons (A5.nl' (show List.map c46 (B4 w).1.adds=[]from(by rw[D3 (B5 hh3).2.1 (B5 hh3).2.2 h6 h11 h12];rfl))) (ZLe.cons (A5.nl' (show List.map c3 (B4 w).1.gone.vec=[]from(by rw[D3 (B5 hh3).2.1 (B5 hh3).2.2 h6 h11 h12];rfl))) (ZLe.cons (A5.nl' (show List.map B1 (B4 w).1.gone.cloud=[]from(by rw[D3 (B5 hh3).2.1 (B5 hh3).2.2 h6 h11 h12];rfl))) (ZLe.cons (A5.nl' (show List.map c54 (B4 w).1.recs=[]from(by rw[D3 (B5 hh3).2.1 (B5 hh3).2.2 h6 h11 h12];rfl))) ZLe.nil))))) (ZLe.cons (A5.eq (show AV.i .i64 (G8 w.act)=AV.i .i64 (B4 w).2 from(by rw[D3 (B5 hh3).2.1 (B5 hh3).2.2 h6 h11 h12]))) ZLe.nil)))
 refine sK<|sn<|sq<|rG cx [0,2,6,8,9,10,13] [6,8,9,10,13] z0<|sn<|sq<|sq<|rG cx [0,2,6,8,9,10,13,66] [6,8,9,10,13] z0<|sn<|bL 0<|sq<|rD cx [0,2,6,8,9,10,13,66,67] [6,8,9,10,13] (zB 0 (w.act.kind=1)) (fun h13=>?_) fun h13=>?_
 refine sK<|sn<|A4e (w.act.kind=1) (by kernel_rfl) (by kernel_rfl) (fun h14=>?_) (fun h14=>absurd h13 h14)
 refine sq<|rG cx [0,2,6,8,9,10,13,12] [6,8,9,10,13] (fT (con76 (w.live) (w.lim) (w.act) (by(with_reducible assumption)) (by omega) (by exact A1s h12 (.inl h13))) (oA 3 (.i .i64 (A12 w.live w.lim w.act)) z0)) ?_
 refine sn<|sq<|sq<|rG cx [0,2,6,8,9,10,13,12,75] [6,8,9,10,13] (tN 1 (A12 w.live w.lim w.act) (0:Int) z0)<|sn<|dC (¬A12 w.live w.lim w.act=0) (fun h15=>?_) fun h15=>?_
 refine sq<|rG cx [10,11] [10] z0<|sn<|rT<|nR<|bR<|nR<|qR (.tup [.agg [.nl,.nl,.nl,.nl],.i .i64 (A12 w.live w.lim w.act)]) (A5.tup (ZLe.cons (A5.agg (ZLe.cons (A5.nl' (show List.map c46 (B4 w).1.adds=[]from(by rw[A3z hh3 h6 h11 h12 h13 h15];rfl))) (ZLe.cons (A5.nl' (show List.map c3 (B4 w).1.gone.vec=[]from(by rw[A3z hh3 h6 h11 h12 h13 h15];rfl))) (ZLe.cons (A5.nl' (show List.map B1 (B4 w).1.gone.cloud=[]from(by rw[A3z hh3 h6 h11 h12 h13 h15];rfl))) (ZLe.cons (A5.nl' (show List.map c54 (B4 w).1.recs=[]from(by rw[A3z hh3 h6 h11 h12 h13 h15];rfl))) ZLe.nil))))) (ZLe.cons (A5.eq (show AV.i .i64 (A12 w.live w.lim w.act)=AV.i .i64 (B4 w).2 from(by rw[A3z hh3 h6 h11 h12 h13 h15]))) ZLe.nil)))
 refine sK<|sn<|sq<|rG cx [0,2,9,10,13,14,15] [9,10,13,14] (fT (con77 (w.seen) (w.rep) (w.lim.count) (by(with_reducible assumption))) (oA 4 (.tup [.agg [.i .i64 ((G4 w.seen w.rep w.lim.count).1.rep),.i .i64 ((G4 w.seen w.rep w.lim.count).1.num)],.i .i64 ((G4 w.seen w.rep w.lim.count).2)]) z0))<|sn<|sq<|sq<|rG cx [0,2,9,10,13,14,15,87] [9,10,13,14] (tN 1 ((G4 w.seen w.rep w.lim.count).2) (0:Int) z0)<|sn<|dC (¬(G4 w.seen w.rep w.lim.count).2=0) (fun h16=>?_) fun h16=>?_
 refine sq<|rG cx [10,11] [10] z0<|sn<|rT<|nR<|bR<|nR<|qR (.tup [.agg [.nl,.nl,.nl,.nl],.i .i64 ((G4 w.seen w.rep w.lim.count).2)]) (A5.tup (ZLe.cons (A5.agg (ZLe.cons (A5.nl' (show List.map c46 (B4 w).1.adds=[]from(by rw[A8t hh3 h6 h11 h12 h13 h15 h16];rfl))) (ZLe.cons (A5.nl' (show List.map c3 (B4 w).1.gone.vec=[]from(by rw[A8t hh3 h6 h11 h12 h13 h15 h16];rfl))) (ZLe.cons (A5.nl' (show List.map B1 (B4 w).1.gone.cloud=[]from(by rw[A8t hh3 h6 h11 h12 h13 h15 h16];rfl))) (ZLe.cons (A5.nl' (show List.map c54 (B4 w).1.recs=[]from(by rw[A8t hh3 h6 h11 h12 h13 h15 h16];rfl))) ZLe.nil))))) (ZLe.cons (A5.eq (show AV.i .i64 (G4 w.seen w.rep w.lim.count).2=AV.i .i64 (B4 w).2 from(by rw[A8t hh3 h6 h11 h12 h13 h15 h16]))) ZLe.nil)))
 refine sK<|sn<|sq<|rG cx [0,2,9,10,13,14,16] [9,10,13,14] z0<|sn<|sq<|rG cx [0,2,9,10,13,14,16] [9,10,13,14] (fT (Al3 (w.live) (w.act.sku) ((-1:Int)) (by(with_reducible assumption))) (oA 3 (.agg [.sl (List.map c3 (G3 w.live w.act.sku (-1:Int)).vec),.sl (List.map B1 (G3 w.live w.act.sku (-1:Int)).cloud)]) z0))<|sn<|sq<|sq<|rG cx [0,2,9,10,13,14,16,97] [9,10,13,14] (tB 2 (w.act.kind=2) z0)<|sn<|A4e (w.act.kind=2) (by kernel_rfl) (by kernel_rfl) (fun h17=>absurd h17 (by omega)) (fun h17=>?_)
 refine sK<|sn<|rG cx [10,13] [10,13,120] (tT 6 (B6 (by have:=A1s h12 (.inl h13);omega) (by have:=A1s h12 (.inl h13);omega):AV.i .i64 (IntKind.i64.wrap (0+w.act.qty))=AV.i .i64 (0+w.act.qty)) z0) ?_
 refine bN<|sn<|sq<|H6 [120] [10,13] [10,13] (σ':=⟨[(10,.ptr (10) (0) (0) (0)),(13,.ptr (13) (0) (0) (0))],[(10,⟨0,36,.var [.nl,.nl,.nl,.nl]⟩),(13,⟨0,36,.var [.sl (List.map c46 [{ dot:=(G4 w.seen w.rep w.lim.count).1,sku:=w.act.sku,qty:=0+w.act.qty:Entry }]),.sl (List.map c3 (G3 w.live w.act.sku (-1:Int)).vec),.sl (List.map B1 (G3 w.live w.act.sku (-1:Int)).cloud),.nl]⟩)]⟩) (by kernel_rfl)<|rG cx [10,11] [10] z0<|sn<|rT<|qR (.tup [.agg [.sl (List.map c46 [{ dot:=(G4 w.seen w.rep w.lim.count).1,sku:=w.act.sku,qty:=0+w.act.qty:Entry }]),.sl (List.map c3 (G3 w.live w.act.sku (-1:Int)).vec),.sl (List.map B1 (G3 w.live w.act.sku (-1:Int)).cloud),.nl],.i .i64 ((0:Int))]) (A5.tup (ZLe.cons (A5.agg (ZLe.cons (A5.eq (show AV.sl (List.map c46 [{ dot:=(G4 w.seen w.rep w.lim.count).1,sku:=w.act.sku,qty:=0+w.act.qty:Entry }])=AV.sl (List.map c46 (B4 w).1.adds)from(by rw[A8u hh3 h6 h11 h12 h13 h15 h16]))) (ZLe.cons (A5.eq (show AV.sl (List.map c3 (G3 w.live w.act.sku (-1:Int)).vec)=AV.sl (List.map c3 (B4 w).1.gone.vec)from(by rw[A8u hh3 h6 h11 h12 h13 h15 h16]))) (ZLe.cons (A5.eq (show AV.sl (List.map B1 (G3 w.live w.act.sku (-1:Int)).cloud)=AV.sl (List.map B1 (B4 w).1.gone.cloud)from(by rw[A8u hh3 h6 h11 h12 h13 h15 h16]))) (ZLe.cons (A5.nl' (show List.map c54 (B4 w).1.recs=[]from(by rw[A8u hh3 h6 h11 h12 h13 h15 h16];rfl))) ZLe.nil))))) (ZLe.cons (A5.eq (show AV.i .i64 0=AV.i .i64 (B4 w).2 from(by rw[A8u hh3 h6 h11 h12 h13 h15 h16]))) ZLe.nil)))
 refine rG cx [0,2,6,8,9,10,13,66,67] [6,8,9,10,13] (tB 0 (w.act.kind=2) z0)<|sn<|dC (w.act.kind=2) (fun h18=>?_) fun h18=>?_
 refine sq<|rG cx [0,2,6,8,9,10,13,12] [6,8,9,10,13] (fT (con76 (w.live) (w.lim) (w.act) (by(with_reducible assumption)) (by omega) (by exact A1s h12 (.inr h18))) (oA 3 (.i .i64 (A12 w.live w.lim w.act)) z0)) ?_
 refine sn<|sq<|sq<|rG cx [0,2,6,8,9,10,13,12,75] [6,8,9,10,13] (tN 1 (A12 w.live w.lim w.act) (0:Int) z0)<|sn<|dC (¬A12 w.live w.lim w.act=0) (fun h19=>?_) fun h19=>?_
 refine sq<|rG cx [10,11] [10] z0<|sn<|rT<|nR<|bR<|nR<|qR (.tup [.agg [.nl,.nl,.nl,.nl],.i .i64 (A12 w.live w.lim w.act)]) (A5.tup (ZLe.cons (A5.agg (ZLe.cons (A5.nl' (show List.map c46 (B4 w).1.adds=[]from(by rw[A40 hh3 h6 h11 h12 h18 h19];rfl))) (ZLe.cons (A5.nl' (show List.map c3 (B4 w).1.gone.vec=[]from(by rw[A40 hh3 h6 h11 h12 h18 h19];rfl))) (ZLe.cons (A5.nl' (show List.map B1 (B4 w).1.gone.cloud=[]from(by rw[A40 hh3 h6 h11 h12 h18 h19];rfl))) (ZLe.cons (A5.nl' (show List.map c54 (B4 w).1.recs=[]from(by rw[A40 hh3 h6 h11 h12 h18 h19];rfl))) ZLe.nil))))) (ZLe.cons (A5.eq (show AV.i .i64 (A12 w.live w.lim w.act)=AV.i .i64 (B4 w).2 from(by rw[A40 hh3 h6 h11 h12 h18 h19]))) ZLe.nil)))
 refine sK<|sn<|sq<|rG cx [0,2,9,10,13,14,15] [9,10,13,14] (fT (con77 (w.seen) (w.rep) (w.lim.count) (by(with_reducible assumption))) (oA 4 (.tup [.agg [.i .i64 ((G4 w.seen w.rep w.lim.count).1.rep),.i .i64 ((G4 w.seen w.rep w.lim.count).1.num)],.i .i64 ((G4 w.seen w.rep w.lim.count).2)]) z0))<|sn<|sq<|sq<|rG cx [0,2,9,10,13,14,15,87] [9,10,13,14] (tN 1 ((G4 w.seen w.rep w.lim.count).2) (0:Int) z0)<|sn<|dC (¬(G4 w.seen w.rep w.lim.count).2=0) (fun h20=>?_) fun h20=>?_
 refine sq<|rG cx [10,11] [10] z0<|sn<|rT<|nR<|bR<|nR<|qR (.tup [.agg [.nl,.nl,.nl,.nl],.i .i64 ((G4 w.seen w.rep w.lim.count).2)]) (A5.tup (ZLe.cons (A5.agg (ZLe.cons (A5.nl' (show List.map c46 (B4 w).1.adds=[]from(by rw[A8v hh3 h6 h11 h12 h18 h19 h20];rfl))) (ZLe.cons (A5.nl' (show List.map c3 (B4 w).1.gone.vec=[]from(by rw[A8v hh3 h6 h11 h12 h18 h19 h20];rfl))) (ZLe.cons (A5.nl' (show List.map B1 (B4 w).1.gone.cloud=[]from(by rw[A8v hh3 h6 h11 h12 h18 h19 h20];rfl))) (ZLe.cons (A5.nl' (show List.map c54 (B4 w).1.recs=[]from(by rw[A8v hh3 h6 h11 h12 h18 h19 h20];rfl))) ZLe.nil))))) (ZLe.cons (A5.eq (show AV.i .i64 (G4 w.seen w.rep w.lim.count).2=AV.i .i64 (B4 w).2 from(by rw[A8v hh3 h6 h11 h12 h18 h19 h20]))) ZLe.nil)))
 refine sK<|sn<|sq<|rG cx [0,2,9,10,13,14,16] [9,10,13,14] z0<|sn<|sq<|rG cx [0,2,9,10,13,14,16] [9,10,13,14] (fT (Al3 (w.live) (w.act.sku) ((-1:Int)) (by(with_reducible assumption))) (oA 3 (.agg [.sl (List.map c3 (G3 w.live w.act.sku (-1:Int)).vec),.sl (List.map B1 (G3 w.live w.act.sku (-1:Int)).cloud)]) z0))<|sn<|sq<|sq<|rG cx [0,2,9,10,13,14,16,97] [9,10,13,14] (tT 2 (A3 h18) z0)<|sn<|A17 (by kernel_rfl) (by kernel_rfl)<|sq<|rG cx [0,2,9,10,13,14,16] [9,10,13,14] (fT (con78 (w.live) (w.act.sku) (w.rep) (by(with_reducible assumption)) (by omega)) (oA 4 (.tup [.i .i64 (K9 (List.filter (K2 w.act.sku w.rep) w.live)),.i .i64 ((↑(List.filter (K2 w.act.sku w.rep) w.live).length:Int))]) z0))<|sn<|rG cx [9,10,13,14,16] [9,10,13,14] (fT (Al3 (w.live) (w.act.sku) (w.rep) (by(with_reducible assumption))) (oA 4 (.agg [.sl (List.map c3 (G3 w.live w.act.sku w.rep).vec),.sl (List.map B1 (G3 w.live w.act.sku w.rep).cloud)]) z0))<|sn<|rG cx [10,13] [10,13,120] (tT 6 (B6 (by have:=A1s h12 (.inr h18);have:=U3 (B5 hh3).1 (p:=K2 w.act.sku w.rep) (i:=w.live.length) (by omega) (by omega);rw[List.take_of_length_le (by omega)]at this;omega) (by have:=A1s h12 (.inr h18);have:=U3 (B5 hh3).1 (p:=K2 w.act.sku w.rep) (i:=w.live.length) (by omega) (by omega);rw[List.take_of_length_le (by omega)]at this;omega):AV.i .i64 (IntKind.i64.wrap (K9 (List.filter (K2 w.act.sku w.rep) w.live)+w.act.qty))=AV.i .i64 (K9 (List.filter (K2 w.act.sku w.rep) w.live)+w.act.qty)) z0) ?_
 refine bN<|sn<|sq<|H6 [120] [10,13] [10,13] (σ':=⟨[(10,.ptr (10) (0) (0) (0)),(13,.ptr (13) (0) (0) (0))],[(10,⟨0,36,.var [.nl,.nl,.nl,.nl]⟩),(13,⟨0,36,.var [.sl (List.map c46 [{ dot:=(G4 w.seen w.rep w.lim.count).1,sku:=w.act.sku,qty:=K9 (List.filter (K2 w.act.sku w.rep) w.live)+w.act.qty:Entry }]),.sl (List.map c3 (G3 w.live w.act.sku w.rep).vec),.sl (List.map B1 (G3 w.live w.act.sku w.rep).cloud),.nl]⟩)]⟩) (by kernel_rfl)<|rG cx [10,11] [10] z0<|sn<|rT<|qR (.tup [.agg [.sl (List.map c46 [{ dot:=(G4 w.seen w.rep w.lim.count).1,sku:=w.act.sku,qty:=K9 (List.filter (K2 w.act.sku w.rep) w.live)+w.act.qty:Entry }]),.sl (List.map c3 (G3 w.live w.act.sku w.rep).vec),.sl (List.map B1 (G3 w.live w.act.sku w.rep).cloud),.nl],.i .i64 ((0:Int))]) (A5.tup (ZLe.cons (A5.agg (ZLe.cons (A5.eq (show AV.sl (List.map c46 [{ dot:=(G4 w.seen w.rep w.lim.count).1,sku:=w.act.sku,qty:=K9 (List.filter (K2 w.act.sku w.rep) w.live)+w.act.qty:Entry }])=AV.sl (List.map c46 (B4 w).1.adds)from(by rw[A8w hh3 h6 h11 h12 h18 h19 h20]))) (ZLe.cons (A5.eq (show AV.sl (List.map c3 (G3 w.live w.act.sku w.rep).vec)=AV.sl (List.map c3 (B4 w).1.gone.vec)from(by rw[A8w hh3 h6 h11 h12 h18 h19 h20]))) (ZLe.cons (A5.eq (show AV.sl (List.map B1 (G3 w.live w.act.sku w.rep).cloud)=AV.sl (List.map B1 (B4 w).1.gone.cloud)from(by rw[A8w hh3 h6 h11 h12 h18 h19 h20]))) (ZLe.cons (A5.nl' (show List.map c54 (B4 w).1.recs=[]from(by rw[A8w hh3 h6 h11 h12 h18 h19 h20];rfl))) ZLe.nil))))) (ZLe.cons (A5.eq (show AV.i .i64 0=AV.i .i64 (B4 w).2 from(by rw[A8w hh3 h6 h11 h12 h18 h19 h20]))) ZLe.nil)))
 refine rD cx [0,9,10,13,66,122] [9,10,13] (zB 0 (w.act.kind=3)) (fun h21=>?_) fun h21=>?_
 refine sq<|rG cx [10,13] [10,13] (fT (Al3 (w.live) (w.act.sku) ((-1:Int)) (by(with_reducible assumption))) (oA 3 (.agg [.sl (List.map c3 (G3 w.live w.act.sku (-1:Int)).vec),.sl (List.map B1 (G3 w.live w.act.sku (-1:Int)).cloud)]) z0))<|sn<|sq<|rG cx [10,13,131] [10,13] (fT (B29 (G3 w.live w.act.sku (-1:Int)) (by exact cl8 (A0i _).1)) (oA 2 (.b (decide (C6 (G3 w.live w.act.sku (-1:Int))=0))) z0)) ?_
 refine sn<|dC (C6 (G3 w.live w.act.sku (-1:Int))=0) (fun h22=>?_) fun h22=>?_
 refine sq<|rG cx [10,11] [10] z0<|sn<|rT<|bR<|nR<|qR (.tup [.agg [.nl,.nl,.nl,.nl],.i .i64 ((11:Int))]) (A5.tup (ZLe.cons (A5.agg (ZLe.cons (A5.nl' (show List.map c46 (B4 w).1.adds=[]from(by rw[A8x hh3 h6 h11 h12 h21 h22];rfl))) (ZLe.cons (A5.nl' (show List.map c3 (B4 w).1.gone.vec=[]from(by rw[A8x hh3 h6 h11 h12 h21 h22];rfl))) (ZLe.cons (A5.nl' (show List.map B1 (B4 w).1.gone.cloud=[]from(by rw[A8x hh3 h6 h11 h12 h21 h22];rfl))) (ZLe.cons (A5.nl' (show List.map c54 (B4 w).1.recs=[]from(by rw[A8x hh3 h6 h11 h12 h21 h22];rfl))) ZLe.nil))))) (ZLe.cons (A5.eq (show AV.i .i64 11=AV.i .i64 (B4 w).2 from(by rw[A8x hh3 h6 h11 h12 h21 h22]))) ZLe.nil)))
 refine sK<|bN<|sn<|sq<|rG cx [10,11] [10] z0<|sn<|rT<|qR (.tup [.agg [.nl,.sl (List.map c3 (G3 w.live w.act.sku (-1:Int)).vec),.sl (List.map B1 (G3 w.live w.act.sku (-1:Int)).cloud),.nl],.i .i64 ((0:Int))]) (A5.tup (ZLe.cons (A5.agg (ZLe.cons (A5.nl' (show List.map c46 (B4 w).1.adds=[]from(by rw[A8y hh3 h6 h11 h12 h21 h22];rfl))) (ZLe.cons (A5.eq (show AV.sl (List.map c3 (G3 w.live w.act.sku (-1:Int)).vec)=AV.sl (List.map c3 (B4 w).1.gone.vec)from(by rw[A8y hh3 h6 h11 h12 h21 h22]))) (ZLe.cons (A5.eq (show AV.sl (List.map B1 (G3 w.live w.act.sku (-1:Int)).cloud)=AV.sl (List.map B1 (B4 w).1.gone.cloud)from(by rw[A8y hh3 h6 h11 h12 h21 h22]))) (ZLe.cons (A5.nl' (show List.map c54 (B4 w).1.recs=[]from(by rw[A8y hh3 h6 h11 h12 h21 h22];rfl))) ZLe.nil))))) (ZLe.cons (A5.eq (show AV.i .i64 0=AV.i .i64 (B4 w).2 from(by rw[A8y hh3 h6 h11 h12 h21 h22]))) ZLe.nil)))
 refine rD cx [0,9,10,13,66,133] [9,10,13] (zB 0 (w.act.kind=5)) (fun h23=>?_) fun h23=>?_
 refine rG cx [10,13] [10,13] (fT (Al3 (w.live) ({ data:=#[]:ByteArray }) ((-1:Int)) (by(with_reducible assumption))) (oA 1 (.agg [.sl (List.map c3 (G3 w.live { data:=#[]:ByteArray } (-1:Int)).vec),.sl (List.map B1 (G3 w.live { data:=#[]:ByteArray } (-1:Int)).cloud)]) z0))<|bN<|sn<|sq<|rG cx [10,11] [10] z0<|sn<|rT<|qR (.tup [.agg [.nl,.sl (List.map c3 (G3 w.live { data:=#[]:ByteArray } (-1:Int)).vec),.sl (List.map B1 (G3 w.live { data:=#[]:ByteArray } (-1:Int)).cloud),.nl],.i .i64 ((0:Int))]) (A5.tup (ZLe.cons (A5.agg (ZLe.cons (A5.nl' (show List.map c46 (B4 w).1.adds=[]from(by rw[A8z hh3 h6 h11 h12 h23];rfl))) (ZLe.cons (A5.eq (show AV.sl (List.map c3 (G3 w.live { data:=#[]:ByteArray } (-1:Int)).vec)=AV.sl (List.map c3 (B4 w).1.gone.vec)from(by rw[A8z hh3 h6 h11 h12 h23];rfl))) (ZLe.cons (A5.eq (show AV.sl (List.map B1 (G3 w.live { data:=#[]:ByteArray } (-1:Int)).cloud)=AV.sl (List.map B1 (B4 w).1.gone.cloud)from(by rw[A8z hh3 h6 h11 h12 h23];rfl))) (ZLe.cons (A5.nl' (show List.map c54 (B4 w).1.recs=[]from(by rw[A8z hh3 h6 h11 h12 h23];rfl))) ZLe.nil))))) (ZLe.cons (A5.eq (show AV.i .i64 0=AV.i .i64 (B4 w).2 from(by rw[A8z hh3 h6 h11 h12 h23]))) ZLe.nil)))
 refine rD cx [9,10,13,66,138] [9,10,13] (zB 0 (w.act.kind=4)) (fun h24=>?_) fun h24=>?_
 refine sq<|rG cx [9,10,13,143] [9,10,13] (fT (B29 (w.act.past) (by exact hp.1)) (tQ 3 (C6 w.act.past=0) (oA 2 (.b (decide (C6 w.act.past=0))) z0))) ?_
 refine sn<|dC (¬C6 w.act.past=0) (fun h25=>?_) fun h25=>?_
 refine rA cx [10,13] [10,13,150] (fT (B26 (w.act.past) (by exact hp.1)) (oA 4 (.agg [.sl (List.map c3 (A6 w.act.past).vec),.sl (List.map B1 (A6 w.act.past).cloud)]) z0)) ?_
 refine bN<|sn<|sq<|H6 [150] [10,13] [10,13] (σ':=⟨[(10,.ptr (10) (0) (0) (0)),(13,.ptr (13) (0) (0) (0))],[(10,⟨0,36,.var [.nl,.nl,.nl,.nl]⟩),(13,⟨0,36,.var [.nl,.nl,.nl,.sl (List.map c54 [{ sku:=w.act.sku,past:=A6 w.act.past:Record }])]⟩)]⟩) (by kernel_rfl)<|rG cx [10,11] [10] z0<|sn<|rT<|qR (.tup [.agg [.nl,.nl,.nl,.sl (List.map c54 [{ sku:=w.act.sku,past:=A6 w.act.past:Record }])],.i .i64 ((0:Int))]) (A5.tup (ZLe.cons (A5.agg (ZLe.cons (A5.nl' (show List.map c46 (B4 w).1.adds=[]from(by rw[A90 hh3 h6 h11 h12 h24 h25];rfl))) (ZLe.cons (A5.nl' (show List.map c3 (B4 w).1.gone.vec=[]from(by rw[A90 hh3 h6 h11 h12 h24 h25];rfl))) (ZLe.cons (A5.nl' (show List.map B1 (B4 w).1.gone.cloud=[]from(by rw[A90 hh3 h6 h11 h12 h24 h25];rfl))) (ZLe.cons (A5.eq (show AV.sl (List.map c54 [{ sku:=w.act.sku,past:=A6 w.act.past:Record }])=AV.sl (List.map c54 (B4 w).1.recs)from(by rw[A90 hh3 h6 h11 h12 h24 h25]))) ZLe.nil))))) (ZLe.cons (A5.eq (show AV.i .i64 0=AV.i .i64 (B4 w).2 from(by rw[A90 hh3 h6 h11 h12 h24 h25]))) ZLe.nil)))
 refine sK<|bN<|sn<|sq<|rG cx [10,11] [10] z0<|sn<|rT<|qR (.tup [.agg [.nl,.nl,.nl,.nl],.i .i64 ((0:Int))]) (A5.tup (ZLe.cons (A5.agg (ZLe.cons (A5.nl' (show List.map c46 (B4 w).1.adds=[]from(by rw[A91 hh3 h6 h11 h12 h24 h25];rfl))) (ZLe.cons (A5.nl' (show List.map c3 (B4 w).1.gone.vec=[]from(by rw[A91 hh3 h6 h11 h12 h24 h25];rfl))) (ZLe.cons (A5.nl' (show List.map B1 (B4 w).1.gone.cloud=[]from(by rw[A91 hh3 h6 h11 h12 h24 h25];rfl))) (ZLe.cons (A5.nl' (show List.map c54 (B4 w).1.recs=[]from(by rw[A91 hh3 h6 h11 h12 h24 h25];rfl))) ZLe.nil))))) (ZLe.cons (A5.eq (show AV.i .i64 0=AV.i .i64 (B4 w).2 from(by rw[A91 hh3 h6 h11 h12 h24 h25]))) ZLe.nil)))
 refine rD cx [9,10,13,152] [9,10,13] (zB 0 (w.act.kind=6)) (fun h26=>?_) fun h26=>?_
 refine sq<|rG cx [9,10,13,157] [9,10,13] (fT (B29 (w.act.past) (by exact hp.1)) (tQ 3 (C6 w.act.past=0) (oA 2 (.b (decide (C6 w.act.past=0))) z0))) ?_
 refine sn<|dC (¬C6 w.act.past=0) (fun h27=>?_) fun h27=>?_
 refine rG cx [10,13] [10,13,162] (fT (B26 (w.act.past) (by exact hp.1)) (oA 2 (.agg [.sl (List.map c3 (A6 w.act.past).vec),.sl (List.map B1 (A6 w.act.past).cloud)]) z0)) ?_
 refine bN<|sn<|sq<|H6 [162] [10,13] [10,13] (σ':=⟨[(10,.ptr (10) (0) (0) (0)),(13,.ptr (13) (0) (0) (0))],[(10,⟨0,36,.var [.nl,.nl,.nl,.nl]⟩),(13,⟨0,36,.var [.nl,.nl,.nl,.sl (List.map c54 [{ sku:={ data:=#[]:ByteArray },past:=A6 w.act.past:Record }])]⟩)]⟩) (by kernel_rfl)<|rG cx [10,11] [10] z0<|sn<|rT<|qR (.tup [.agg [.nl,.nl,.nl,.sl (List.map c54 [{ sku:={ data:=#[]:ByteArray },past:=A6 w.act.past:Record }])],.i .i64 ((0:Int))]) (A5.tup (ZLe.cons (A5.agg (ZLe.cons (A5.nl' (show List.map c46 (B4 w).1.adds=[]from(by rw[A92 hh3 h6 h11 h12 h26 h27];rfl))) (ZLe.cons (A5.nl' (show List.map c3 (B4 w).1.gone.vec=[]from(by rw[A92 hh3 h6 h11 h12 h26 h27];rfl))) (ZLe.cons (A5.nl' (show List.map B1 (B4 w).1.gone.cloud=[]from(by rw[A92 hh3 h6 h11 h12 h26 h27];rfl))) (ZLe.cons (A5.eq (show AV.sl (List.map c54 [{ sku:={ data:=#[]:ByteArray },past:=A6 w.act.past:Record }])=AV.sl (List.map c54 (B4 w).1.recs)from(by rw[A92 hh3 h6 h11 h12 h26 h27];rfl))) ZLe.nil))))) (ZLe.cons (A5.eq (show AV.i .i64 0=AV.i .i64 (B4 w).2 from(by rw[A92 hh3 h6 h11 h12 h26 h27]))) ZLe.nil)))
 refine sK<|bN<|sn<|sq<|rG cx [10,11] [10] z0<|sn<|rT<|qR (.tup [.agg [.nl,.nl,.nl,.nl],.i .i64 ((0:Int))]) (A5.tup (ZLe.cons (A5.agg (ZLe.cons (A5.nl' (show List.map c46 (B4 w).1.adds=[]from(by rw[A93 hh3 h6 h11 h12 h26 h27];rfl))) (ZLe.cons (A5.nl' (show List.map c3 (B4 w).1.gone.vec=[]from(by rw[A93 hh3 h6 h11 h12 h26 h27];rfl))) (ZLe.cons (A5.nl' (show List.map B1 (B4 w).1.gone.cloud=[]from(by rw[A93 hh3 h6 h11 h12 h26 h27];rfl))) (ZLe.cons (A5.nl' (show List.map c54 (B4 w).1.recs=[]from(by rw[A93 hh3 h6 h11 h12 h26 h27];rfl))) ZLe.nil))))) (ZLe.cons (A5.eq (show AV.i .i64 0=AV.i .i64 (B4 w).2 from(by rw[A93 hh3 h6 h11 h12 h26 h27]))) ZLe.nil)))
 refine sK<|bN<|sn<|sq<|rG cx [10,11] [10] z0<|sn<|rT<|qR (.tup [.agg [.nl,.nl,.nl,.nl],.i .i64 ((0:Int))]) (A5.tup (ZLe.cons (A5.agg (ZLe.cons (A5.nl' (show List.map c46 (B4 w).1.adds=[]from(by have:=U2 (Classical.not_not.1 h12);omega))) (ZLe.cons (A5.nl' (show List.map c3 (B4 w).1.gone.vec=[]from(by have:=U2 (Classical.not_not.1 h12);omega))) (ZLe.cons (A5.nl' (show List.map B1 (B4 w).1.gone.cloud=[]from(by have:=U2 (Classical.not_not.1 h12);omega))) (ZLe.cons (A5.nl' (show List.map c54 (B4 w).1.recs=[]from(by have:=U2 (Classical.not_not.1 h12);omega))) ZLe.nil))))) (ZLe.cons (A5.eq (show AV.i .i64 0=AV.i .i64 (B4 w).2 from(by have:=U2 (Classical.not_not.1 h12);omega))) ZLe.nil)))
theorem con14(live:List Entry)(seen:Past)(rep:Int)(lim:Limits)(a:Actn)(hs:live.length*40≤140737488351232)(hb:szP seen)(hp:szP a.past):Con Tryz.prog 14 [.sl (live.map c46),.agg (c26 seen),.i .i64 rep,.agg (c28 lim),.agg (c30 a)] (.tup [.agg (c36 (E5 live seen rep lim a).1),.i .i64 (E5 live seen rep lim a).2]):=B2s ⟨live,seen,rep,lim,a⟩ hs hb hp
end Go.Proofs.YtphcaholhacnpaaGreat
namespace Go.Proofs.YtphcaholhacnpaaGreat
open Go.E
set_option maxRecDepth 100000
set_option maxHeartbeats 4000000
theorem head0{α β:Type}[Inhabited α]{l:List α}(g:α→β)(h:¬ l.length=0):(l.map g)[Int.toNat 0]?=some (g l[0]!):=by
 cases l with
 | nil=>simp at h
 | cons e es=>rfl
end Go.Proofs.YtphcaholhacnpaaGreat
namespace Go.Proofs.YtphcaholhacnpaaGreat
open Go.E
set_option maxRecDepth 100000
set_option maxHeartbeats 4000000
theorem B6f(a b:List Entry):Con Tryz.prog 85 [.sl (a.map c46),.sl (b.map c46)] (.b (decide (a=b))) :=
 by
 refine lN 0 c46 (a) Tryz.func85 fun hl_0=>lN 1 c46 (b) Tryz.func85 fun hl_1=>sC B3 [.tmp 4] 26 Tryz.func85 ?_
 intro e0 cx
 refine sq<|rG cx [0,1] [] z0<|sn<|sq<|sq<|rG cx [0,1,10] [] (tL 1 c46 a (tL 3 c46 b (tN 4 (↑a.length:Int) (↑b.length:Int) z0)))<|sn<|dC (¬(↑a.length:Int)=(↑b.length:Int)) (fun h0=>?_) fun h0=>?_
 refine sq<|rG cx [4] [] z0<|sn<|rT<|nR<|qR (.b (false)) (.eq ?g0);rotate_left
 refine sK<|sn<|sq<|sq<|rG cx [0,1,5] [] z0<|sn<|bL 0<|sL (X:=Int) (fun x=>⟨[(0,.sl (List.map c46 a)),(1,.sl (List.map c46 b)),(5,.i .i64 (x))],[]⟩) (fun x ↦ dec30 a x) (fun x ↦ B4o a b x) [0,1,5] [] ((0:Int)) (show B4o a b (0:Int)from ?g1) ?_;rotate_left
 intro i1 h_2
 obtain⟨hh3,hh4,hh5⟩:0≤i1∧i1≤(↑a.length:Int)∧∀(j:Nat),(↑j:Int) < i1→a[j]! = b[j]!:=h_2
 refine sq<|rD cx [0,1,5,14] [] (tL 2 c46 a (zB 3 (i1 <(↑a.length:Int)))) (fun h6=>?_) fun h6=>?_
 refine sK<|sn<|sq<|bL 1<|sq<|rA cx [0,1,5,25] [] (fA (0≤i1) (fG c46 a i1.toNat (fR 4 (fN 4 4 (fA (0≤i1) (fG c46 b i1.toNat (fR 4 (fN 4 4 (fT (A2t (eq46 a[i1.toNat]! b[i1.toNat]!)) (oR 2 (c46 a[i1.toNat]!) (oR 6 (c46 b[i1.toNat]!) (oA 8 (.b (decide ¬a[i1.toNat]! = b[i1.toNat]!)) z0))))))))))))<|sn<|dC (¬a[i1.toNat]! = b[i1.toNat]!) (fun h7=>?_) fun h7=>?_
 refine sq<|rG cx [4] [] z0<|sn<|rT<|bR<|nR<|nR<|bR<|nR<|qR (.b (false)) (.eq ?g2);rotate_left
 refine sK<|bN<|sn<|rG cx [0,1,5] [] (tW 1 (i1+1) z0)<|sn<|nX (i1+1) (show((↑a.length:Int)-(i1+1)).toNat <((↑a.length:Int)-i1).toNat from(by omega)) (show B4o a b (i1+1)from ?g3);rotate_left
 refine eX 0<|nE<|nE<|bH<|sn<|sq<|rG cx [4] [] z0<|sn<|rT<|qR (.b (true)) (.eq ?g4);rotate_left
 revert h0;rotate_left
 revert h0;rotate_left
 revert h0 i1 hh3 hh4 hh5 h6 h7;rotate_left
 revert h0 i1 hh3 hh4 hh5 h6 h7;rotate_left
 revert h0 i1 hh3 hh4 hh5 h6;rotate_left
 case g1=>exact(fun h=>⟨by omega,by omega,fun j hj=>by omega⟩)
 case' g4=>refine(fun h i h1 h2 h3 h4=>?_)
 case' g3=>refine(fun h i h1 h2 h3 h4 h5=>⟨by omega,by omega,fun j hj=>?_⟩)
 case' g2=>refine(fun h i h1 h2 h3 h4 h5=>?_)
 case' g0=>refine(fun h=>?_)
 ·congr 1;symm;rw[decide_eq_false_iff_not];rintro rfl;exact h rfl
 ·congr 1;symm;rw[decide_eq_false_iff_not];rintro rfl;exact h5 rfl
 ·by_cases e:j=i.toNat
  ·subst e;exact Classical.not_not.1 h5
  ·exact h3 j (by omega)
 ·congr 1;symm;rw[decide_eq_true_iff];exact B4p (Classical.not_not.1 h) fun j hj=>h3 j (by omega)
end Go.Proofs.YtphcaholhacnpaaGreat
namespace Go.Proofs.YtphcaholhacnpaaGreat
open Go.E
set_option maxRecDepth 100000
set_option maxHeartbeats 4000000
theorem Ay2(r:Record):(⟨r.sku,r.past⟩:Record)=r:=rfl
end Go.Proofs.YtphcaholhacnpaaGreat
namespace Go.Proofs.YtphcaholhacnpaaGreat
open Go.E
set_option maxRecDepth 100000
set_option maxHeartbeats 4000000
def B6g(a b:Facts)(i:Int)(x1:List Entry)(x2:List Int)(x3:List Span)(x4:List Record)(y1:List Entry)(y2:List Int)(y3:List Span)(y4:List Record):Prop:=x4=a.recs∧y4=b.recs∧0≤i∧i≤a.recs.length∧∀ k:Nat,(k:Int) < i→a.recs[k]! = b.recs[k]!
def decFx(a:Facts)(i:Int)(x1:List Entry)(x2:List Int)(x3:List Span)(x4:List Record)(y1:List Entry)(y2:List Int)(y3:List Span)(y4:List Record):Nat:=(a.recs.length-i).toNat
theorem con16(a b:Facts)(hb:szF a)(hl:a.recs.length≤4611686018427387904):Con Tryz.prog 16 [.agg (c36 a),.agg (c36 b)] (.b (decide (a=b))) :=
 by
 have LN:¬(¬ a.adds=b.adds∨¬ a.gone=b.gone∨¬(a.recs.length:Int)=b.recs.length)→a.recs.length=b.recs.length:=fun h=>by have:=Classical.not_not.1 fun k=>h (.inr (.inr k));omega
 have GT:∀(l:List Record) (i:Int),0≤i→i < l.length→(l.map c54)[i.toNat]?=some (c54 l[i.toNat]!):=fun l i h0 h=>by
  rw[List.getElem?_map,List.getElem?_eq_getElem (by omega),getElem!_pos l i.toNat (by omega)];rfl
 refine sC B3 [.tmp 4] 65 Tryz.func16 ?_
 intro e0 cx
 refine sq<|rG cx [2,3] [2,3] z0<|sn<|sq<|sq<|A9 (σ':=⟨[(2,.ptr (2) (0) (0) (0)),(3,.ptr (3) (0) (0) (0)),(28,.b (decide (¬a.adds=b.adds∨¬a.gone=b.gone∨¬(↑a.recs.length:Int)=(↑b.recs.length:Int))))],[(2,⟨0,36,.var [.sl (List.map c46 a.adds),.sl (List.map c3 a.gone.vec),.sl (List.map B1 a.gone.cloud),.sl (List.map c54 a.recs)]⟩),(3,⟨0,36,.var [.sl (List.map c46 b.adds),.sl (List.map c3 b.gone.vec),.sl (List.map B1 b.gone.cloud),.sl (List.map c54 b.recs)]⟩)]⟩) ?_ ?_
 refine A4 (¬a.adds=b.adds) (fun h1=>?_) (fun h1=>?_)
 refine rg (A:=_∧_∧(AV.b true=AV.b (decide (¬a.adds=b.adds∨¬a.gone=b.gone∨¬(↑a.recs.length:Int)=(↑b.recs.length:Int))))) cx [(4,{ val:=some (.b (decide (a.adds=b.adds))),tell:=some (.b (false)) }),(22,{ tell:=some (.b (decide (¬a.adds=b.adds∨¬a.gone=b.gone∨¬(↑a.recs.length:Int)=(↑b.recs.length:Int)))) })] [2,3,28] [2,3] ⟨(A0 h1),(B6f (a.adds) (b.adds)),(by simp only [eq_false h1,tsl])⟩ ?_
 exact⟨rfl,by kernel_rfl⟩
 refine A4 (¬a.gone=b.gone) (fun h2=>?_) (fun h2=>?_)
 refine rg (A:=_∧((AV.b !decide (a.adds=b.adds))=AV.b (decide ¬a.adds=b.adds))∧_∧_∧_∧(AV.b true=AV.b (decide (¬a.adds=b.adds∨¬a.gone=b.gone∨¬(↑a.recs.length:Int)=(↑b.recs.length:Int))))) cx [(4,{ val:=some (.b (decide (a.adds=b.adds))) }),(5,{ tell:=some (.b (decide ¬a.adds=b.adds)) }),(6,{ tell:=some (.b (false)) }),(11,{ val:=some (.b (decide (a.gone=b.gone))),tell:=some (.b (false)) }),(22,{ tell:=some (.b (decide (¬a.adds=b.adds∨¬a.gone=b.gone∨¬(↑a.recs.length:Int)=(↑b.recs.length:Int)))) })] [2,3,28] [2,3] ⟨(B6f (a.adds) (b.adds)),(A2l),(A0 h1),(A0 h2),(B1o (a.gone) (b.gone) (by exact hb.1.2) (by have:=hb.1.1;omega)),(by first | (simp only [eq_false h1,eq_false h2,tsl];done) | simp_all)⟩ ?_
 exact⟨rfl,by kernel_rfl⟩
 refine rG cx [2,3,28] [2,3] (fT (B6f (a.adds) (b.adds)) (tQ 5 (a.adds=b.adds) (tT 6 (A0 h1) (fT (B1o (a.gone) (b.gone) (by exact hb.1.2) (by have:=hb.1.1;omega)) (tQ 12 (a.gone=b.gone) (tT 13 (A0 h2) (tL 17 c54 a.recs (tL 20 c54 b.recs (tN 21 (↑a.recs.length:Int) (↑b.recs.length:Int) (tT 22 (by first | (simp only [eq_false h1,eq_false h2,tsl];done) | simp_all:AV.b (decide ¬(↑a.recs.length:Int)=(↑b.recs.length:Int))=AV.b (decide (¬a.adds=b.adds∨¬a.gone=b.gone∨¬(↑a.recs.length:Int)=(↑b.recs.length:Int)))) (oA 4 (.b (decide (a.adds=b.adds))) (oA 11 (.b (decide (a.gone=b.gone))) z0)))))))))))) ?_
 exact⟨rfl,by kernel_rfl⟩
 refine sn<|dC (¬a.adds=b.adds∨¬a.gone=b.gone∨¬(↑a.recs.length:Int)=(↑b.recs.length:Int)) (fun h3=>?_) fun h3=>?_
 refine sq<|rG cx [4] [] z0<|sn<|rT<|nR<|qR (.b (false)) (.eq ?g4);rotate_left
 refine sK<|sn<|sq<|sq<|rG cx [2,3,5] [2,3] z0<|sn<|bL 0<|sL (X:=Int×List Entry×List Int×List Span×List Record×List Entry×List Int×List Span×List Record) (fun x=>⟨[(2,.ptr (2) (0) (0) (0)),(3,.ptr (3) (0) (0) (0)),(5,.i .i64 (x.1))],[(2,⟨0,36,.var [.sl (List.map c46 x.2.1),.sl (List.map c3 x.2.2.1),.sl (List.map B1 x.2.2.2.1),.sl (List.map c54 x.2.2.2.2.1)]⟩),(3,⟨0,36,.var [.sl (List.map c46 x.2.2.2.2.2.1),.sl (List.map c3 x.2.2.2.2.2.2.1),.sl (List.map B1 x.2.2.2.2.2.2.2.1),.sl (List.map c54 x.2.2.2.2.2.2.2.2)]⟩)]⟩) (fun x ↦ decFx a x.1 x.2.1 x.2.2.1 x.2.2.2.1 x.2.2.2.2.1 x.2.2.2.2.2.1 x.2.2.2.2.2.2.1 x.2.2.2.2.2.2.2.1 x.2.2.2.2.2.2.2.2) (fun x ↦ B6g a b x.1 x.2.1 x.2.2.1 x.2.2.2.1 x.2.2.2.2.1 x.2.2.2.2.2.1 x.2.2.2.2.2.2.1 x.2.2.2.2.2.2.2.1 x.2.2.2.2.2.2.2.2) [2,3,5] [2,3] (((0:Int),a.adds,a.gone.vec,a.gone.cloud,a.recs,b.adds,b.gone.vec,b.gone.cloud,b.recs)) (show B6g a b (0:Int) a.adds a.gone.vec a.gone.cloud a.recs b.adds b.gone.vec b.gone.cloud b.recs from(by exact⟨rfl,rfl,by omega,by omega,fun k hk=>by omega⟩)) ?_
 rintro⟨i4,x5,x6,x7,x8,y9,y10,y11,y12⟩ h_13
 obtain⟨h14,h15,h16,h17,h18⟩:x8=a.recs∧y12=b.recs∧0≤i4∧i4≤(↑a.recs.length:Int)∧∀(k:Nat),(↑k:Int) < i4→a.recs[k]! = b.recs[k]!:=h_13
 refine sq<|rD cx [2,3,5,33] [2,3] (tL 3 c54 x8 (zB 4 (i4 <(↑x8.length:Int)))) (fun h19=>?_) fun h19=>?_
 refine sK<|sn<|sq<|bL 1<|sq<|A9 (σ':=⟨[(2,.ptr (2) (0) (0) (0)),(3,.ptr (3) (0) (0) (0)),(5,.i .i64 (i4)),(64,.b (decide (¬x8[i4.toNat]!.sku=y12[i4.toNat]!.sku∨¬x8[i4.toNat]!.past=y12[i4.toNat]!.past)))],[(2,⟨0,36,.var [.sl (List.map c46 x5),.sl (List.map c3 x6),.sl (List.map B1 x7),.sl (List.map c54 x8)]⟩),(3,⟨0,36,.var [.sl (List.map c46 y9),.sl (List.map c3 y10),.sl (List.map B1 y11),.sl (List.map c54 y12)]⟩)]⟩) ?_ ?_
 refine A4 (¬x8[i4.toNat]!.sku=y12[i4.toNat]!.sku) (fun h21=>?_) (fun h21=>?_)
 refine rA cx [2,3,5,64] [2,3] (fA (0≤i4) (fG c54 x8 i4.toNat (fR 3 (fA (0≤i4) (fP ((List.map c54 y12)[i4.toNat]?=some (c54 y12[i4.toNat]!)) ?g6 (fR 3 (tT 12 (A7t h21:(AV.b !x8[i4.toNat]!.sku.toList == y12[i4.toNat]!.sku.toList)=AV.b true) (tD 28 true (¬x8[i4.toNat]!.sku=y12[i4.toNat]!.sku∨¬x8[i4.toNat]!.past=y12[i4.toNat]!.past) (by simp only [eq_false h21,tsl]) (oR 3 (c54 x8[i4.toNat]!) (oR 9 (c54 y12[i4.toNat]!) z0)))))))))) ?_;rotate_left
 exact⟨rfl,by kernel_rfl⟩
 refine rA cx [2,3,5,64] [2,3] (fA (0≤i4) (fG c54 x8 i4.toNat (fR 3 (fA (0≤i4) (fP ((List.map c54 y12)[i4.toNat]?=some (c54 y12[i4.toNat]!)) ?g7 (fR 3 (tT 12 (Ad5:(AV.b !x8[i4.toNat]!.sku.toList == y12[i4.toNat]!.sku.toList)=AV.b (decide ¬x8[i4.toNat]!.sku=y12[i4.toNat]!.sku)) (tT 13 (A0 h21) (fA (0≤i4) (fG c54 x8 i4.toNat (fR 3 (fN 2 2 (fA (0≤i4) (fP ((List.map c54 y12)[i4.toNat]?=some (c54 y12[i4.toNat]!)) ?g8 (fR 3 (fN 2 2 (fT (B1o (x8[i4.toNat]!.past) (y12[i4.toNat]!.past) ?g9 ?g10) (tQ 27 (x8[i4.toNat]!.past=y12[i4.toNat]!.past) (tT 28 (by first | (simp only [eq_false h21,tsl];done) | simp_all:AV.b (decide ¬x8[i4.toNat]!.past=y12[i4.toNat]!.past)=AV.b (decide (¬x8[i4.toNat]!.sku=y12[i4.toNat]!.sku∨¬x8[i4.toNat]!.past=y12[i4.toNat]!.past))) (oR 3 (c54 x8[i4.toNat]!) (oR 9 (c54 y12[i4.toNat]!) (oR 17 (c54 x8[i4.toNat]!) (oR 23 (c54 y12[i4.toNat]!) (oA 26 (.b (decide (x8[i4.toNat]!.past=y12[i4.toNat]!.past))) z0)))))))))))))))))))))))) ?_;rotate_left 4
 exact⟨rfl,by kernel_rfl⟩
 refine sn<|dC (¬x8[i4.toNat]!.sku=y12[i4.toNat]!.sku∨¬x8[i4.toNat]!.past=y12[i4.toNat]!.past) (fun h22=>?_) fun h22=>?_
 refine sq<|rG cx [4] [] z0<|sn<|rT<|bR<|nR<|nR<|bR<|nR<|qR (.b (false)) (.eq ?g11);rotate_left
 refine sK<|bN<|sn<|rG cx [2,3,5] [2,3] (tW 1 (i4+1) z0)<|sn<|nX ((i4+1,x5,x6,x7,x8,y9,y10,y11,y12)) (show((↑a.recs.length:Int)-(i4+1)).toNat <((↑a.recs.length:Int)-i4).toNat from ?g12) (show B6g a b (i4+1) x5 x6 x7 x8 y9 y10 y11 y12 from ?g13);rotate_left 2
 refine eX 0<|nE<|nE<|bH<|sn<|sq<|rG cx [4] [] z0<|sn<|rT<|qR (.b (true)) (.eq ?g14);rotate_left
 case g4 =>
  refine congrArg AV.b (decide_eq_false fun k=>?_).symm
  subst k
  rcases h3 with h3 | h3 | h3 <;> exact h3 rfl
 case g6=>revert h3 i4 x5 x6 x7 x8 y9 y10 y11 y12 h14 h15 h16 h17 h18 h19 h21;intro n i x1 x2 x3 x4 y1 y2 y3 y4 e1 e2 k0 k1 k2 h4;intros;have:=LN n;rw[e1]at h4;rw[e2];exact GT _ _ k0 (by omega)
 case g7=>revert h3 i4 x5 x6 x7 x8 y9 y10 y11 y12 h14 h15 h16 h17 h18 h19 h21;intro n i x1 x2 x3 x4 y1 y2 y3 y4 e1 e2 k0 k1 k2 h4;intros;have:=LN n;rw[e1]at h4;rw[e2];exact GT _ _ k0 (by omega)
 case g8=>revert h3 i4 x5 x6 x7 x8 y9 y10 y11 y12 h14 h15 h16 h17 h18 h19 h21;intro n i x1 x2 x3 x4 y1 y2 y3 y4 e1 e2 k0 k1 k2 h4;intros;have:=LN n;rw[e1]at h4;rw[e2];exact GT _ _ k0 (by omega)
 case g9=>revert h3 i4 x5 x6 x7 x8 y9 y10 y11 y12 h14 h15 h16 h17 h18 h19 h21;intro n i x1 x2 x3 x4 y1 y2 y3 y4 e1 e2 k0 k1 k2 h4;intros;rw[e1]at h4 ⊢;exact(B3t hb.2 k0 h4).2
 case g10=>revert h3 i4 x5 x6 x7 x8 y9 y10 y11 y12 h14 h15 h16 h17 h18 h19 h21;intro n i x1 x2 x3 x4 y1 y2 y3 y4 e1 e2 k0 k1 k2 h4;intros;rw[e1]at h4 ⊢;have:=(B3t hb.2 k0 h4).1;omega
 case g11 =>
  rw[h14,h15]at h22
  refine congrArg AV.b (decide_eq_false fun k=>?_).symm
  subst k
  rcases h22 with h | h <;> exact h rfl
 case g12=>revert h3 i4 x5 x6 x7 x8 y9 y10 y11 y12 h14 h15 h16 h17 h18 h19 h22;intro n i x1 x2 x3 x4 y1 y2 y3 y4 e1 e2 k0 k1 k2 h4;intros;rw[e1]at h4;omega
 case g13 =>
  have:=LN h3
  rw[h14,h15]at h22
  rw[h14]at h19
  refine⟨h14,h15,by omega,by omega,fun j hj=>?_⟩
  by_cases e:j=i4.toNat
  ·rw[e]
   have z1:a.recs[i4.toNat]!.sku=b.recs[i4.toNat]!.sku:=Classical.byContradiction fun k=>h22 (.inl k)
   have z2:a.recs[i4.toNat]!.past=b.recs[i4.toNat]!.past:=Classical.byContradiction fun k=>h22 (.inr k)
   rw[← Ay2 a.recs[i4.toNat]!,← Ay2 b.recs[i4.toNat]!,z1,z2]
  ·exact h18 j (by omega)
 case g14 =>
  have hl:=LN h3
  rw[h14]at h19
  refine congrArg AV.b (decide_eq_true ?_).symm
  have z1:=Classical.not_not.1 fun k=>h3 (.inl k)
  have z2:=Classical.not_not.1 fun k=>h3 (.inr (.inl k))
  have z3:a.recs=b.recs:=V5 hl fun j hj=>h18 j (by omega)
  obtain⟨p,q,r⟩:=a
  obtain⟨p',q',r'⟩:=b
  simp only at z1 z2 z3
  rw[z1,z2,z3]
theorem con13 :Con Tryz.prog 13 [] (.b true) :=
 by
 refine sC B3 [.tmp 0] 43 Tryz.func13 ?_
 intro e0 cx
 refine sq<|rG cx [] [] z0<|sn<|sq<|rG cx [1] [8] z0<|sn<|sq<|rG cx [2,3] [2] (fP (Con Tryz.prog (15:Nat) [AV.sl (List.map c46 [{ dot:={ rep:=(0:Int),num:=(1:Int):Dot },sku:={ data:=#[(65:UInt8)]:ByteArray },qty:=(5:Int):Entry },{ dot:={ rep:=(1:Int),num:=(2:Int):Dot },sku:={ data:=#[(65:UInt8)]:ByteArray },qty:=(7:Int):Entry }]),AV.agg [AV.sl (List.map c3 [(3:Int),(3:Int)]),AV.nl],AV.i .i64 (0:Int),AV.agg [AV.i .i64 (2:Int),AV.i .i64 (4:Int)],AV.agg [AV.i .i64 (1:Int),AV.s { data:=#[(65:UInt8)]:ByteArray },AV.i .i64 (9:Int),AV.nl,AV.nl]] (AV.tup [AV.agg [AV.sl (List.map c46 (B4 { live:=[{ dot:={ rep:=(0:Int),num:=(1:Int):Dot },sku:={ data:=#[(65:UInt8)]:ByteArray },qty:=(5:Int):Entry },{ dot:={ rep:=(1:Int),num:=(2:Int):Dot },sku:={ data:=#[(65:UInt8)]:ByteArray },qty:=(7:Int):Entry }],seen:={ vec:=[(3:Int),(3:Int)],cloud:=[]:Past },rep:=(0:Int),lim:={ lines:=(2:Int),count:=(4:Int):Limits },act:={ kind:=(1:Int),sku:={ data:=#[(65:UInt8)]:ByteArray },qty:=(9:Int),past:={ vec:=[],cloud:=[]:Past }:Actn }:Wish }).1.adds),AV.sl (List.map c3 (B4 { live:=[{ dot:={ rep:=(0:Int),num:=(1:Int):Dot },sku:={ data:=#[(65:UInt8)]:ByteArray },qty:=(5:Int):Entry },{ dot:={ rep:=(1:Int),num:=(2:Int):Dot },sku:={ data:=#[(65:UInt8)]:ByteArray },qty:=(7:Int):Entry }],seen:={ vec:=[(3:Int),(3:Int)],cloud:=[]:Past },rep:=(0:Int),lim:={ lines:=(2:Int),count:=(4:Int):Limits },act:={ kind:=(1:Int),sku:={ data:=#[(65:UInt8)]:ByteArray },qty:=(9:Int),past:={ vec:=[],cloud:=[]:Past }:Actn }:Wish }).1.gone.vec),AV.sl (List.map B1 (B4 { live:=[{ dot:={ rep:=(0:Int),num:=(1:Int):Dot },sku:={ data:=#[(65:UInt8)]:ByteArray },qty:=(5:Int):Entry },{ dot:={ rep:=(1:Int),num:=(2:Int):Dot },sku:={ data:=#[(65:UInt8)]:ByteArray },qty:=(7:Int):Entry }],seen:={ vec:=[(3:Int),(3:Int)],cloud:=[]:Past },rep:=(0:Int),lim:={ lines:=(2:Int),count:=(4:Int):Limits },act:={ kind:=(1:Int),sku:={ data:=#[(65:UInt8)]:ByteArray },qty:=(9:Int),past:={ vec:=[],cloud:=[]:Past }:Actn }:Wish }).1.gone.cloud),AV.sl (List.map c54 (B4 { live:=[{ dot:={ rep:=(0:Int),num:=(1:Int):Dot },sku:={ data:=#[(65:UInt8)]:ByteArray },qty:=(5:Int):Entry },{ dot:={ rep:=(1:Int),num:=(2:Int):Dot },sku:={ data:=#[(65:UInt8)]:ByteArray },qty:=(7:Int):Entry }],seen:={ vec:=[(3:Int),(3:Int)],cloud:=[]:Past },rep:=(0:Int),lim:={ lines:=(2:Int),count:=(4:Int):Limits },act:={ kind:=(1:Int),sku:={ data:=#[(65:UInt8)]:ByteArray },qty:=(9:Int),past:={ vec:=[],cloud:=[]:Past }:Actn }:Wish }).1.recs)],AV.i .i64 (0:Int)])) (Con.le (cast (by kernel_rfl) (con15 ([{ dot:={ rep:=(0:Int),num:=(1:Int):Dot },sku:={ data:=#[(65:UInt8)]:ByteArray },qty:=(5:Int):Entry },{ dot:={ rep:=(1:Int),num:=(2:Int):Dot },sku:={ data:=#[(65:UInt8)]:ByteArray },qty:=(7:Int):Entry }]) ({ vec:=[(3:Int),(3:Int)],cloud:=[]:Past }) ((0:Int)) ({ lines:=(2:Int),count:=(4:Int):Limits }) ({ kind:=(1:Int),sku:={ data:=#[(65:UInt8)]:ByteArray },qty:=(9:Int),past:={ vec:=[],cloud:=[]:Past }:Actn }) (by(simp only [List.length_append,List.length_cons,List.length_nil];omega)) ?g0 ?g1):Con Tryz.prog (15:FuncId) [AV.sl (List.map c46 [{ dot:={ rep:=(0:Int),num:=(1:Int):Dot },sku:={ data:=#[(65:UInt8)]:ByteArray },qty:=(5:Int):Entry },{ dot:={ rep:=(1:Int),num:=(2:Int):Dot },sku:={ data:=#[(65:UInt8)]:ByteArray },qty:=(7:Int):Entry }]),AV.agg (c26 { vec:=[(3:Int),(3:Int)],cloud:=[]:Past }),AV.i .i64 (0:Int),AV.agg (c28 { lines:=(2:Int),count:=(4:Int):Limits }),AV.agg (c30 { kind:=(1:Int),sku:={ data:=#[(65:UInt8)]:ByteArray },qty:=(9:Int),past:={ vec:=[],cloud:=[]:Past }:Actn })] (AV.tup [AV.agg [AV.sl (List.map c46 (B4 { live:=[{ dot:={ rep:=(0:Int),num:=(1:Int):Dot },sku:={ data:=#[(65:UInt8)]:ByteArray },qty:=(5:Int):Entry },{ dot:={ rep:=(1:Int),num:=(2:Int):Dot },sku:={ data:=#[(65:UInt8)]:ByteArray },qty:=(7:Int):Entry }],seen:={ vec:=[(3:Int),(3:Int)],cloud:=[]:Past },rep:=(0:Int),lim:={ lines:=(2:Int),count:=(4:Int):Limits },act:={ kind:=(1:Int),sku:={ data:=#[(65:UInt8)]:ByteArray },qty:=(9:Int),past:={ vec:=[],cloud:=[]:Past }:Actn }:Wish }).1.adds),AV.sl (List.map c3 (B4 { live:=[{ dot:={ rep:=(0:Int),num:=(1:Int):Dot },sku:={ data:=#[(65:UInt8)]:ByteArray },qty:=(5:Int):Entry },{ dot:={ rep:=(1:Int),num:=(2:Int):Dot },sku:={ data:=#[(65:UInt8)]:ByteArray },qty:=(7:Int):Entry }],seen:={ vec:=[(3:Int),(3:Int)],cloud:=[]:Past },rep:=(0:Int),lim:={ lines:=(2:Int),count:=(4:Int):Limits },act:={ kind:=(1:Int),sku:={ data:=#[(65:UInt8)]:ByteArray },qty:=(9:Int),past:={ vec:=[],cloud:=[]:Past }:Actn }:Wish }).1.gone.vec),AV.sl (List.map B1 (B4 { live:=[{ dot:={ rep:=(0:Int),num:=(1:Int):Dot },sku:={ data:=#[(65:UInt8)]:ByteArray },qty:=(5:Int):Entry },{ dot:={ rep:=(1:Int),num:=(2:Int):Dot },sku:={ data:=#[(65:UInt8)]:ByteArray },qty:=(7:Int):Entry }],seen:={ vec:=[(3:Int),(3:Int)],cloud:=[]:Past },rep:=(0:Int),lim:={ lines:=(2:Int),count:=(4:Int):Limits },act:={ kind:=(1:Int),sku:={ data:=#[(65:UInt8)]:ByteArray },qty:=(9:Int),past:={ vec:=[],cloud:=[]:Past }:Actn }:Wish }).1.gone.cloud),AV.sl (List.map c54 (B4 { live:=[{ dot:={ rep:=(0:Int),num:=(1:Int):Dot },sku:={ data:=#[(65:UInt8)]:ByteArray },qty:=(5:Int):Entry },{ dot:={ rep:=(1:Int),num:=(2:Int):Dot },sku:={ data:=#[(65:UInt8)]:ByteArray },qty:=(7:Int):Entry }],seen:={ vec:=[(3:Int),(3:Int)],cloud:=[]:Past },rep:=(0:Int),lim:={ lines:=(2:Int),count:=(4:Int):Limits },act:={ kind:=(1:Int),sku:={ data:=#[(65:UInt8)]:ByteArray },qty:=(9:Int),past:={ vec:=[],cloud:=[]:Past }:Actn }:Wish }).1.recs)],AV.i .i64 (0:Int)])) (ZLe.cons (A5.refl _) (ZLe.cons (A5.agg (ZLe.cons (A5.refl _) (ZLe.cons A5.nl ZLe.nil))) (ZLe.cons (A5.refl _) (ZLe.cons (A5.refl _) (ZLe.cons (A5.agg (ZLe.cons (A5.refl _) (ZLe.cons (A5.refl _) (ZLe.cons (A5.refl _) (ZLe.cons A5.nl (ZLe.cons A5.nl ZLe.nil)))))) ZLe.nil)))))) (oA 5 (.tup [.agg [.sl (List.map c46 (B4 { live:=[{ dot:={ rep:=(0:Int),num:=(1:Int):Dot },sku:={ data:=#[(65:UInt8)]:ByteArray },qty:=(5:Int):Entry },{ dot:={ rep:=(1:Int),num:=(2:Int):Dot },sku:={ data:=#[(65:UInt8)]:ByteArray },qty:=(7:Int):Entry }],seen:={ vec:=[(3:Int),(3:Int)],cloud:=[]:Past },rep:=(0:Int),lim:={ lines:=(2:Int),count:=(4:Int):Limits },act:={ kind:=(1:Int),sku:={ data:=#[(65:UInt8)]:ByteArray },qty:=(9:Int),past:={ vec:=[],cloud:=[]:Past }:Actn }:Wish }).1.adds),.sl (List.map c3 (B4 { live:=[{ dot:={ rep:=(0:Int),num:=(1:Int):Dot },sku:={ data:=#[(65:UInt8)]:ByteArray },qty:=(5:Int):Entry },{ dot:={ rep:=(1:Int),num:=(2:Int):Dot },sku:={ data:=#[(65:UInt8)]:ByteArray },qty:=(7:Int):Entry }],seen:={ vec:=[(3:Int),(3:Int)],cloud:=[]:Past },rep:=(0:Int),lim:={ lines:=(2:Int),count:=(4:Int):Limits },act:={ kind:=(1:Int),sku:={ data:=#[(65:UInt8)]:ByteArray },qty:=(9:Int),past:={ vec:=[],cloud:=[]:Past }:Actn }:Wish }).1.gone.vec),.sl (List.map B1 (B4 { live:=[{ dot:={ rep:=(0:Int),num:=(1:Int):Dot },sku:={ data:=#[(65:UInt8)]:ByteArray },qty:=(5:Int):Entry },{ dot:={ rep:=(1:Int),num:=(2:Int):Dot },sku:={ data:=#[(65:UInt8)]:ByteArray },qty:=(7:Int):Entry }],seen:={ vec:=[(3:Int),(3:Int)],cloud:=[]:Past },rep:=(0:Int),lim:={ lines:=(2:Int),count:=(4:Int):Limits },act:={ kind:=(1:Int),sku:={ data:=#[(65:UInt8)]:ByteArray },qty:=(9:Int),past:={ vec:=[],cloud:=[]:Past }:Actn }:Wish }).1.gone.cloud),.sl (List.map c54 (B4 { live:=[{ dot:={ rep:=(0:Int),num:=(1:Int):Dot },sku:={ data:=#[(65:UInt8)]:ByteArray },qty:=(5:Int):Entry },{ dot:={ rep:=(1:Int),num:=(2:Int):Dot },sku:={ data:=#[(65:UInt8)]:ByteArray },qty:=(7:Int):Entry }],seen:={ vec:=[(3:Int),(3:Int)],cloud:=[]:Past },rep:=(0:Int),lim:={ lines:=(2:Int),count:=(4:Int):Limits },act:={ kind:=(1:Int),sku:={ data:=#[(65:UInt8)]:ByteArray },qty:=(9:Int),past:={ vec:=[],cloud:=[]:Past }:Actn }:Wish }).1.recs)],.i .i64 ((0:Int))]) z0)) ?_;rotate_left 2
 refine sn<|sq<|rG cx [0] [] (fO ((0:Int)≤(0:Int)) (fR (some (c46 { dot:=(G4 { live:=[{ dot:={ rep:=(0:Int),num:=(1:Int):Dot },sku:={ data:=#[(65:UInt8)]:ByteArray },qty:=(5:Int):Entry },{ dot:={ rep:=(1:Int),num:=(2:Int):Dot },sku:={ data:=#[(65:UInt8)]:ByteArray },qty:=(7:Int):Entry }],seen:={ vec:=[(3:Int),(3:Int)],cloud:=[]:Past },rep:=(0:Int),lim:={ lines:=(2:Int),count:=(4:Int):Limits },act:={ kind:=(1:Int),sku:={ data:=#[(65:UInt8)]:ByteArray },qty:=(9:Int),past:={ vec:=[],cloud:=[]:Past }:Actn }:Wish }.seen { live:=[{ dot:={ rep:=(0:Int),num:=(1:Int):Dot },sku:={ data:=#[(65:UInt8)]:ByteArray },qty:=(5:Int):Entry },{ dot:={ rep:=(1:Int),num:=(2:Int):Dot },sku:={ data:=#[(65:UInt8)]:ByteArray },qty:=(7:Int):Entry }],seen:={ vec:=[(3:Int),(3:Int)],cloud:=[]:Past },rep:=(0:Int),lim:={ lines:=(2:Int),count:=(4:Int):Limits },act:={ kind:=(1:Int),sku:={ data:=#[(65:UInt8)]:ByteArray },qty:=(9:Int),past:={ vec:=[],cloud:=[]:Past }:Actn }:Wish }.rep { live:=[{ dot:={ rep:=(0:Int),num:=(1:Int):Dot },sku:={ data:=#[(65:UInt8)]:ByteArray },qty:=(5:Int):Entry },{ dot:={ rep:=(1:Int),num:=(2:Int):Dot },sku:={ data:=#[(65:UInt8)]:ByteArray },qty:=(7:Int):Entry }],seen:={ vec:=[(3:Int),(3:Int)],cloud:=[]:Past },rep:=(0:Int),lim:={ lines:=(2:Int),count:=(4:Int):Limits },act:={ kind:=(1:Int),sku:={ data:=#[(65:UInt8)]:ByteArray },qty:=(9:Int),past:={ vec:=[],cloud:=[]:Past }:Actn }:Wish }.lim.count).1,sku:={ live:=[{ dot:={ rep:=(0:Int),num:=(1:Int):Dot },sku:={ data:=#[(65:UInt8)]:ByteArray },qty:=(5:Int):Entry },{ dot:={ rep:=(1:Int),num:=(2:Int):Dot },sku:={ data:=#[(65:UInt8)]:ByteArray },qty:=(7:Int):Entry }],seen:={ vec:=[(3:Int),(3:Int)],cloud:=[]:Past },rep:=(0:Int),lim:={ lines:=(2:Int),count:=(4:Int):Limits },act:={ kind:=(1:Int),sku:={ data:=#[(65:UInt8)]:ByteArray },qty:=(9:Int),past:={ vec:=[],cloud:=[]:Past }:Actn }:Wish }.act.sku,qty:={ live:=[{ dot:={ rep:=(0:Int),num:=(1:Int):Dot },sku:={ data:=#[(65:UInt8)]:ByteArray },qty:=(5:Int):Entry },{ dot:={ rep:=(1:Int),num:=(2:Int):Dot },sku:={ data:=#[(65:UInt8)]:ByteArray },qty:=(7:Int):Entry }],seen:={ vec:=[(3:Int),(3:Int)],cloud:=[]:Past },rep:=(0:Int),lim:={ lines:=(2:Int),count:=(4:Int):Limits },act:={ kind:=(1:Int),sku:={ data:=#[(65:UInt8)]:ByteArray },qty:=(9:Int),past:={ vec:=[],cloud:=[]:Past }:Actn }:Wish }.act.qty:Entry })) (fR 4 (fO ((0:Int)≤(0:Int)) (fR (some (c46 { dot:=(G4 { live:=[{ dot:={ rep:=(0:Int),num:=(1:Int):Dot },sku:={ data:=#[(65:UInt8)]:ByteArray },qty:=(5:Int):Entry },{ dot:={ rep:=(1:Int),num:=(2:Int):Dot },sku:={ data:=#[(65:UInt8)]:ByteArray },qty:=(7:Int):Entry }],seen:={ vec:=[(3:Int),(3:Int)],cloud:=[]:Past },rep:=(0:Int),lim:={ lines:=(2:Int),count:=(4:Int):Limits },act:={ kind:=(1:Int),sku:={ data:=#[(65:UInt8)]:ByteArray },qty:=(9:Int),past:={ vec:=[],cloud:=[]:Past }:Actn }:Wish }.seen { live:=[{ dot:={ rep:=(0:Int),num:=(1:Int):Dot },sku:={ data:=#[(65:UInt8)]:ByteArray },qty:=(5:Int):Entry },{ dot:={ rep:=(1:Int),num:=(2:Int):Dot },sku:={ data:=#[(65:UInt8)]:ByteArray },qty:=(7:Int):Entry }],seen:={ vec:=[(3:Int),(3:Int)],cloud:=[]:Past },rep:=(0:Int),lim:={ lines:=(2:Int),count:=(4:Int):Limits },act:={ kind:=(1:Int),sku:={ data:=#[(65:UInt8)]:ByteArray },qty:=(9:Int),past:={ vec:=[],cloud:=[]:Past }:Actn }:Wish }.rep { live:=[{ dot:={ rep:=(0:Int),num:=(1:Int):Dot },sku:={ data:=#[(65:UInt8)]:ByteArray },qty:=(5:Int):Entry },{ dot:={ rep:=(1:Int),num:=(2:Int):Dot },sku:={ data:=#[(65:UInt8)]:ByteArray },qty:=(7:Int):Entry }],seen:={ vec:=[(3:Int),(3:Int)],cloud:=[]:Past },rep:=(0:Int),lim:={ lines:=(2:Int),count:=(4:Int):Limits },act:={ kind:=(1:Int),sku:={ data:=#[(65:UInt8)]:ByteArray },qty:=(9:Int),past:={ vec:=[],cloud:=[]:Past }:Actn }:Wish }.lim.count).1,sku:={ live:=[{ dot:={ rep:=(0:Int),num:=(1:Int):Dot },sku:={ data:=#[(65:UInt8)]:ByteArray },qty:=(5:Int):Entry },{ dot:={ rep:=(1:Int),num:=(2:Int):Dot },sku:={ data:=#[(65:UInt8)]:ByteArray },qty:=(7:Int):Entry }],seen:={ vec:=[(3:Int),(3:Int)],cloud:=[]:Past },rep:=(0:Int),lim:={ lines:=(2:Int),count:=(4:Int):Limits },act:={ kind:=(1:Int),sku:={ data:=#[(65:UInt8)]:ByteArray },qty:=(9:Int),past:={ vec:=[],cloud:=[]:Past }:Actn }:Wish }.act.sku,qty:={ live:=[{ dot:={ rep:=(0:Int),num:=(1:Int):Dot },sku:={ data:=#[(65:UInt8)]:ByteArray },qty:=(5:Int):Entry },{ dot:={ rep:=(1:Int),num:=(2:Int):Dot },sku:={ data:=#[(65:UInt8)]:ByteArray },qty:=(7:Int):Entry }],seen:={ vec:=[(3:Int),(3:Int)],cloud:=[]:Past },rep:=(0:Int),lim:={ lines:=(2:Int),count:=(4:Int):Limits },act:={ kind:=(1:Int),sku:={ data:=#[(65:UInt8)]:ByteArray },qty:=(9:Int),past:={ vec:=[],cloud:=[]:Past }:Actn }:Wish }.act.qty:Entry })) (fR 4 (oR 11 (c46 { dot:=(G4 { live:=[{ dot:={ rep:=(0:Int),num:=(1:Int):Dot },sku:={ data:=#[(65:UInt8)]:ByteArray },qty:=(5:Int):Entry },{ dot:={ rep:=(1:Int),num:=(2:Int):Dot },sku:={ data:=#[(65:UInt8)]:ByteArray },qty:=(7:Int):Entry }],seen:={ vec:=[(3:Int),(3:Int)],cloud:=[]:Past },rep:=(0:Int),lim:={ lines:=(2:Int),count:=(4:Int):Limits },act:={ kind:=(1:Int),sku:={ data:=#[(65:UInt8)]:ByteArray },qty:=(9:Int),past:={ vec:=[],cloud:=[]:Past }:Actn }:Wish }.seen { live:=[{ dot:={ rep:=(0:Int),num:=(1:Int):Dot },sku:={ data:=#[(65:UInt8)]:ByteArray },qty:=(5:Int):Entry },{ dot:={ rep:=(1:Int),num:=(2:Int):Dot },sku:={ data:=#[(65:UInt8)]:ByteArray },qty:=(7:Int):Entry }],seen:={ vec:=[(3:Int),(3:Int)],cloud:=[]:Past },rep:=(0:Int),lim:={ lines:=(2:Int),count:=(4:Int):Limits },act:={ kind:=(1:Int),sku:={ data:=#[(65:UInt8)]:ByteArray },qty:=(9:Int),past:={ vec:=[],cloud:=[]:Past }:Actn }:Wish }.rep { live:=[{ dot:={ rep:=(0:Int),num:=(1:Int):Dot },sku:={ data:=#[(65:UInt8)]:ByteArray },qty:=(5:Int):Entry },{ dot:={ rep:=(1:Int),num:=(2:Int):Dot },sku:={ data:=#[(65:UInt8)]:ByteArray },qty:=(7:Int):Entry }],seen:={ vec:=[(3:Int),(3:Int)],cloud:=[]:Past },rep:=(0:Int),lim:={ lines:=(2:Int),count:=(4:Int):Limits },act:={ kind:=(1:Int),sku:={ data:=#[(65:UInt8)]:ByteArray },qty:=(9:Int),past:={ vec:=[],cloud:=[]:Past }:Actn }:Wish }.lim.count).1,sku:={ live:=[{ dot:={ rep:=(0:Int),num:=(1:Int):Dot },sku:={ data:=#[(65:UInt8)]:ByteArray },qty:=(5:Int):Entry },{ dot:={ rep:=(1:Int),num:=(2:Int):Dot },sku:={ data:=#[(65:UInt8)]:ByteArray },qty:=(7:Int):Entry }],seen:={ vec:=[(3:Int),(3:Int)],cloud:=[]:Past },rep:=(0:Int),lim:={ lines:=(2:Int),count:=(4:Int):Limits },act:={ kind:=(1:Int),sku:={ data:=#[(65:UInt8)]:ByteArray },qty:=(9:Int),past:={ vec:=[],cloud:=[]:Past }:Actn }:Wish }.act.sku,qty:={ live:=[{ dot:={ rep:=(0:Int),num:=(1:Int):Dot },sku:={ data:=#[(65:UInt8)]:ByteArray },qty:=(5:Int):Entry },{ dot:={ rep:=(1:Int),num:=(2:Int):Dot },sku:={ data:=#[(65:UInt8)]:ByteArray },qty:=(7:Int):Entry }],seen:={ vec:=[(3:Int),(3:Int)],cloud:=[]:Past },rep:=(0:Int),lim:={ lines:=(2:Int),count:=(4:Int):Limits },act:={ kind:=(1:Int),sku:={ data:=#[(65:UInt8)]:ByteArray },qty:=(9:Int),past:={ vec:=[],cloud:=[]:Past }:Actn }:Wish }.act.qty:Entry }) (oR 19 (c46 { dot:=(G4 { live:=[{ dot:={ rep:=(0:Int),num:=(1:Int):Dot },sku:={ data:=#[(65:UInt8)]:ByteArray },qty:=(5:Int):Entry },{ dot:={ rep:=(1:Int),num:=(2:Int):Dot },sku:={ data:=#[(65:UInt8)]:ByteArray },qty:=(7:Int):Entry }],seen:={ vec:=[(3:Int),(3:Int)],cloud:=[]:Past },rep:=(0:Int),lim:={ lines:=(2:Int),count:=(4:Int):Limits },act:={ kind:=(1:Int),sku:={ data:=#[(65:UInt8)]:ByteArray },qty:=(9:Int),past:={ vec:=[],cloud:=[]:Past }:Actn }:Wish }.seen { live:=[{ dot:={ rep:=(0:Int),num:=(1:Int):Dot },sku:={ data:=#[(65:UInt8)]:ByteArray },qty:=(5:Int):Entry },{ dot:={ rep:=(1:Int),num:=(2:Int):Dot },sku:={ data:=#[(65:UInt8)]:ByteArray },qty:=(7:Int):Entry }],seen:={ vec:=[(3:Int),(3:Int)],cloud:=[]:Past },rep:=(0:Int),lim:={ lines:=(2:Int),count:=(4:Int):Limits },act:={ kind:=(1:Int),sku:={ data:=#[(65:UInt8)]:ByteArray },qty:=(9:Int),past:={ vec:=[],cloud:=[]:Past }:Actn }:Wish }.rep { live:=[{ dot:={ rep:=(0:Int),num:=(1:Int):Dot },sku:={ data:=#[(65:UInt8)]:ByteArray },qty:=(5:Int):Entry },{ dot:={ rep:=(1:Int),num:=(2:Int):Dot },sku:={ data:=#[(65:UInt8)]:ByteArray },qty:=(7:Int):Entry }],seen:={ vec:=[(3:Int),(3:Int)],cloud:=[]:Past },rep:=(0:Int),lim:={ lines:=(2:Int),count:=(4:Int):Limits },act:={ kind:=(1:Int),sku:={ data:=#[(65:UInt8)]:ByteArray },qty:=(9:Int),past:={ vec:=[],cloud:=[]:Past }:Actn }:Wish }.lim.count).1,sku:={ live:=[{ dot:={ rep:=(0:Int),num:=(1:Int):Dot },sku:={ data:=#[(65:UInt8)]:ByteArray },qty:=(5:Int):Entry },{ dot:={ rep:=(1:Int),num:=(2:Int):Dot },sku:={ data:=#[(65:UInt8)]:ByteArray },qty:=(7:Int):Entry }],seen:={ vec:=[(3:Int),(3:Int)],cloud:=[]:Past },rep:=(0:Int),lim:={ lines:=(2:Int),count:=(4:Int):Limits },act:={ kind:=(1:Int),sku:={ data:=#[(65:UInt8)]:ByteArray },qty:=(9:Int),past:={ vec:=[],cloud:=[]:Past }:Actn }:Wish }.act.sku,qty:={ live:=[{ dot:={ rep:=(0:Int),num:=(1:Int):Dot },sku:={ data:=#[(65:UInt8)]:ByteArray },qty:=(5:Int):Entry },{ dot:={ rep:=(1:Int),num:=(2:Int):Dot },sku:={ data:=#[(65:UInt8)]:ByteArray },qty:=(7:Int):Entry }],seen:={ vec:=[(3:Int),(3:Int)],cloud:=[]:Past },rep:=(0:Int),lim:={ lines:=(2:Int),count:=(4:Int):Limits },act:={ kind:=(1:Int),sku:={ data:=#[(65:UInt8)]:ByteArray },qty:=(9:Int),past:={ vec:=[],cloud:=[]:Past }:Actn }:Wish }.act.qty:Entry }) z0)))))))) ?_
 refine sn<|rT ?_
 exact X8 (r:=.b (true)) (obl:=[]) (by kernel_rfl) trivial (A5.refl _)
 case g0=>exact⟨by decide,by decide⟩
 case g1=>exact⟨by decide,by decide⟩
end Go.Proofs.YtphcaholhacnpaaGreat
namespace Go.Proofs.YtphcaholhacnpaaGreat
open Go.E
set_option maxRecDepth 100000
set_option maxHeartbeats 4000000
theorem Ay3{p:Past}{d:Dot}:H4 p d=true↔K3 d=true∧inR (A7 [p] d.rep.toNat) d.num:=by
 rw[← O9 p d]
 exact P5 _ d
theorem B45{r n:Int}(h:¬(r < 0∨16≤r))(h1:1≤n)(h2:n≤1000000000):K3 ⟨r,n⟩=true:=by
 unfold K3
 rw[decide_eq_true_iff]
 simp only
 omega
theorem Ay4{p:Past}{r:Int}(h:¬(r < 0∨16≤r)){n:Int}(hn:E6 p r < n):¬ H4 p ⟨r,n⟩=true:=by
 intro k
 have k1:=Ay3.1 k
 have k2:=k1.1
 unfold K3 at k2
 rw[decide_eq_true_iff]at k2
 simp only at k2
 unfold E6 at hn
 rw[if_neg h]at hn
 rcases V7 (A7 [p] r.toNat)with⟨_,a⟩ | ⟨_,_,_,a⟩
 ·exact a n (by omega) (by omega) k1.2
 ·have:=a n (by omega) (by omega) k1.2
  omega
theorem B6h{p q:Past}{r:Int}(h:¬(r < 0∨16≤r))(k:∀ d,H4 p d=true→H4 q d=true):E6 p r≤E6 q r:=by
 refine Int.not_lt.1 fun c=>?_
 have h1:=A0p q r
 have e:E6 p r=Y5 (A7 [p] r.toNat):=by unfold E6;rw[if_neg h]
 rcases V7 (A7 [p] r.toNat)with⟨a,_⟩ | ⟨a,b,a2,_⟩
 ·omega
 ·exact Ay4 h c (k _ (Ay3.2 ⟨B45 h (by omega) (by omega),by rw[e];exact a2⟩))
def B6i(w:Wish)(f:Facts):Prop:=f=default∨(∃ es,f=⟨[],(C8 es).1,[]⟩) ∨
 (∃ s,(s=E3∨G2 s=true)∧¬ C6 w.act.past=0∧f=⟨[],⟨[],[]⟩,[⟨s,A6 w.act.past⟩]⟩) ∨
 (∃ q old,G2 w.act.sku=true∧1≤q∧q≤1000000∧¬(w.rep < 0∨16≤w.rep)∧E6 w.seen w.rep < 1000000000∧(∀ d,H4 (C8 old).1 d=true→H4 w.seen d=true)∧f=⟨[⟨⟨w.rep,E6 w.seen w.rep+1⟩,w.act.sku,q⟩],(C8 old).1,[]⟩)
theorem A5a(es:List Entry):(C8 es).1=A6 (C8 es).1:=by
 by_cases h:C1 es=0
 ·rw[T9 h];exact(Af2 _).symm
 ·rw[A26 h];exact A37.symm
theorem one_in{d:Dot}{s:ByteArray}{q:Int}(h:K3 d=true)(g:G2 s=true)(h1:1≤q)(h2:q≤1000000):C1 [⟨d,s,q⟩]=0 :=
 (Ab3 _).2 ⟨fun e he=>by rw[List.mem_singleton.1 he];exact A3g.2 ⟨h,g,h1,h2⟩,List.pairwise_singleton _ _⟩
theorem shp_ok{w:Wish}{f:Facts}(h:B6i w f):okF f=true:=by
 rw[B3v,decide_eq_true_iff]
 rcases h with rfl | ⟨es,rfl⟩ | ⟨s,hs,hz,rfl⟩ | ⟨q,old,g,h1,h2,hr,hl,_,rfl⟩
 ·exact⟨rfl,A37.symm,rfl⟩
 ·exact⟨rfl,A5a es,rfl⟩
 ·exact⟨rfl,A37.symm,(B1j _).2 ⟨fun r hr=>by rw[List.mem_singleton.1 hr];exact ck_ok.2 ⟨hs,(Ar0 _).symm,fun k=>hz ((Ar9 _).1 k)⟩,List.pairwise_singleton _ _⟩⟩
 ·have:=A0p w.seen w.rep
  exact⟨one_in (B45 hr (by omega) (by omega)) g h1 h2,A5a old,rfl⟩
theorem shp_ev{w:Wish}{f:Facts}(h:B6i w f):evE f=0:=by
 have k:=shp_ok h
 unfold evE
 rw[if_neg (by rw[k];decide)]
 rcases h with rfl | ⟨es,rfl⟩ | ⟨s,hs,hz,rfl⟩ | ⟨q,old,g,h1,h2,hr,hl,hd,rfl⟩
 ·rfl
 ·rfl
 ·rw[if_neg (by simp),if_neg (by simp),if_pos ⟨rfl,rfl,(M9 _).2 B1g⟩]
 ·rw[if_pos ⟨rfl,rfl⟩]
  have:=B6h hr hd
  rw[if_pos]
  show E6 (C8 old).1 w.rep < E6 w.seen w.rep+1
  omega
theorem B6j{w:Wish}{f:Facts}(h:B6i w f):(f.adds.length:Int)=0∨¬ H4 w.seen f.adds[0]!.dot=true:=by
 rcases h with rfl | ⟨es,rfl⟩ | ⟨s,hs,hz,rfl⟩ | ⟨q,old,g,h1,h2,hr,hl,hd,rfl⟩
 ·exact .inl rfl
 ·exact .inl rfl
 ·exact .inl rfl
 ·refine .inr (Ay4 hr ?_)
  omega
theorem shp_sz{w:Wish}{f:Facts}(h:B6i w f):szF f∧f.recs.length≤1:=by
 have hd:=fun es=>Aw5 es
 have hn:szP ⟨[],[]⟩:=⟨by decide,by decide⟩
 have hdz:∀ es,szP (C8 es).1:=fun es=>by have:=hd es;exact⟨by omega,by omega⟩
 have hq0:szQ []:=fun r hr=>by cases hr
 rcases h with rfl | ⟨es,rfl⟩ | ⟨s,hs,hz,rfl⟩ | ⟨q,old,_,_,_,_,_,_,rfl⟩
 ·exact⟨⟨hn,hq0⟩,by decide⟩
 ·exact⟨⟨hdz es,hq0⟩,Nat.zero_le _⟩
 ·refine⟨⟨hn,fun r hr=>?_⟩,Nat.le_refl _⟩
  rw[List.mem_singleton.1 hr]
  have:=A0i (A7 [w.act.past])
  exact⟨by show(I4 (A7 [w.act.past])).cloud.length*16≤_;omega,by show(I4 (A7 [w.act.past])).vec.length≤_;omega⟩
 ·exact⟨⟨hdz old,hq0⟩,Nat.zero_le _⟩
theorem B2t{live:List Entry}{s:ByteArray}{r:Int}(h:C1 live=0):K9 (live.filter (K2 s r))≤K9 (live.filter (K2 s (-1))):=by
 have hq:∀ e∈live,1≤e.qty:=fun e he=>(Ab2 (A1g h e he)).1
 clear h
 induction live with
 | nil=>exact Int.le_refl _
 | cons e l ih =>
  have ih:=ih fun x hx=>hq x (List.mem_cons_of_mem _ hx)
  have:=hq e (by simp)
  have k:K2 s r e=true→K2 s (-1) e=true:=fun c=>by
   unfold K2 at c ⊢
   rw[decide_eq_true_iff]at c ⊢
   exact⟨c.1,.inl (by omega)⟩
  rw[List.filter_cons,List.filter_cons]
  by_cases a:K2 s r e=true
  ·rw[if_pos a,if_pos (k a)];simp only [K9];omega
  ·rw[if_neg a]
   by_cases b:K2 s (-1) e=true
   ·rw[if_pos b];simp only [K9];omega
   ·rw[if_neg b];exact ih
theorem Ay5{w:Wish}{q:Int}{old:List Entry}(h3:¬(w.rep < 0∨16≤w.rep))(hn:w.seen=A6 w.seen)(g:G2 w.act.sku=true)(h1:1≤q)(h2:q≤1000000)(hd:∀ d,H4 (C8 old).1 d=true→H4 w.seen d=true):B6i w (J9 w q old).1:=by
 have e:G4 w.seen w.rep w.lim.count=H1 w.seen w.rep w.lim.count:=by unfold G4;rw[if_neg fun k=>k hn]
 by_cases c:min w.lim.count 1000000000≤E6 w.seen w.rep
 ·have e2:H1 w.seen w.rep w.lim.count=(default,9):=by unfold H1;rw[if_neg h3,if_pos c]
  unfold J9
  rw[e,e2,if_pos (by decide)]
  exact .inl rfl
 ·have e2:H1 w.seen w.rep w.lim.count=(⟨w.rep,E6 w.seen w.rep+1⟩,0):=by unfold H1;rw[if_neg h3,if_neg c]
  unfold J9
  rw[e,e2,if_neg (by simp)]
  have:=A0p w.seen w.rep
  by_cases z:E6 w.seen w.rep < 1000000000
  ·exact .inr (.inr (.inr ⟨q,old,g,h1,h2,h3,z,hd,rfl⟩))
  ·omega
theorem Ay6{live:List Entry}{seen:Past}(h:C1 live=0)(hn:seen=A6 seen)(hs:¬ 0 <((F0 live seen false).1.length:Int))(p:Entry→Bool):∀ d,H4 (C8 (live.filter p)).1 d=true→H4 seen d=true:=fun d k=>by
 rw[T9 (U4 h p)]at k
 obtain⟨e,he,_,rfl⟩:=(A1h h).1 k
 have z:=(M9 _).1 ((A3x h hn).2 hs) e.dot
 rw[A9z]at z
 have h4:H4 (G3 live E3 (-1)) e.dot=true:=(A1h h).2 ⟨e,he,by unfold Ab7;simp,rfl⟩
 rw[h4]at z
 cases c:H4 seen e.dot with
 | true=>rfl
 | false=>rw[c]at z;cases z
theorem Ay7{w:Wish}{s:ByteArray}(hs:s=E3∨G2 s=true):B6i w (H2 s w.act.past):=by
 unfold H2
 by_cases c:C6 w.act.past=0
 ·rw[if_pos c];exact .inl rfl
 ·rw[if_neg c];exact .inr (.inr (.inl ⟨s,hs,c,rfl⟩))
theorem Ab9(w:Wish):B6i w (B4 w).1:=by
 by_cases h1:¬ C1 w.live=0∨¬ w.seen=A6 w.seen
 ·rw[C2 h1];exact .inl rfl
 by_cases h2:0 <((F0 w.live w.seen false).1.length:Int)
 ·rw[C3 h1 h2];exact .inl rfl
 by_cases h3:w.rep < 0∨16≤w.rep
 ·rw[C9 h1 h2 h3];exact .inl rfl
 by_cases h4:w.lim.lines < 1∨1000 < w.lim.lines∨w.lim.count < 1∨1000000000 < w.lim.count
 ·rw[D0 h1 h2 h3 h4];exact .inl rfl
 by_cases h5:¬ G8 w.act=0
 ·rw[D3 h1 h2 h3 h4 h5];exact .inl rfl
 rw[D9 h1 h2 h3 h4 h5]
 have hl:=Classical.not_not.1 fun k=>h1 (.inl k)
 have hn:=Classical.not_not.1 fun k=>h1 (.inr k)
 have hd:=Ay6 hl hn h2
 rcases U2 (Classical.not_not.1 h5)with k | k | k | k | k | k
 ·have g:=J1 h5 (by omega)
  have q:=A1s h5 (.inl k)
  rw[Aw9 k]
  unfold U0
  by_cases c:A0w w=true
  ·rw[if_pos c];exact .inl rfl
  ·rw[if_neg c,A8s hl g];exact Ay5 h3 hn g q.1 q.2 (hd _)
 ·have g:=J1 h5 (by omega)
  have q:=A1s h5 (.inr k)
  rw[Ax0 k]
  unfold M1
  by_cases c:A0w w=true
  ·rw[if_pos c];exact .inl rfl
  ·rw[if_neg c]
   by_cases c2:1000000 <(O2 (ofV w.live w.act.sku).1).1+w.act.qty
   ·rw[if_pos c2];exact .inl rfl
   ·rw[if_neg c2]
    have z:=A0x (I6 w.live w.rep w.act.sku).1
    have y:(O2 (I6 w.live w.rep w.act.sku).1).1≤(O2 (ofV w.live w.act.sku).1).1:=by
     rw[A6x hl g h3,A8s hl g,Z4 (U4 hl _),Z4 (U4 hl _)]
     exact B2t hl
    rw[A6x hl g h3]at z y ⊢
    exact Ay5 h3 hn g (by omega) (by omega) (hd _)
 ·rw[Ax1 k]
  unfold U1
  by_cases c:((ofV w.live w.act.sku).1.length:Int)=0
  ·rw[if_pos c];exact .inl rfl
  ·rw[if_neg c];exact .inr (.inl ⟨_,rfl⟩)
 ·rw[Ax2 k];exact Ay7 (.inr (J1 h5 (by omega)))
 ·rw[B2j k];exact .inr (.inl ⟨_,rfl⟩)
 ·rw[Ax3 k];exact Ay7 (.inl rfl)
end Go.Proofs.YtphcaholhacnpaaGreat
namespace Go.Proofs.YtphcaholhacnpaaGreat
open Go.E
set_option maxRecDepth 100000
set_option maxHeartbeats 4000000
theorem con3(w:Wish)(hs:w.live.length*40≤140737488351232)(hb:szP w.seen)(hp:szP w.act.past):Con Tryz.prog 3 [.agg (c32 w)] (.b true) :=
 by
 have SZ:szF (E5 w.live w.seen w.rep w.lim w.act).1∧(E5 w.live w.seen w.rep w.lim w.act).1.recs.length≤1:=shp_sz (Ab9 w)
 have EV:evE (E5 w.live w.seen w.rep w.lim w.act).1=0:=shp_ev (Ab9 w)
 have NW:((E5 w.live w.seen w.rep w.lim w.act).1.adds.length:Int)=0∨¬ H4 w.seen (E5 w.live w.seen w.rep w.lim w.act).1.adds[0]!.dot=true:=B6j (Ab9 w)
 refine sC B3 [.tmp 2] 66 Tryz.func3 ?_
 intro e0 cx
 refine sq<|rG cx [1] [1] z0<|sn<|sq<|sq<|rG cx [1,8] [1] (fT (con13 ) (oA 0 (.b (true)) z0))<|sn<|W5 (by kernel_rfl) (by kernel_rfl)<|sK<|sn<|sq<|rG cx [1,3,4] [1,3] (fT (con14 (w.live) (w.seen) (w.rep) (w.lim) (w.act) (by(with_reducible assumption)) (by(with_reducible assumption)) (by(with_reducible assumption))) (oA 10 (.tup [.agg [.sl (List.map c46 (E5 w.live w.seen w.rep w.lim w.act).1.adds),.sl (List.map c3 (E5 w.live w.seen w.rep w.lim w.act).1.gone.vec),.sl (List.map B1 (E5 w.live w.seen w.rep w.lim w.act).1.gone.cloud),.sl (List.map c54 (E5 w.live w.seen w.rep w.lim w.act).1.recs)],.i .i64 ((E5 w.live w.seen w.rep w.lim w.act).2)]) z0))<|sn<|sq<|rG cx [1,3,4,5,6] [1,3,5] (fT (con15 (w.live) (w.seen) (w.rep) (w.lim) (w.act) (by(with_reducible assumption)) (by(with_reducible assumption)) (by(with_reducible assumption))) (oA 10 (.tup [.agg [.sl (List.map c46 (E5 w.live w.seen w.rep w.lim w.act).1.adds),.sl (List.map c3 (E5 w.live w.seen w.rep w.lim w.act).1.gone.vec),.sl (List.map B1 (E5 w.live w.seen w.rep w.lim w.act).1.gone.cloud),.sl (List.map c54 (E5 w.live w.seen w.rep w.lim w.act).1.recs)],.i .i64 ((E5 w.live w.seen w.rep w.lim w.act).2)]) z0))<|sn<|sq<|sq<|rG cx [1,5,6,45] [1,5] (tT 2 (Ad3:AV.b ((E5 w.live w.seen w.rep w.lim w.act).2 !=(E5 w.live w.seen w.rep w.lim w.act).2)=AV.b false) (fT (con16 ((E5 w.live w.seen w.rep w.lim w.act).1) ((E5 w.live w.seen w.rep w.lim w.act).1) (by exact SZ.1) (by exact Nat.le_trans SZ.2 (by decide))) (tQ 7 ((E5 w.live w.seen w.rep w.lim w.act).1=(E5 w.live w.seen w.rep w.lim w.act).1) (oA 6 (.b (decide ((E5 w.live w.seen w.rep w.lim w.act).1=(E5 w.live w.seen w.rep w.lim w.act).1))) z0)))) ?_
 refine sn<|A4e (¬(E5 w.live w.seen w.rep w.lim w.act).1=(E5 w.live w.seen w.rep w.lim w.act).1) (by kernel_rfl) (by kernel_rfl) (fun h0=>absurd h0 (fun hn=>hn rfl)) (fun h0=>?_)
 refine sK<|sn<|sq<|sq<|rG cx [1,5,47] [1,5] (tN 1 ((E5 w.live w.seen w.rep w.lim w.act).2) (0:Int) z0)<|sn<|dC (¬(E5 w.live w.seen w.rep w.lim w.act).2=0) (fun h1=>?_) fun h1=>?_
 refine sq<|rG cx [2] [] z0<|sn<|rT<|nR ?_
 exact X8 (r:=.b (true)) (obl:=[]) (by kernel_rfl) trivial (A5.refl _)
 refine sK<|sn<|sq<|sq<|rG cx [1,5,50] [1,5] (fT (con17 ((E5 w.live w.seen w.rep w.lim w.act).1) (by exact SZ.1)) (tN 2 (evE (E5 w.live w.seen w.rep w.lim w.act).1) (0:Int) (oA 1 (.i .i64 (evE (E5 w.live w.seen w.rep w.lim w.act).1)) z0))) ?_
 refine sn<|dC (¬evE (E5 w.live w.seen w.rep w.lim w.act).1=0) (fun h2=>?_) fun h2=>?_
 refine sq<|rG cx [2] [] z0<|sn<|rT<|nR<|qR (.b (false)) (.eq (by exact absurd EV h2))
 refine sK<|sn<|sq<|A9 (σ':=⟨[(2,.b (decide ((↑(E5 w.live w.seen w.rep w.lim w.act).1.adds.length:Int)=0∨¬H4 w.seen (E5 w.live w.seen w.rep w.lim w.act).1.adds[(0:Nat)]!.dot=true)))],[]⟩) ?_ ?_
 refine A4 ((↑(E5 w.live w.seen w.rep w.lim w.act).1.adds.length:Int)=0) (fun h4=>?_) (fun h4=>?_)
 refine rA cx [2] [] (tL 2 c46 ((E5 w.live w.seen w.rep w.lim w.act).1.adds) (tT 3 (A3 h4) (tD 15 true ((↑(E5 w.live w.seen w.rep w.lim w.act).1.adds.length:Int)=0∨¬H4 w.seen (E5 w.live w.seen w.rep w.lim w.act).1.adds[(0:Nat)]!.dot=true) (by simp only [eq_true h4,tsl]) z0))) ?_
 exact⟨rfl,by kernel_rfl⟩
 refine rA cx [2] [] (tL 2 c46 ((E5 w.live w.seen w.rep w.lim w.act).1.adds) (tT 3 (A0 h4) (fO ((0:Int)≤(0:Int)) (fP ((List.map c46 (E5 w.live w.seen w.rep w.lim w.act).1.adds)[Int.toNat (0:Int)]?=some (c46 (E5 w.live w.seen w.rep w.lim w.act).1.adds[(0:Nat)]!)) ?g4 (fR 4 (fN 2 4 (fT (con18 (w.seen) ((E5 w.live w.seen w.rep w.lim w.act).1.adds[(0:Nat)]!.dot) (by have:=hb.1;omega)) (tT 13 (E7:(AV.b !H4 w.seen (E5 w.live w.seen w.rep w.lim w.act).1.adds[(0:Nat)]!.dot)=AV.b (decide ¬H4 w.seen (E5 w.live w.seen w.rep w.lim w.act).1.adds[(0:Nat)]!.dot=true)) (tD 15 (decide ¬H4 w.seen (E5 w.live w.seen w.rep w.lim w.act).1.adds[(0:Nat)]!.dot=true) ((↑(E5 w.live w.seen w.rep w.lim w.act).1.adds.length:Int)=0∨¬H4 w.seen (E5 w.live w.seen w.rep w.lim w.act).1.adds[(0:Nat)]!.dot=true) (by simp only [eq_false h4,tsl]) (oR 9 (c46 (E5 w.live w.seen w.rep w.lim w.act).1.adds[(0:Nat)]!) (oA 12 (.b (H4 w.seen (E5 w.live w.seen w.rep w.lim w.act).1.adds[(0:Nat)]!.dot)) z0))))))))))) ?_;rotate_left
 exact⟨rfl,by kernel_rfl⟩
 refine sn<|rT<|qR (.b (decide ((↑(E5 w.live w.seen w.rep w.lim w.act).1.adds.length:Int)=0∨¬H4 w.seen (E5 w.live w.seen w.rep w.lim w.act).1.adds[(0:Nat)]!.dot=true))) (.eq ?g6);rotate_left
 case g4 =>
  exact head0 _ fun k=>h4 (by rw[k];rfl)
 case g6 =>
  revert h0 h1 h2
  intros
  exact congrArg AV.b (decide_eq_true NW)
end Go.Proofs.YtphcaholhacnpaaGreat
namespace Go.E
open Go.RowKit Go.ChangeShapes Go.WideShapes Go.ChangeAt
def TyA(T:Tab)(L n t:Nat)(av:AV):Prop :=
 match look T t with
 | some ti=>if ti.isAgg then ∃ cs,av=.agg cs∧TyC T L n t cs else TyC T L n t [av]
 | none=>False
def B2u(T:Tab)(L n:Nat):List Nat→List AV→Prop
 | [],[]=>True
 | t :: ts,a :: aL=>TyA T L n t a∧B2u T L n ts aL
 | _,_=>False
section
variable {P : Program} {T : Tab} {H : Type} {enc : TypeId × Value → H} {W : World} {spare : Nat → Bool} {held : Bool}
theorem A4b(hT:TabOk P T){n t:Nat}{ti:TI}(hti:look T t=some ti)(hp:L2 T n t=true)(hg:ti.isAgg=false){r:Reach}{base:Nat}{v:Value}(hv:Value.okWide P W r base t v):v.oneCell'=true∨∃ x,v=x∧v.cells=#[v]:=by
 have hu:=(hT t ti hti).1
 unfold Value.okWide at hv
 rw[hu]at hv
 cases n with
 | zero=>simp [L2]at hp
 | succ n =>
  unfold L2 at hp
  rw[hti]at hp
  simp only at hp
  unfold TI.isAgg at hg
  cases hd:ti.desc with
  | bool=>rw[hd]at hv;simp only [Cell.okWide,hu,hd,Cell.ok]at hv;cases v <;> simp_all [Value.oneCell',Value.cells]
  | int k=>rw[hd]at hv;simp only [Cell.okWide,hu,hd,Cell.ok]at hv;cases v <;> simp_all [Value.oneCell',Value.cells]
  | string=>rw[hd]at hv;simp only [Cell.okWide,hu,hd,Cell.ok]at hv;cases v <;> simp_all [Value.oneCell',Value.cells]
  | slice e=>rw[hd]at hv;simp only [Cell.okWide,hu,hd,Cell.ok]at hv;cases v <;> simp_all [Value.oneCell',Value.cells]
  | struct fs=>rw[hd]at hg;simp at hg
  | array k e=>rw[hd]at hg;simp at hg
  | _=>rw[hd]at hp;first | exact absurd hp Bool.false_ne_true | cases hp
theorem B2v(hT:TabOk P T){n t:Nat}(hp:L2 T n t=true){r:Reach}{base:Nat}{v:Value}{d:DataW H}{ps:List MemPlace}(hv:Value.okWide P W r base t v)
  (hd:DataW.Trod enc P W 0 spare held t v d ps) (hw:∀ m∈d.weights P t,m≤reachBytes) {L:Nat} (hL:bulkD d≤L):∃ av,RelV0 (fun k=>k < W.heap.size) W av v∧TyA T L n t av:=by
 obtain⟨ti,hti⟩:=Q1 hp
 obtain⟨fuel,hf⟩:=hd
 obtain⟨avs,hc,hty⟩:=B0y hT n t hp fuel _ _ _ hf hw L hL
 by_cases hg:ti.isAgg=true
 ·have hu:=(hT t ti hti).1
  have hv':=hv
  unfold Value.okWide at hv'
  rw[hu]at hv'
  have:∃ cs,v=.agg cs:=by
   unfold TI.isAgg at hg
   split at hg
   ·rename_i fs hd;rw[hd]at hv';obtain⟨cs,h,_⟩:=hv';exact⟨cs,h⟩
   ·rename_i k e hd;rw[hd]at hv';obtain⟨cs,h,_⟩:=hv';exact⟨cs,h⟩
   ·cases hg
  obtain⟨cs,rfl⟩:=this
  refine⟨.agg avs,?_,by unfold TyA;rw[hti];simp only [hg,if_true];exact⟨avs,rfl,hty⟩⟩
  have:=RelV0.agg (S:=fun k=>k < W.heap.size) (w:=W) avs cs.toList (by rw[hc.1];simp [Value.cells]) (fun u hu=>hc.2.1 u (by simpa [Value.cells]using hu)) (fun j a u ha hu=>hc.2.2 j a u ha (by simpa [Value.cells]using hu))
  simpa using this
 ·have hg':ti.isAgg=false:=by simpa using hg
  have h1:v.cells.toList=[v]:=by
   rcases A4b hT hti hp hg' hv with h | ⟨_,_,h⟩
   ·cases v <;> simp_all [Value.oneCell',Value.cells]
   ·rw[h]
  rw[h1]at hc
  obtain⟨c1,_,c3⟩:=hc
  match avs,c1,c3,hty with
  | [a],_,c3,hty=>exact⟨a,c3 0 a v rfl rfl,by unfold TyA;rw[hti];simp only [hg',Bool.false_eq_true,if_false];exact hty⟩
theorem A94(hT:TabOk P T){L n:Nat}{r:Reach}{base:Nat}:∀(ts:List Nat) (vs:List Value) (ds:List (DataW H)) (ps:List MemPlace),(∀ t∈ts,L2 T n t=true) →
  (∀(j:Nat) t v,ts[j]?=some t→vs[j]?=some v→Value.okWide P W r base t v)→DataW.TrodAll enc P W 0 spare held ts vs ds ps→(∀ m∈DataW.weightsEach P ts ds,m≤reachBytes)→bulkDs ds≤L →
  ∃ avs:List AV,avs.length=vs.length∧(∀(j:Nat) (a:AV) (u:Value),avs[j]?=some a→vs[j]?=some u→RelV0 (fun k=>k < W.heap.size) W a u)∧B2u T L n ts avs∧ds.length=ts.length
 | [],[],[],ps,_,_,_,_,_=>⟨[],rfl,fun j a u ha=>by simp at ha,trivial,rfl⟩
 | t :: ts,v :: vs,d :: ds,ps,hp,hv,hA,hw,hL=>by
  simp only [bulkDs]at hL
  obtain⟨p,q,h1,h2,_⟩:=hA
  obtain⟨a,e1,e2⟩:=B2v hT (hp t (by simp)) (hv 0 t v rfl rfl) h1 (fun m hm=>hw m (by simp only [DataW.weightsEach,List.mem_append];exact .inl hm)) (L:=L) (by omega)
  obtain⟨aL,f1,f2,f3,f4⟩:=A94 (L:=L) hT ts vs ds q (fun t ht=>hp t (List.mem_cons_of_mem _ ht)) (fun j t v ht hv'=>hv (j+1) t v (by simpa using ht) (by simpa using hv')) h2 (fun m hm=>hw m (by simp only [DataW.weightsEach,List.mem_append];exact .inr hm)) (by omega)
  refine⟨a :: aL,by simp [f1],fun j b u hb hu=>?_,⟨e2,f3⟩,by simp [f4]⟩
  cases j with
  | zero=>simp at hb hu;subst hb hu;exact e1
  | succ j=>exact f2 j b u (by simpa using hb) (by simpa using hu)
 | [],_ :: _,_,_,_,_,hA,_,_=>hA.elim
 | [],[],_ :: _,_,_,_,hA,_,_=>hA.elim
 | _ :: _,[],_,_,_,_,hA,_,_=>hA.elim
 | _ :: _,_ :: _,[],_,_,_,hA,_,_=>hA.elim
theorem A11(hl:laidOutB P=true){W':World}(hb:Below W.heap.size W W'):∀(ts:List Nat) (vs:List Value) (ds:List (DataW H)) (ps:List MemPlace),(∀ t∈ts,P.readableRec t=true∧t < P.types.size) →
  (∀ x∈ps,x.block < W.heap.size)→DataW.TrodAll enc P W 0 (fun _=>true) true ts vs ds ps→DataW.TrodAll enc P W' 0 (fun b=>decide (b < W.heap.size)) true ts vs ds ps
 | [],[],[],ps,_,_,h=>h
 | t :: ts,v :: vs,d :: ds,ps,hr,hlt,h=>by
  obtain⟨p,q,h1,h2,rfl⟩:=h
  exact⟨p,q,Below.trod hl (hr t (by simp)).1 (hr t (by simp)).2 h1 hb (fun x hx=>hlt x (List.mem_append_left _ hx)),
   A11 hl hb ts vs ds q (fun t ht=>hr t (List.mem_cons_of_mem _ ht)) (fun x hx=>hlt x (List.mem_append_right _ hx)) h2,rfl⟩
 | [],_ :: _,_,_,_,_,hA=>hA.elim
 | [],[],_ :: _,_,_,_,hA=>hA.elim
 | _ :: _,[],_,_,_,_,hA=>hA.elim
 | _ :: _,_ :: _,[],_,_,_,hA=>hA.elim
end
theorem B2w{T:Tab}{C:Checked}{f:FuncId}{fn:Func}{s:ChangeSpec}{H:Type}{enc:TypeId×Value→H}(ts:List Nat)(tb L n:Nat)
  (hT:TabOk C.prog T) (hl:laidOutB C.prog=true)
  (hts:fn.params=ts.toArray) (htb:fn.resultTypes=#[tb]) (hub:C.prog.underlying tb=some .bool) (hpl:ts.all (fun t=>L2 T n t && C.prog.readableRec t && Nat.blt t C.prog.types.size)=true)
  (hvars:s.vars=[]) (hspec:∀ ds:List (DataW H),ds.length=ts.length→s.fn H (ds++[])={ results:=[.lit (.bool true)],args:=ds })
  (hcon:∀ avs,B2u T L n ts avs→Con C.prog f avs (.b true)) {W:World} {base:Nat} {args:Array Value} {ds gs:List (DataW H)} {before:List MemPlace} {us:List Nat}
  (hval:∀(j:Nat) t v,fn.params[j]?=some t→args[j]?=some v→Value.okWide C.prog W .any base t v) (hW:DataW.Whole enc C.prog fn.params.toList s.vars false W args.toList ds gs before)
  (hsz:(DataW.weightsEach C.prog (fn.params.toList++us) (ds++gs)).all (·≤reachBytes)=true) (hbk:bulkDs (ds++gs)≤L) :
  Calls C.prog f args W fun e W'=>∃ v,e=.returned v∧s.post enc C.prog fn false true false false W args v W':=by
 have hW':=hW
 obtain⟨p,q,hA,hV,rfl,_,_⟩:=hW
 rw[hvars]at hV
 obtain⟨rfl,rfl⟩:=trodVars_none hV
 rw[List.append_nil]at hW' hbk
 have hpars:fn.params.toList=ts:=by rw[hts]
 have hA':DataW.TrodAll enc C.prog W 0 (fun _=>true) true ts args.toList ds p:=by rw[← hpars];exact hA
 have hpl':∀ t∈ts,L2 T n t=true∧C.prog.readableRec t=true∧t < C.prog.types.size:=by
  intro t ht
  have:=List.all_eq_true.1 hpl t ht
  simp only [Bool.and_eq_true]at this
  exact⟨this.1.1,this.1.2,by simpa using this.2⟩
 have hw:∀ m∈DataW.weightsEach C.prog ts ds,m≤reachBytes:=by
  intro m hm
  have hsz':=hsz
  rw[List.append_nil,hpars]at hsz'
  have hsub:∀(ts us:List Nat) (ds:List (DataW H)),∀ m∈DataW.weightsEach C.prog ts ds,m∈DataW.weightsEach C.prog (ts++us) ds:=by
   intro ts us ds
   induction ts generalizing ds with
   | nil=>intro m hm;cases ds <;> simp [DataW.weightsEach]at hm
   | cons t ts ih =>
    intro m hm
    cases ds with
    | nil=>simp [DataW.weightsEach]at hm
    | cons d ds =>
     simp only [DataW.weightsEach,List.cons_append,List.mem_append]at hm ⊢
     rcases hm with hm | hm
     ·exact .inl hm
     ·exact .inr (ih ds m hm)
  have:=List.all_eq_true.1 hsz' m (hsub ts _ ds m hm)
  simpa using this
 obtain⟨avs,h1,h2,h3,h4⟩:=A94 hT ts args.toList ds p (fun t ht=>(hpl' t ht).1) (fun j t v ht hv=>hval j t v (by rw[hts];simpa using ht) (by simpa using hv)) hA' hw hbk
 have hlt:∀ x∈p,x.block < W.heap.size:=fun x hx=>hW'.lt x hx
 have hsp:=hspec ds h4
 have:=(hcon avs h3).2 W (fun k=>k < W.heap.size) args.toList (fun _ h=>h) (by rw[h1]) h2
 rw[Array.toArray_toList]at this
 refine this.mono fun e W' ⟨v,he,hr,hb⟩=>?_
 cases hr with
 | b =>
  refine⟨_,he,ds,[],p,[],p,[],hW',?_,?_,?_,hb.frame _,fun h=>by cases h⟩
  ·rw[hsp,htb]
   exact trodAll_mk1 (shut_bool hub true)
  ·rw[hsp,hpars]
   exact A11 hl hb ts args.toList ds p (fun t ht=>(hpl' t ht).2) hlt hA'
  ·rw[hsp,hvars]
   rfl
theorem Al4{T:Tab}{C:Checked}{os:Os}{f:FuncId}{fn:Func}{s:ChangeSpec}{conds:List PathCond}{H:Type}{enc:TypeId×Value→H}(ts:List Nat)(tb n:Nat)
  (hT:TabOk C.prog T) (hl:laidOutB C.prog=true) (own:ownKnob C.prog.godebug=none) (started:os.Started) (noInit:C.prog.inits.idxOf? f=none) (hfn:C.prog.funcs[f]?=some fn)
  (hts:fn.params=ts.toArray) (htb:fn.resultTypes=#[tb]) (hub:C.prog.underlying tb=some .bool) (hpl:ts.all (fun t=>L2 T n t && C.prog.readableRec t && Nat.blt t C.prog.types.size)=true)
  (hvars:s.vars=[]) (hspec:∀ ds:List (DataW H),ds.length=ts.length→s.fn H (ds++[])={ results:=[.lit (.bool true)],args:=ds })
  (witness:∃(w:World) (tape:Tape) (i:Input),w.os=os∧(w.forCall tape i).Shaped C.prog∧i.vars=[]∧Input.okWide C.prog (w.forCall tape i) .any w.heap.size f i ∧
   s.pre6 enc C.prog fn conds false (w.forCall tape i).memory i.args∧({}:Assume).holds C.prog (lone (Frame.enter C.prog f i.args .normal) [] (w.forCall tape i)))
  (hcon:∀ L avs,B2u T L n ts avs→Con C.prog f avs (.b true)) :
  ReturnsInHanded {} C os f .any (s.pre6 enc C.prog fn conds false) (s.post enc C.prog fn false true false false):=by
 refine returnsInHanded_of_change_sized own started noInit hfn witness ?_
 intro W base args ds gs before hval hW _ hsz _
 exact B2w ts tb (bulkDs (ds++gs)) n hT hl hts htb hub hpl hvars hspec (hcon _) hval hW hsz (Nat.le_refl _)
theorem X7{α:Type}{g:α→List AV}{Q:α→Prop}{C:List AV→Prop}(h:∀ r,C r→∃ x,r=g x∧Q x):∀(rows:List (List AV)),(∀ r∈rows,C r)→∃ xs:List α,rows=xs.map g∧∀ x∈xs,Q x
 | [],_=>⟨[],rfl,fun x hx=>by simp at hx⟩
 | r :: rows,hr=>by
  obtain⟨x,h1,h2⟩:=h r (hr r (by simp))
  obtain⟨xs,h3,h4⟩:=X7 h rows fun q hq=>hr q (List.mem_cons_of_mem _ hq)
  refine⟨x :: xs,by rw[h1,h3];rfl,fun y hy=>?_⟩
  rcases List.mem_cons.1 hy with rfl | hy
  ·exact h2
  ·exact h4 y hy
end Go.E
namespace Go.Proofs.YtphcaholhacnpaaGreat
open Go.E
set_option maxRecDepth 100000
set_option maxHeartbeats 4000000
open Go.ChangeShapes Go.WideShapes Go.ChangeAt Go.RowKit Go
theorem Tryz.own:Go.ownKnob Tryz.prog.godebug=none:=by kernel_rfl
theorem Tryz.laidOut:laidOutB Tryz.prog=true:=by kernel_rfl
def inr(n:Int):Prop:=-9223372036854775808≤n∧n≤9223372036854775807
theorem ty3{L n:Nat}{cs:List AV}(h:TyC tab L (n+1) 3 cs):∃ x,cs=c3 x∧inr x:=by
 obtain⟨x,rfl,h1,h2⟩:=h
 exact⟨x,rfl,h1,h2⟩
theorem ty44{L n:Nat}{cs:List AV}(h:TyC tab L (n+2) 44 cs):∃ d:Dot,cs=c44 d∧inr d.rep∧inr d.num:=by
 obtain⟨a,b,rfl,ha,c,d,rfl,hc,rfl⟩:=h
 obtain⟨x,rfl,hx⟩:=ty3 ha
 obtain⟨y,rfl,hy⟩:=ty3 hc
 exact⟨⟨x,y⟩,rfl,hx,hy⟩
theorem ty9{L n:Nat}{cs:List AV}(h:TyC tab L (n+1) 9 cs):∃ s:ByteArray,cs=[.s s]∧s.size≤140737488351232:=by
 obtain⟨s,rfl,_,h2,_⟩:=h
 exact⟨s,rfl,h2⟩
theorem ty141{L n:Nat}{cs:List AV}(h:TyC tab L (n+2) 141 cs):∃ d:Span,cs=B1 d∧inr d.rep∧inr d.lo∧inr d.hi:=by
 obtain⟨a,b,rfl,ha,c,d,rfl,hc,e,f,rfl,he,rfl⟩:=h
 obtain⟨x,rfl,hx⟩:=ty3 ha
 obtain⟨y,rfl,hy⟩:=ty3 hc
 obtain⟨z,rfl,hz⟩:=ty3 he
 exact⟨⟨x,y,z⟩,rfl,hx,hy,hz⟩
def inE(e:Entry):Prop:=inr e.dot.rep∧inr e.dot.num∧e.sku.size≤140737488351232∧inr e.qty
theorem ty46{L n:Nat}{cs:List AV}(h:TyC tab L (n+3) 46 cs):∃ e:Entry,cs=c46 e∧inE e:=by
 obtain⟨a,b,rfl,ha,c,d,rfl,hc,e,f,rfl,he,rfl⟩:=h
 obtain⟨x,rfl,hx⟩:=ty44 ha
 obtain⟨y,rfl,hy⟩:=ty9 hc
 obtain⟨z,rfl,hz⟩:=ty3 he
 exact⟨⟨x,y,z⟩,rfl,hx.1,hx.2,hy,hz⟩
theorem ty22{L n:Nat}{cs:List AV}(h:TyC tab L (n+4) 22 cs):∃ xs:List Entry,cs=[.sl (xs.map c46)]∧((∀ x∈xs,inE x)∧xs.length*40≤140737488351232)∧xs.length≤L:=by
 obtain⟨rows,rfl,h1,h2,hL,h3⟩:=h
 obtain⟨xs,rfl,hx⟩:=X7 (fun r hr=>ty46 hr) rows h3
 exact⟨xs,rfl,⟨hx,by rw[List.length_map]at h2;exact h2⟩,by rw[List.length_map]at hL;exact hL⟩
mutual
theorem bulk_eq {H : Type} : ∀ d : DataW H, Rows.uptoBulk d = bulkD d
  | .lit l => by cases l <;> simp [Rows.uptoBulk, bulkD]
  | .nil => by simp [Rows.uptoBulk, bulkD]
  | .ptr d => by simp only [Rows.uptoBulk, bulkD, bulk_eq d]
  | .slice elems spare => by simp only [Rows.uptoBulk, bulkD, bulks_eq elems, bulks_eq spare]
  | .agg parts => by simp only [Rows.uptoBulk, bulkD, bulks_eq parts]
  | .iface _ d => by simp only [Rows.uptoBulk, bulkD, bulk_eq d]
  | .map entries => by simp only [Rows.uptoBulk, bulkD, bulkm_eq entries]
  | .held _ => by simp [Rows.uptoBulk, bulkD]
theorem bulks_eq {H : Type} : ∀ l : List (DataW H), Rows.uptoBulkAll l = bulkDs l
  | [] => by simp [Rows.uptoBulkAll, bulkDs]
  | d :: r => by simp only [Rows.uptoBulkAll, bulkDs, bulk_eq d, bulks_eq r]
theorem bulkm_eq {H : Type} : ∀ l : List (Lit × DataW H), Rows.uptoBulkEntries l = bulkDm l
  | [] => by simp [Rows.uptoBulkEntries, bulkDm]
  | x :: r => by simp only [Rows.uptoBulkEntries, bulkDm, bulke_eq x, bulkm_eq r]
theorem bulke_eq {H : Type} : ∀ x : Lit × DataW H, Rows.uptoBulkEntry x = bulkDe x
  | (l, d) => by cases l <;> simp only [Rows.uptoBulkEntry, bulkDe, bulk_eq d]
end
end Go.Proofs.YtphcaholhacnpaaGreat
namespace Go.Proofs.YtphcaholhacnpaaGreat
open Go.E
set_option maxRecDepth 100000
set_option maxHeartbeats 4000000
def inPL(L:Nat)(p:Past):Prop:=szP p∧p.cloud.length≤L∧p.vec.length≤L
theorem ly23{L n:Nat}{cs:List AV}(h:TyC tab L (n+2) 23 cs):∃ xs:List Int,cs=c23 xs∧xs.length*8≤140737488351232∧xs.length≤L:=by
 obtain⟨rows,rfl,h1,h2,hL,h3⟩:=h
 obtain⟨xs,rfl,hx⟩:=X7 (fun r hr=>ty3 hr) rows h3
 exact⟨xs,rfl,by rw[List.length_map]at h2;exact h2,by rw[List.length_map]at hL;exact hL⟩
theorem ly24{L n:Nat}{cs:List AV}(h:TyC tab L (n+3) 24 cs):∃ xs:List Span,cs=[.sl (xs.map B1)]∧xs.length*24≤140737488351232∧xs.length≤L:=by
 obtain⟨rows,rfl,h1,h2,hL,h3⟩:=h
 obtain⟨xs,rfl,hx⟩:=X7 (fun r hr=>ty141 hr) rows h3
 exact⟨xs,rfl,by rw[List.length_map]at h2;exact h2,by rw[List.length_map]at hL;exact hL⟩
theorem ly26{L n:Nat}{cs:List AV}(h:TyC tab L (n+4) 26 cs):∃ p:Past,cs=c26 p∧inPL L p:=by
 obtain⟨a,b,rfl,ha,c,d,rfl,hc,rfl⟩:=h
 obtain⟨x,rfl,hx⟩:=ly23 (L:=L) (n:=n+1) ha
 obtain⟨y,rfl,hy⟩:=ly24 hc
 exact⟨⟨x,y⟩,rfl,⟨by simp only;omega,by simp only;omega⟩,hy.2,hx.2⟩
theorem ly30{L n:Nat}{cs:List AV}(h:TyC tab L (n+5) 30 cs):∃ a:Actn,cs=c30 a∧inr a.kind∧inr a.qty∧inPL L a.past:=by
 obtain⟨a,b,rfl,ha,a2,b2,rfl,ha2,a3,b3,rfl,ha3,a4,b4,rfl,ha4,rfl⟩:=h
 obtain⟨x1,rfl,h1⟩:=ty3 (L:=L) (n:=n+3) ha
 obtain⟨x2,rfl,h2⟩:=ty9 (L:=L) (n:=n+3) ha2
 obtain⟨x3,rfl,h3⟩:=ty3 (L:=L) (n:=n+3) ha3
 obtain⟨x4,rfl,h4⟩:=ly26 ha4
 exact⟨⟨x1,x2,x3,x4⟩,rfl,h1,h3,h4⟩
theorem ly28{L n:Nat}{cs:List AV}(h:TyC tab L (n+2) 28 cs):∃ l:Limits,cs=c28 l∧inr l.lines∧inr l.count:=by
 obtain⟨a,b,rfl,ha,c,d,rfl,hc,rfl⟩:=h
 obtain⟨x,rfl,hx⟩:=ty3 ha
 obtain⟨y,rfl,hy⟩:=ty3 hc
 exact⟨⟨x,y⟩,rfl,hx,hy⟩
def inWL(L:Nat)(w:Wish):Prop:=(w.live.length*40≤140737488351232∧w.live.length≤L)∧inPL L w.seen∧inr w.act.kind∧inr w.act.qty∧inPL L w.act.past∧inr w.rep∧inr w.lim.lines∧inr w.lim.count
theorem ly32{L n:Nat}{cs:List AV}(h:TyC tab L (n+6) 32 cs):∃ w:Wish,cs=c32 w∧inWL L w:=by
 obtain⟨a,b,rfl,ha,a2,b2,rfl,ha2,a3,b3,rfl,ha3,a4,b4,rfl,ha4,a5,b5,rfl,ha5,rfl⟩:=h
 obtain⟨x1,rfl,h1⟩:=ty22 (L:=L) (n:=n+1) ha
 obtain⟨x2,rfl,h2⟩:=ly26 (L:=L) (n:=n+1) ha2
 obtain⟨x3,rfl,h3⟩:=ty3 (L:=L) (n:=n+4) ha3
 obtain⟨x4,rfl,h4⟩:=ly28 (L:=L) (n:=n+3) ha4
 obtain⟨x5,rfl,h5⟩:=ly30 ha5
 exact⟨⟨x1,x2,x3,x4,x5⟩,rfl,⟨h1.1.2,h1.2⟩,h2,h5.1,h5.2.1,h5.2.2,h3,h4.1,h4.2⟩
theorem ta32{L:Nat}{a:AV}(h:TyA tab L 9 32 a):∃ f:Wish,a=.agg (c32 f)∧inWL L f:=by
 obtain⟨cs,rfl,h2⟩:=(show ∃ cs,a=.agg cs∧TyC tab L 9 32 cs from h)
 obtain⟨d,rfl,k⟩:=ly32 (L:=L) (n:=3) h2
 exact⟨d,rfl,k⟩
end Go.Proofs.YtphcaholhacnpaaGreat
namespace Go.Proofs.YtphcaholhacnpaaGreat
open Go.E
set_option maxRecDepth 100000
set_option maxHeartbeats 4000000
theorem Tryz.rowedM:Go.mapsRowed Tryz.prog=true:=by kernel_rfl
theorem Tryz.stopsH:Tryz.prog.stopsHeard=true:=by kernel_rfl
theorem Tryz.mayE:Tryz.prog.mayEnter=true:=by kernel_rfl
end Go.Proofs.YtphcaholhacnpaaGreat
