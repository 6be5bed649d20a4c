/- Da: act: the rules of the acts. Conditions: sizes. Db: act.Decide. Conditions: sizes. Dc: act: the document's Dots, Sum, lines, limits. Conditions: sizes. Dp: act: what the document decides with is what the program decides with. Conditions: none. Kg: keep.Covers, Bars, Fold, Apply. Conditions: sizes. Ea: act.Effect, the document's Effect. Conditions: sizes. Eb: the law of Effect. Conditions: sizes. Tt: tomb: in plain words. Conditions: none. Tv: the document's Check, Less, Within, Order, Copy, Equal. Conditions: sizes. De: the law of Decide. Conditions: sizes. Dq: act: what Decide answers is an event, whose add is new. Conditions: none. Dm: the document's Dots (of at most 300). Conditions: sizes. Dk: act: every event is the event of an act, in plain words. Conditions: none. Ko: records put in order, each once, in plain words. Conditions: none. Tw: the law of Within, Order, Less. Conditions: sizes. Sd: the document's digests. Conditions: sizes. Sf: the laws of digests: pictures, what is spared. Conditions: sizes. -/
import Derived.Below
import Derived.OwnWalk
import Derived.WalkKit
import Derived.KernelRfl
import Derived.Laws.MakeOwn
import Derived.Laws.OwnMore
import Derived.Laws.Slices
import Derived.Laws.CopyOwn
import Derived.Laws.AppendOwnNone
import Derived.Laws.Rows
import Derived.Orders
import Derived.Test.YtphcaholhacnpaaGreatProg
import Derived.DataReads
import Derived.ChangeOld
import Derived.DataElems
import Derived.SizedLaws
import Derived.ChangeKeysEq
import Derived.Sort.LotA
import Derived.Shelf.SlSortFuncK.RowK2
import Derived.Shelf.SlSortCmp.NoneTotal
import Derived.Lib.Walk
import Derived.Shelf.SlLaysE0
import Derived.Shelf.RegionOpenPlain
import Derived.Deep.LoopGhost
import Derived.Lib.SliceRun
import Derived.Lib.Bytealg
import Derived.BigQuiet
import Derived.Shelf.SlSortFuncK.WholeK
import Derived.Shelf.GgSortFunc.Tiny
import Derived.Maps.RangeRun
import Derived.Shelf.SlSortFuncK.SWK
import Derived.Deep.Cut
import Derived.Deep.CutRange
import Derived.Deep.DeepCutAuto
import Derived.Lib.ReflectliteSwap
import Derived.Laws.Externs
import Derived.Lib.ReflectliteSlice
import Derived.Lib.AppendZeros
import Derived.Calls
import Derived.Test.YtphcaholhacnpaaGreatZm4
set_option linter.unusedVariables false
set_option linter.unusedSimpArgs false
namespace Go.Proofs.YtphcaholhacnpaaGreat
open Go.E
set_option maxRecDepth 100000
set_option maxHeartbeats 4000000
noncomputable def J9(w:Wish)(qty:Int)(old:List Entry):Facts×Int:=if ¬(T5 w.seen w.rep w.lim.count).2=0 then(default,(T5 w.seen w.rep w.lim.count).2)else(⟨[⟨(T5 w.seen w.rep w.lim.count).1,w.act.sku,qty⟩],(C8 old).1,[]⟩,0)
def A11(w:Wish):Bool:=decide (((ofV w.live w.act.sku).1.length:Int)≤0∧w.lim.lines≤(K9 w.live).1.length)
noncomputable def S8(w:Wish):Facts×Int:=if A11 w=true then(default,12)else J9 w w.act.qty (ofV w.live w.act.sku).1
noncomputable def N6(w:Wish):Facts×Int:=if A11 w=true then(default,12)else if 1000000 <(P4 (ofV w.live w.act.sku).1).1+w.act.qty then(default,13)else J9 w (w.act.qty+(P4 (I1 w.live w.rep w.act.sku).1).1) (I1 w.live w.rep w.act.sku).1
def T3(w:Wish):Facts×Int:=if((ofV w.live w.act.sku).1.length:Int)=0 then(default,11)else(⟨[],(C8 (ofV w.live w.act.sku).1).1,[]⟩,0)
noncomputable def G5(s:ByteArray)(p:Past):Facts:=if C5 p=0 then default else⟨[],⟨[],[]⟩,[⟨s,A5 p⟩]⟩
theorem A1t(es:List Entry)(rep:Int)(sku:ByteArray):(I1 es rep sku).1.length≤es.length:=by
 by_cases h:C3 es=0
 ·by_cases r:rep < 0∨16≤rep
  ·rw[A67 h r];exact Nat.zero_le _
  ·by_cases g:F5 sku=true
   ·rw[A69 h r g];exact List.length_filter_le ..
   ·rw[A68 h r g];exact Nat.zero_le _
 ·rw[A38 h];exact Nat.zero_le _
theorem A0j(es:List Entry):0≤(P4 es).1∧(P4 es).1≤1000000*es.length:=by
 by_cases h:C3 es=0
 ·have h2:=W8 (l:=es) fun e he=>A3e h e he
  rw[A3g h]
  simp only
  omega
 ·rw[A9s h]
  simp only
  omega
theorem Af8(w:Wish)(hs:w.live.length*40≤140737488351232):Con Tryz.prog 201 [.agg (B0u w)] (.sl ((ofV w.live w.act.sku).1.map c46)) :=
 by
 refine sC B3 [.tmp 2] 15 Tryz.func201 ?_
 intro e0 cx
 refine sq<|rG cx [1] [1] z0<|sn<|sq ?_
 have hl_0:=(N5 w.live)
 have hl_1:=(N5 w.live w.act.sku)
 refine rG cx [3] [] (fT (con100 (w.live) (w.act.sku) (by(with_reducible assumption))) (oA 5 (.tup [.sl (List.map c46 (ofV w.live w.act.sku).1),.i .i64 ((ofV w.live w.act.sku).2)]) z0))<|sn<|sq<|rG cx [2] [] z0<|sn<|rT ?_
 exact Y2 (r:=.sl (List.map c46 (ofV w.live w.act.sku).1)) (obl:=[]) (by kernel_rfl) trivial (A7.refl _)
theorem B3s(w:Wish)(hs:w.live.length*40≤140737488351232):Con Tryz.prog 199 [.agg (B0u w)] (.b (A11 w)) :=
 by
 refine sC B3 [.tmp 2] 21 Tryz.func199 ?_
 intro e0 cx
 refine sq<|rG cx [1] [1] z0<|sn<|sq<|sq ?_
 have hl_0:=(N5 w.live)
 have hl_1:=(N5 w.live w.act.sku)
 refine rG cx [1,8] [1] (fT (Af8 (w) (by(with_reducible assumption))) (tL 2 c46 ((ofV w.live w.act.sku).1) (tB 3 ((0:Int) <(↑(ofV w.live w.act.sku).1.length:Int)) (oA 1 (.sl (List.map c46 (ofV w.live w.act.sku).1)) z0))))<|sn<|dC ((0:Int) <(↑(ofV w.live w.act.sku).1.length:Int)) (fun h2=>?_) fun h2=>?_
 refine sq<|rG cx [2] [] z0<|sn<|rT<|nR<|qR (.b (false)) (.eq (by unfold A11;rw[decide_eq_false (by omega)]))
 refine sK<|sn<|sq<|rG cx [1,3] [1] (fT (con109 (w.live) (by(with_reducible assumption))) (oA 2 (.tup [.sl (List.map c61 (K9 w.live).1),.i .i64 ((K9 w.live).2)]) z0))<|sn<|sq<|rG cx [2] [] (tL 1 c61 ((K9 w.live).1) (tB 5 (w.lim.lines≤(↑(K9 w.live).1.length:Int)) z0))<|sn<|rT<|qR (.b (decide (w.lim.lines≤(↑(K9 w.live).1.length:Int)))) (.eq (by unfold A11;exact congrArg AV.b (decide_eq_decide.2 ⟨fun k=>⟨by omega,k⟩,fun k=>k.2⟩)))
theorem Aw2(es:List Entry):Con Tryz.prog 202 [.sl (es.map c46)] (.agg (c36 ⟨[],(C8 es).1,[]⟩)) :=
 by
 refine lN 0 c46 (es) Tryz.func202 fun hl_0=>sC B3 [.cell 2 36] 12 Tryz.func202 ?_
 intro e0 cx
 refine sq<|rG cx [0,2] [2] z0<|sn<|sq<|rG cx [2,3] [2,3] (fT (con113 (es)) (oA 1 (.tup [.agg [.sl (List.map c3 (C8 es).1.vec),.sl (List.map B1 (C8 es).1.cloud)],.i .i64 ((C8 es).2)]) z0))<|sn<|sq<|rG cx [2] [2] z0<|sn<|rT ?_
 exact Y2 (r:=.agg [.nl,.sl (List.map c3 (C8 es).1.vec),.sl (List.map B1 (C8 es).1.cloud),.nl]) (obl:=[]) (by kernel_rfl) trivial (A7.agg (ZLe.cons A7.nl (ZLe.cons (A7.refl _) (ZLe.cons (A7.refl _) (ZLe.cons A7.nl ZLe.nil)))))
theorem B3t(w:Wish)(qty:Int)(old:List Entry)(hb:szP w.seen):Con Tryz.prog 200 [.agg (B0u w),.i .i64 qty,.sl (old.map c46)] (.tup [.agg (c36 (J9 w qty old).1),.i .i64 (J9 w qty old).2]) :=
 by
 refine lN 2 c46 (old) Tryz.func200 fun hl_2=>sC B3 [.cell 6 36,.tmp 7] 37 Tryz.func200 ?_
 intro e0 cx
 refine sq<|rG cx [1,2,3,6] [3,6] z0<|sn<|sq<|rG cx [1,2,3,6,8,9] [3,6,8] (fT (con237 (w.seen) (w.rep) (w.lim.count) (by(with_reducible assumption))) (oA 7 (.tup [.agg [.i .i64 ((T5 w.seen w.rep w.lim.count).1.rep),.i .i64 ((T5 w.seen w.rep w.lim.count).1.num)],.i .i64 ((T5 w.seen w.rep w.lim.count).2)]) z0))<|sn<|sq<|sq<|rG cx [1,2,3,6,8,9,23] [3,6,8] (tN 1 ((T5 w.seen w.rep w.lim.count).2) (0:Int) z0)<|sn<|dC (¬(T5 w.seen w.rep w.lim.count).2=0) (fun h0=>?_) fun h0=>?_
 refine sq<|rG cx [6,7] [6] z0<|sn<|rT<|nR<|qR (.tup [.agg [.nl,.nl,.nl,.nl],.i .i64 ((T5 w.seen w.rep w.lim.count).2)]) (A7.tup (ZLe.cons (A7.agg (ZLe.cons (A7.nl' (show List.map c46 (J9 w qty old).1.adds=[]from(by unfold J9;rw[if_pos h0];rfl))) (ZLe.cons (A7.nl' (show List.map c3 (J9 w qty old).1.gone.vec=[]from(by unfold J9;rw[if_pos h0];rfl))) (ZLe.cons (A7.nl' (show List.map B1 (J9 w qty old).1.gone.cloud=[]from(by unfold J9;rw[if_pos h0];rfl))) (ZLe.cons (A7.nl' (show List.map c54 (J9 w qty old).1.recs=[]from(by unfold J9;rw[if_pos h0];rfl))) ZLe.nil))))) (ZLe.cons (A7.eq (show AV.i .i64 (T5 w.seen w.rep w.lim.count).2=AV.i .i64 (J9 w qty old).2 from(by unfold J9;rw[if_pos h0]))) ZLe.nil)))
 refine sK<|sn<|sq<|rG cx [1,3,6,8,10] [3,6,8,10] (fT (Aw2 (old)) (oA 1 (.agg [.sl (List.map c46 { adds:=[],gone:=(C8 old).1,recs:=[]:Facts }.adds),.sl (List.map c3 { adds:=[],gone:=(C8 old).1,recs:=[]:Facts }.gone.vec),.sl (List.map B1 { adds:=[],gone:=(C8 old).1,recs:=[]:Facts }.gone.cloud),.sl (List.map c54 { adds:=[],gone:=(C8 old).1,recs:=[]:Facts }.recs)]) z0))<|sn<|sq<|rG cx [6,10] [6,10,34] z0<|sn<|sq<|L8 [34] [6,10] [6,10] (σ':=⟨[(6,.ptr (6) (0) (0) (0)),(10,.ptr (10) (0) (0) (0))],[(6,⟨0,36,.var [.nl,.nl,.nl,.nl]⟩),(10,⟨0,36,.var [.sl (List.map c46 [{ dot:=(T5 w.seen w.rep w.lim.count).1,sku:=w.act.sku,qty:=qty:Entry }]),.sl (List.map c3 { adds:=[],gone:=(C8 old).1,recs:=[]:Facts }.gone.vec),.sl (List.map B1 { adds:=[],gone:=(C8 old).1,recs:=[]:Facts }.gone.cloud),.sl (List.map c54 { adds:=[],gone:=(C8 old).1,recs:=[]:Facts }.recs)]⟩)]⟩) (by kernel_rfl)<|rG cx [6,7] [6] z0<|sn<|rT<|qR (.tup [.agg [.sl (List.map c46 [{ dot:=(T5 w.seen w.rep w.lim.count).1,sku:=w.act.sku,qty:=qty:Entry }]),.sl (List.map c3 { adds:=[],gone:=(C8 old).1,recs:=[]:Facts }.gone.vec),.sl (List.map B1 { adds:=[],gone:=(C8 old).1,recs:=[]:Facts }.gone.cloud),.sl (List.map c54 { adds:=[],gone:=(C8 old).1,recs:=[]:Facts }.recs)],.i .i64 ((0:Int))]) (A7.tup (ZLe.cons (A7.eq (show AV.agg [AV.sl (List.map c46 [{ dot:=(T5 w.seen w.rep w.lim.count).1,sku:=w.act.sku,qty:=qty:Entry }]),AV.sl (List.map c3 { adds:=[],gone:=(C8 old).1,recs:=[]:Facts }.gone.vec),AV.sl (List.map B1 { adds:=[],gone:=(C8 old).1,recs:=[]:Facts }.gone.cloud),AV.sl (List.map c54 { adds:=[],gone:=(C8 old).1,recs:=[]:Facts }.recs)]=AV.agg [AV.sl (List.map c46 (J9 w qty old).1.adds),AV.sl (List.map c3 (J9 w qty old).1.gone.vec),AV.sl (List.map B1 (J9 w qty old).1.gone.cloud),AV.sl (List.map c54 (J9 w qty old).1.recs)]from(by unfold J9;rw[if_neg h0]))) (ZLe.cons (A7.eq (show AV.i .i64 0=AV.i .i64 (J9 w qty old).2 from(by unfold J9;rw[if_neg h0]))) ZLe.nil)))
theorem B3u(s:ByteArray)(p:Past)(hb:szP p):Con Tryz.prog 203 [.s s,.agg (c26 p)] (.agg (c36 (G5 s p))) :=
 by
 refine sC B3 [.cell 4 36] 14 Tryz.func203 ?_
 intro e0 cx
 refine sq<|rG cx [0,3,4] [3,4] z0<|sn<|sq<|sq<|rG cx [0,3,4,6] [3,4] (fT (B5j (p) (by exact hb.1)) (oA 1 (.b (decide (C5 p=0))) z0)) ?_
 refine sn<|dC (C5 p=0) (fun h0=>?_) fun h0=>?_
 refine sq<|rG cx [4] [4] z0<|sn<|rT<|nR<|qR (.agg [.nl,.nl,.nl,.nl]) (A7.agg (ZLe.cons (A7.nl' (show List.map c46 (G5 s p).adds=[]from(by unfold G5;rw[if_pos h0];rfl))) (ZLe.cons (A7.nl' (show List.map c3 (G5 s p).gone.vec=[]from(by unfold G5;rw[if_pos h0];rfl))) (ZLe.cons (A7.nl' (show List.map B1 (G5 s p).gone.cloud=[]from(by unfold G5;rw[if_pos h0];rfl))) (ZLe.cons (A7.nl' (show List.map c54 (G5 s p).recs=[]from(by unfold G5;rw[if_pos h0];rfl))) ZLe.nil)))))
 refine sK<|sn<|sq<|rG cx [4] [4] (fT (Ac6 (p) (by exact hb.1)) (oA 2 (.agg [.sl (List.map c3 (A5 p).vec),.sl (List.map B1 (A5 p).cloud)]) z0)) ?_
 refine sn<|rT<|qR (.agg [.nl,.nl,.nl,.sl (List.map c54 [{ sku:=s,past:=A5 p:Record }])]) (A7.agg (ZLe.cons (A7.nl' (show List.map c46 (G5 s p).adds=[]from(by unfold G5;rw[if_neg h0];rfl))) (ZLe.cons (A7.nl' (show List.map c3 (G5 s p).gone.vec=[]from(by unfold G5;rw[if_neg h0];rfl))) (ZLe.cons (A7.nl' (show List.map B1 (G5 s p).gone.cloud=[]from(by unfold G5;rw[if_neg h0];rfl))) (ZLe.cons (A7.eq (show AV.sl (List.map c54 [{ sku:=s,past:=A5 p:Record }])=AV.sl (List.map c54 (G5 s p).recs)from(by unfold G5;rw[if_neg h0]))) ZLe.nil)))))
theorem con154(w:Wish)(hs:w.live.length*40≤140737488351232)(hb:szP w.seen):Con Tryz.prog 154 [.agg (B0u w)] (.tup [.agg (c36 (S8 w).1),.i .i64 (S8 w).2]) :=
 by
 refine sC B3 [.cell 2 36,.tmp 3] 16 Tryz.func154 ?_
 intro e0 cx
 refine sq<|rG cx [1,2] [1,2] z0<|sn<|sq<|sq<|rG cx [1,2,5] [1,2] (fT (B3s (w) (by(with_reducible assumption))) (oA 1 (.b (A11 w)) z0))<|sn<|A2d (A11 w) (by kernel_rfl) (by kernel_rfl) (fun h0=>?_) (fun h0=>?_)
 refine sq<|rG cx [2,3] [2] z0<|sn<|rT<|nR<|qR (.tup [.agg [.nl,.nl,.nl,.nl],.i .i64 ((12:Int))]) (A7.tup (ZLe.cons (A7.agg (ZLe.cons (A7.nl' (show List.map c46 (S8 w).1.adds=[]from(by unfold S8;rw[if_pos h0];rfl))) (ZLe.cons (A7.nl' (show List.map c3 (S8 w).1.gone.vec=[]from(by unfold S8;rw[if_pos h0];rfl))) (ZLe.cons (A7.nl' (show List.map B1 (S8 w).1.gone.cloud=[]from(by unfold S8;rw[if_pos h0];rfl))) (ZLe.cons (A7.nl' (show List.map c54 (S8 w).1.recs=[]from(by unfold S8;rw[if_pos h0];rfl))) ZLe.nil))))) (ZLe.cons (A7.eq (show AV.i .i64 12=AV.i .i64 (S8 w).2 from(by unfold S8;rw[if_pos h0]))) ZLe.nil)))
 refine sK<|sn<|sq ?_
 have hl_1:=(N5 w.live)
 have hl_2:=(N5 w.live w.act.sku)
 refine rA cx [2,3] [2] (fT (Af8 (w) (by(with_reducible assumption))) (fT (B3t (w) (w.act.qty) ((ofV w.live w.act.sku).1) (by(with_reducible assumption))) (oA 5 (.sl (List.map c46 (ofV w.live w.act.sku).1)) (oA 6 (.tup [.agg [.sl (List.map c46 (J9 w w.act.qty (ofV w.live w.act.sku).1).1.adds),.sl (List.map c3 (J9 w w.act.qty (ofV w.live w.act.sku).1).1.gone.vec),.sl (List.map B1 (J9 w w.act.qty (ofV w.live w.act.sku).1).1.gone.cloud),.sl (List.map c54 (J9 w w.act.qty (ofV w.live w.act.sku).1).1.recs)],.i .i64 ((J9 w w.act.qty (ofV w.live w.act.sku).1).2)]) z0))))<|sn<|rT<|qR (.tup [.agg [.sl (List.map c46 (J9 w w.act.qty (ofV w.live w.act.sku).1).1.adds),.sl (List.map c3 (J9 w w.act.qty (ofV w.live w.act.sku).1).1.gone.vec),.sl (List.map B1 (J9 w w.act.qty (ofV w.live w.act.sku).1).1.gone.cloud),.sl (List.map c54 (J9 w w.act.qty (ofV w.live w.act.sku).1).1.recs)],.i .i64 ((J9 w w.act.qty (ofV w.live w.act.sku).1).2)]) (A7.tup (ZLe.cons (A7.eq (show AV.agg [AV.sl (List.map c46 (J9 w w.act.qty (ofV w.live w.act.sku).1).1.adds),AV.sl (List.map c3 (J9 w w.act.qty (ofV w.live w.act.sku).1).1.gone.vec),AV.sl (List.map B1 (J9 w w.act.qty (ofV w.live w.act.sku).1).1.gone.cloud),AV.sl (List.map c54 (J9 w w.act.qty (ofV w.live w.act.sku).1).1.recs)]=AV.agg [AV.sl (List.map c46 (S8 w).1.adds),AV.sl (List.map c3 (S8 w).1.gone.vec),AV.sl (List.map B1 (S8 w).1.gone.cloud),AV.sl (List.map c54 (S8 w).1.recs)]from(by unfold S8;rw[if_neg (by rw[h0];decide)]))) (ZLe.cons (A7.eq (show AV.i .i64 (J9 w w.act.qty (ofV w.live w.act.sku).1).2=AV.i .i64 (S8 w).2 from(by unfold S8;rw[if_neg (by rw[h0];decide)]))) ZLe.nil)))
theorem con155(w:Wish)(hs:w.live.length*40≤140737488351232)(hb:szP w.seen)(hq:1≤w.act.qty∧w.act.qty≤1000000):Con Tryz.prog 155 [.agg (B0u w)] (.tup [.agg (c36 (N6 w).1),.i .i64 (N6 w).2]) :=
 by
 refine sC B3 [.cell 2 36,.tmp 3] 52 Tryz.func155 ?_
 intro e0 cx
 refine sq<|rG cx [1,2] [1,2] z0<|sn<|sq<|sq<|rG cx [1,2,11] [1,2] (fT (B3s (w) (by(with_reducible assumption))) (oA 1 (.b (A11 w)) z0))<|sn<|A2d (A11 w) (by kernel_rfl) (by kernel_rfl) (fun h0=>?_) (fun h0=>?_)
 refine sq<|rG cx [2,3] [2] z0<|sn<|rT<|nR<|qR (.tup [.agg [.nl,.nl,.nl,.nl],.i .i64 ((12:Int))]) (A7.tup (ZLe.cons (A7.agg (ZLe.cons (A7.nl' (show List.map c46 (N6 w).1.adds=[]from(by unfold N6;rw[if_pos h0];rfl))) (ZLe.cons (A7.nl' (show List.map c3 (N6 w).1.gone.vec=[]from(by unfold N6;rw[if_pos h0];rfl))) (ZLe.cons (A7.nl' (show List.map B1 (N6 w).1.gone.cloud=[]from(by unfold N6;rw[if_pos h0];rfl))) (ZLe.cons (A7.nl' (show List.map c54 (N6 w).1.recs=[]from(by unfold N6;rw[if_pos h0];rfl))) ZLe.nil))))) (ZLe.cons (A7.eq (show AV.i .i64 12=AV.i .i64 (N6 w).2 from(by unfold N6;rw[if_pos h0]))) ZLe.nil)))
 refine sK<|sn<|sq ?_
 have hl_1:=(N5 w.live)
 have hl_2:=(N5 w.live w.act.sku)
 refine rG cx [1,2,4] [1,2] (fT (Af8 (w) (by(with_reducible assumption))) (fT (B3q ((ofV w.live w.act.sku).1) (by omega)) (oA 1 (.sl (List.map c46 (ofV w.live w.act.sku).1)) (oA 2 (.tup [.i .i64 ((P4 (ofV w.live w.act.sku).1).1),.i .i64 ((P4 (ofV w.live w.act.sku).1).2)]) z0))))<|sn<|sq<|sq<|rG cx [1,2,24] [1,2] (tT 4 (B4 (by have:=A0j (ofV w.live w.act.sku).1;omega) (by have:=A0j (ofV w.live w.act.sku).1;have:=N5 w.live w.act.sku;omega):AV.i .i64 (IntKind.i64.wrap ((P4 (ofV w.live w.act.sku).1).1+w.act.qty))=AV.i .i64 ((P4 (ofV w.live w.act.sku).1).1+w.act.qty)) (tB 5 ((1000000:Int) <(P4 (ofV w.live w.act.sku).1).1+w.act.qty) z0)) ?_
 refine sn<|dC ((1000000:Int) <(P4 (ofV w.live w.act.sku).1).1+w.act.qty) (fun h3=>?_) fun h3=>?_
 refine sq<|rG cx [2,3] [2] z0<|sn<|rT<|nR<|qR (.tup [.agg [.nl,.nl,.nl,.nl],.i .i64 ((13:Int))]) (A7.tup (ZLe.cons (A7.agg (ZLe.cons (A7.nl' (show List.map c46 (N6 w).1.adds=[]from(by unfold N6;rw[if_neg (by rw[h0];decide)];rw[if_pos h3];rfl))) (ZLe.cons (A7.nl' (show List.map c3 (N6 w).1.gone.vec=[]from(by unfold N6;rw[if_neg (by rw[h0];decide)];rw[if_pos h3];rfl))) (ZLe.cons (A7.nl' (show List.map B1 (N6 w).1.gone.cloud=[]from(by unfold N6;rw[if_neg (by rw[h0];decide)];rw[if_pos h3];rfl))) (ZLe.cons (A7.nl' (show List.map c54 (N6 w).1.recs=[]from(by unfold N6;rw[if_neg (by rw[h0];decide)];rw[if_pos h3];rfl))) ZLe.nil))))) (ZLe.cons (A7.eq (show AV.i .i64 13=AV.i .i64 (N6 w).2 from(by unfold N6;rw[if_neg (by rw[h0];decide)];rw[if_pos h3]))) ZLe.nil)))
 refine sK<|sn<|sq ?_
 have hl_4:=(A1t w.live)
 have hl_5:=(A1t w.live w.rep)
 have hl_6:=(A1t w.live w.rep w.act.sku)
 refine rG cx [1,2,6] [1,2] (fT (con26 (w.live) (w.rep) (w.act.sku) (by(with_reducible assumption))) (oA 7 (.tup [.sl (List.map c46 (I1 w.live w.rep w.act.sku).1),.i .i64 ((I1 w.live w.rep w.act.sku).2)]) z0))<|sn<|sq<|rG cx [1,2,6,8] [1,2] (fT (B3q ((I1 w.live w.rep w.act.sku).1) (by omega)) (oA 1 (.tup [.i .i64 ((P4 (I1 w.live w.rep w.act.sku).1).1),.i .i64 ((P4 (I1 w.live w.rep w.act.sku).1).2)]) z0))<|sn<|sq<|rG cx [2,3] [2] (tT 5 (B4 (by have:=A0j (I1 w.live w.rep w.act.sku).1;omega) (by have:=A0j (I1 w.live w.rep w.act.sku).1;have:=A1t w.live w.rep w.act.sku;omega):AV.i .i64 (IntKind.i64.wrap (w.act.qty+(P4 (I1 w.live w.rep w.act.sku).1).1))=AV.i .i64 (w.act.qty+(P4 (I1 w.live w.rep w.act.sku).1).1)) (fT (B3t (w) (w.act.qty+(P4 (I1 w.live w.rep w.act.sku).1).1) ((I1 w.live w.rep w.act.sku).1) (by(with_reducible assumption))) (oA 7 (.tup [.agg [.sl (List.map c46 (J9 w (w.act.qty+(P4 (I1 w.live w.rep w.act.sku).1).1) (I1 w.live w.rep w.act.sku).1).1.adds),.sl (List.map c3 (J9 w (w.act.qty+(P4 (I1 w.live w.rep w.act.sku).1).1) (I1 w.live w.rep w.act.sku).1).1.gone.vec),.sl (List.map B1 (J9 w (w.act.qty+(P4 (I1 w.live w.rep w.act.sku).1).1) (I1 w.live w.rep w.act.sku).1).1.gone.cloud),.sl (List.map c54 (J9 w (w.act.qty+(P4 (I1 w.live w.rep w.act.sku).1).1) (I1 w.live w.rep w.act.sku).1).1.recs)],.i .i64 ((J9 w (w.act.qty+(P4 (I1 w.live w.rep w.act.sku).1).1) (I1 w.live w.rep w.act.sku).1).2)]) z0))) ?_
 refine sn<|rT<|qR (.tup [.agg [.sl (List.map c46 (J9 w (w.act.qty+(P4 (I1 w.live w.rep w.act.sku).1).1) (I1 w.live w.rep w.act.sku).1).1.adds),.sl (List.map c3 (J9 w (w.act.qty+(P4 (I1 w.live w.rep w.act.sku).1).1) (I1 w.live w.rep w.act.sku).1).1.gone.vec),.sl (List.map B1 (J9 w (w.act.qty+(P4 (I1 w.live w.rep w.act.sku).1).1) (I1 w.live w.rep w.act.sku).1).1.gone.cloud),.sl (List.map c54 (J9 w (w.act.qty+(P4 (I1 w.live w.rep w.act.sku).1).1) (I1 w.live w.rep w.act.sku).1).1.recs)],.i .i64 ((J9 w (w.act.qty+(P4 (I1 w.live w.rep w.act.sku).1).1) (I1 w.live w.rep w.act.sku).1).2)]) (A7.tup (ZLe.cons (A7.eq (show AV.agg [AV.sl (List.map c46 (J9 w (w.act.qty+(P4 (I1 w.live w.rep w.act.sku).1).1) (I1 w.live w.rep w.act.sku).1).1.adds),AV.sl (List.map c3 (J9 w (w.act.qty+(P4 (I1 w.live w.rep w.act.sku).1).1) (I1 w.live w.rep w.act.sku).1).1.gone.vec),AV.sl (List.map B1 (J9 w (w.act.qty+(P4 (I1 w.live w.rep w.act.sku).1).1) (I1 w.live w.rep w.act.sku).1).1.gone.cloud),AV.sl (List.map c54 (J9 w (w.act.qty+(P4 (I1 w.live w.rep w.act.sku).1).1) (I1 w.live w.rep w.act.sku).1).1.recs)]=AV.agg [AV.sl (List.map c46 (N6 w).1.adds),AV.sl (List.map c3 (N6 w).1.gone.vec),AV.sl (List.map B1 (N6 w).1.gone.cloud),AV.sl (List.map c54 (N6 w).1.recs)]from(by unfold N6;rw[if_neg (by rw[h0];decide)];rw[if_neg h3]))) (ZLe.cons (A7.eq (show AV.i .i64 (J9 w (w.act.qty+(P4 (I1 w.live w.rep w.act.sku).1).1) (I1 w.live w.rep w.act.sku).1).2=AV.i .i64 (N6 w).2 from(by unfold N6;rw[if_neg (by rw[h0];decide)];rw[if_neg h3]))) ZLe.nil)))
theorem con156(w:Wish)(hs:w.live.length*40≤140737488351232):Con Tryz.prog 156 [.agg (B0u w)] (.tup [.agg (c36 (T3 w).1),.i .i64 (T3 w).2]) :=
 by
 refine sC B3 [.cell 2 36,.tmp 3] 13 Tryz.func156 ?_
 intro e0 cx
 refine sq<|rG cx [1,2] [1,2] z0<|sn<|sq ?_
 have hl_0:=(N5 w.live)
 have hl_1:=(N5 w.live w.act.sku)
 refine rG cx [2,4] [2] (fT (Af8 (w) (by(with_reducible assumption))) (oA 1 (.sl (List.map c46 (ofV w.live w.act.sku).1)) z0))<|sn<|sq<|rD cx [2,4,9] [2] (tL 1 c46 ((ofV w.live w.act.sku).1) (zB 2 ((↑(ofV w.live w.act.sku).1.length:Int)=0))) (fun h2=>?_) fun h2=>?_
 refine sq<|rG cx [2,3] [2] z0<|sn<|rT<|nR<|qR (.tup [.agg [.nl,.nl,.nl,.nl],.i .i64 ((11:Int))]) (A7.tup (ZLe.cons (A7.agg (ZLe.cons (A7.nl' (show List.map c46 (T3 w).1.adds=[]from(by unfold T3;rw[if_pos h2];rfl))) (ZLe.cons (A7.nl' (show List.map c3 (T3 w).1.gone.vec=[]from(by unfold T3;rw[if_pos h2];rfl))) (ZLe.cons (A7.nl' (show List.map B1 (T3 w).1.gone.cloud=[]from(by unfold T3;rw[if_pos h2];rfl))) (ZLe.cons (A7.nl' (show List.map c54 (T3 w).1.recs=[]from(by unfold T3;rw[if_pos h2];rfl))) ZLe.nil))))) (ZLe.cons (A7.eq (show AV.i .i64 11=AV.i .i64 (T3 w).2 from(by unfold T3;rw[if_pos h2]))) ZLe.nil)))
 refine sK<|sn<|sq<|rG cx [2,3] [2] (fT (Aw2 ((ofV w.live w.act.sku).1)) (oA 1 (.agg [.sl (List.map c46 { adds:=[],gone:=(C8 (ofV w.live w.act.sku).1).1,recs:=[]:Facts }.adds),.sl (List.map c3 { adds:=[],gone:=(C8 (ofV w.live w.act.sku).1).1,recs:=[]:Facts }.gone.vec),.sl (List.map B1 { adds:=[],gone:=(C8 (ofV w.live w.act.sku).1).1,recs:=[]:Facts }.gone.cloud),.sl (List.map c54 { adds:=[],gone:=(C8 (ofV w.live w.act.sku).1).1,recs:=[]:Facts }.recs)]) z0))<|sn<|rT<|qR (.tup [.agg [.sl (List.map c46 { adds:=[],gone:=(C8 (ofV w.live w.act.sku).1).1,recs:=[]:Facts }.adds),.sl (List.map c3 { adds:=[],gone:=(C8 (ofV w.live w.act.sku).1).1,recs:=[]:Facts }.gone.vec),.sl (List.map B1 { adds:=[],gone:=(C8 (ofV w.live w.act.sku).1).1,recs:=[]:Facts }.gone.cloud),.sl (List.map c54 { adds:=[],gone:=(C8 (ofV w.live w.act.sku).1).1,recs:=[]:Facts }.recs)],.i .i64 ((0:Int))]) (A7.tup (ZLe.cons (A7.eq (show AV.agg [AV.sl (List.map c46 { adds:=[],gone:=(C8 (ofV w.live w.act.sku).1).1,recs:=[]:Facts }.adds),AV.sl (List.map c3 { adds:=[],gone:=(C8 (ofV w.live w.act.sku).1).1,recs:=[]:Facts }.gone.vec),AV.sl (List.map B1 { adds:=[],gone:=(C8 (ofV w.live w.act.sku).1).1,recs:=[]:Facts }.gone.cloud),AV.sl (List.map c54 { adds:=[],gone:=(C8 (ofV w.live w.act.sku).1).1,recs:=[]:Facts }.recs)]=AV.agg [AV.sl (List.map c46 (T3 w).1.adds),AV.sl (List.map c3 (T3 w).1.gone.vec),AV.sl (List.map B1 (T3 w).1.gone.cloud),AV.sl (List.map c54 (T3 w).1.recs)]from(by unfold T3;rw[if_neg h2]))) (ZLe.cons (A7.eq (show AV.i .i64 0=AV.i .i64 (T3 w).2 from(by unfold T3;rw[if_neg h2]))) ZLe.nil)))
theorem con158(w:Wish):Con Tryz.prog 158 [.agg (B0u w)] (.tup [.agg (c36 ⟨[],(C8 w.live).1,[]⟩),.i .i64 0]) :=
 by
 refine sC B3 [.cell 2 36,.tmp 3] 7 Tryz.func158 ?_
 intro e0 cx
 refine sq<|rG cx [1,2] [1,2] z0<|sn<|sq<|rG cx [2,3] [2] (fT (Aw2 (w.live)) (oA 2 (.agg [.sl (List.map c46 { adds:=[],gone:=(C8 w.live).1,recs:=[]:Facts }.adds),.sl (List.map c3 { adds:=[],gone:=(C8 w.live).1,recs:=[]:Facts }.gone.vec),.sl (List.map B1 { adds:=[],gone:=(C8 w.live).1,recs:=[]:Facts }.gone.cloud),.sl (List.map c54 { adds:=[],gone:=(C8 w.live).1,recs:=[]:Facts }.recs)]) z0))<|sn<|rT ?_
 exact Y2 (r:=.tup [.agg [.sl (List.map c46 { adds:=[],gone:=(C8 w.live).1,recs:=[]:Facts }.adds),.sl (List.map c3 { adds:=[],gone:=(C8 w.live).1,recs:=[]:Facts }.gone.vec),.sl (List.map B1 { adds:=[],gone:=(C8 w.live).1,recs:=[]:Facts }.gone.cloud),.sl (List.map c54 { adds:=[],gone:=(C8 w.live).1,recs:=[]:Facts }.recs)],.i .i64 ((0:Int))]) (obl:=[]) (by kernel_rfl) trivial (A7.tup (ZLe.cons (A7.refl _) (ZLe.cons (A7.refl _) ZLe.nil)))
theorem con157(w:Wish)(hb:szP w.act.past):Con Tryz.prog 157 [.agg (B0u w)] (.tup [.agg (c36 (G5 w.act.sku w.act.past)),.i .i64 0]) :=
 by
 refine sC B3 [.cell 2 36,.tmp 3] 11 Tryz.func157 ?_
 intro e0 cx
 refine sq<|rG cx [1,2] [1,2] z0<|sn<|sq<|rG cx [2,3] [2] (fT (B3u (w.act.sku) (w.act.past) (by(with_reducible assumption))) (oA 6 (.agg [.sl (List.map c46 (G5 w.act.sku w.act.past).adds),.sl (List.map c3 (G5 w.act.sku w.act.past).gone.vec),.sl (List.map B1 (G5 w.act.sku w.act.past).gone.cloud),.sl (List.map c54 (G5 w.act.sku w.act.past).recs)]) z0))<|sn<|rT ?_
 exact Y2 (r:=.tup [.agg [.sl (List.map c46 (G5 w.act.sku w.act.past).adds),.sl (List.map c3 (G5 w.act.sku w.act.past).gone.vec),.sl (List.map B1 (G5 w.act.sku w.act.past).gone.cloud),.sl (List.map c54 (G5 w.act.sku w.act.past).recs)],.i .i64 ((0:Int))]) (obl:=[]) (by kernel_rfl) trivial (A7.tup (ZLe.cons (A7.refl _) (ZLe.cons (A7.refl _) ZLe.nil)))
theorem con159(w:Wish)(hb:szP w.act.past):Con Tryz.prog 159 [.agg (B0u w)] (.tup [.agg (c36 (G5 E3 w.act.past)),.i .i64 0]) :=
 by
 refine sC B3 [.cell 2 36,.tmp 3] 8 Tryz.func159 ?_
 intro e0 cx
 refine sq<|rG cx [1,2] [1,2] z0<|sn<|sq<|rG cx [2,3] [2] (fT (B3u ({ data:=#[]:ByteArray }) (w.act.past) (by(with_reducible assumption))) (oA 3 (.agg [.sl (List.map c46 (G5 { data:=#[]:ByteArray } w.act.past).adds),.sl (List.map c3 (G5 { data:=#[]:ByteArray } w.act.past).gone.vec),.sl (List.map B1 (G5 { data:=#[]:ByteArray } w.act.past).gone.cloud),.sl (List.map c54 (G5 { data:=#[]:ByteArray } w.act.past).recs)]) z0))<|sn<|rT<|qR (.tup [.agg [.sl (List.map c46 (G5 { data:=#[]:ByteArray } w.act.past).adds),.sl (List.map c3 (G5 { data:=#[]:ByteArray } w.act.past).gone.vec),.sl (List.map B1 (G5 { data:=#[]:ByteArray } w.act.past).gone.cloud),.sl (List.map c54 (G5 { data:=#[]:ByteArray } w.act.past).recs)],.i .i64 ((0:Int))]) (A7.tup (ZLe.cons (A7.eq (show AV.agg [AV.sl (List.map c46 (G5 { data:=#[]:ByteArray } w.act.past).adds),AV.sl (List.map c3 (G5 { data:=#[]:ByteArray } w.act.past).gone.vec),AV.sl (List.map B1 (G5 { data:=#[]:ByteArray } w.act.past).gone.cloud),AV.sl (List.map c54 (G5 { data:=#[]:ByteArray } w.act.past).recs)]=AV.agg [AV.sl (List.map c46 (G5 E3 w.act.past).adds),AV.sl (List.map c3 (G5 E3 w.act.past).gone.vec),AV.sl (List.map B1 (G5 E3 w.act.past).gone.cloud),AV.sl (List.map c54 (G5 E3 w.act.past).recs)]from ?g0)) (ZLe.cons (A7.refl _) ZLe.nil)));rotate_left
 case g0=>rfl
end Go.Proofs.YtphcaholhacnpaaGreat
namespace Go.Proofs.YtphcaholhacnpaaGreat
open Go.E
set_option maxRecDepth 100000
set_option maxHeartbeats 4000000
noncomputable def Y8(w:Wish):Facts×Int:=if w.act.kind=1 then S8 w else if w.act.kind=2 then N6 w else if w.act.kind=3 then T3 w else if w.act.kind=4 then(G5 w.act.sku w.act.past,0)else if w.act.kind=5 then(⟨[],(C8 w.live).1,[]⟩,0)else(G5 E3 w.act.past,0)
noncomputable def B7(w:Wish):Facts×Int:=if ¬ C3 w.live=0∨¬ w.seen=A5 w.seen then(default,1)else if 0 <((E5 w.live w.seen false).1.length:Int)then(default,1)else if w.rep < 0∨16≤w.rep then(default,3)else if w.lim.lines < 1∨1000 < w.lim.lines∨w.lim.count < 1∨1000000000 < w.lim.count then(default,2)else if ¬ J5 w.act=0 then(default,J5 w.act)else Y8 w
theorem C1{w:Wish}(h:¬ C3 w.live=0∨¬ w.seen=A5 w.seen):B7 w=(default,1):=by unfold B7;rw[if_pos h]
theorem C2{w:Wish}(h1:¬(¬ C3 w.live=0∨¬ w.seen=A5 w.seen))(h:0 <((E5 w.live w.seen false).1.length:Int)):B7 w=(default,1):=by unfold B7;rw[if_neg h1,if_pos h]
theorem D2{w:Wish}(h1:¬(¬ C3 w.live=0∨¬ w.seen=A5 w.seen))(h2:¬ 0 <((E5 w.live w.seen false).1.length:Int))(h:w.rep < 0∨16≤w.rep):B7 w=(default,3):=by unfold B7;rw[if_neg h1,if_neg h2,if_pos h]
theorem D3{w:Wish}(h1:¬(¬ C3 w.live=0∨¬ w.seen=A5 w.seen))(h2:¬ 0 <((E5 w.live w.seen false).1.length:Int))(h3:¬(w.rep < 0∨16≤w.rep))(h:w.lim.lines < 1∨1000 < w.lim.lines∨w.lim.count < 1∨1000000000 < w.lim.count):B7 w=(default,2):=by unfold B7;rw[if_neg h1,if_neg h2,if_neg h3,if_pos h]
theorem D7{w:Wish}(h1:¬(¬ C3 w.live=0∨¬ w.seen=A5 w.seen))(h2:¬ 0 <((E5 w.live w.seen false).1.length:Int))(h3:¬(w.rep < 0∨16≤w.rep))(h4:¬(w.lim.lines < 1∨1000 < w.lim.lines∨w.lim.count < 1∨1000000000 < w.lim.count))(h:¬ J5 w.act=0):B7 w=(default,J5 w.act):=by unfold B7;rw[if_neg h1,if_neg h2,if_neg h3,if_neg h4,if_pos h]
theorem G9{w:Wish}(h1:¬(¬ C3 w.live=0∨¬ w.seen=A5 w.seen))(h2:¬ 0 <((E5 w.live w.seen false).1.length:Int))(h3:¬(w.rep < 0∨16≤w.rep))(h4:¬(w.lim.lines < 1∨1000 < w.lim.lines∨w.lim.count < 1∨1000000000 < w.lim.count))(h:¬ ¬ J5 w.act=0):B7 w=Y8 w:=by unfold B7;rw[if_neg h1,if_neg h2,if_neg h3,if_neg h4,if_neg h]
theorem Aw3{s:ByteArray}{q k:Int}{p:Past}(h:¬ ¬ J5 ⟨k,s,q,p⟩=0)(hk:k=1∨k=2):1≤q∧q≤1000000:=by
 have h:=Classical.not_not.1 h
 unfold J5 at h
 simp only at h
 split at h
 ·omega
 ·split at h
  ·omega
  ·split at h
   ·omega
   ·split at h
    ·omega
    ·omega
theorem B24{w:Wish}(h:w.act.kind=1):Y8 w=S8 w:=by unfold Y8;rw[if_pos h]
theorem B5x{w:Wish}(h:w.act.kind=2):Y8 w=N6 w:=by unfold Y8;rw[if_neg (by omega),if_pos h]
theorem B5y{w:Wish}(h:w.act.kind=3):Y8 w=T3 w:=by unfold Y8;rw[if_neg (by omega),if_neg (by omega),if_pos h]
theorem B25{w:Wish}(h:w.act.kind=4):Y8 w=(G5 w.act.sku w.act.past,0):=by unfold Y8;rw[if_neg (by omega),if_neg (by omega),if_neg (by omega),if_pos h]
theorem B26{w:Wish}(h:w.act.kind=5):Y8 w=(⟨[],(C8 w.live).1,[]⟩,0):=by unfold Y8;rw[if_neg (by omega),if_neg (by omega),if_neg (by omega),if_neg (by omega),if_pos h]
theorem B27{w:Wish}(h:w.act.kind=6):Y8 w=(G5 E3 w.act.past,0):=by unfold Y8;rw[if_neg (by omega),if_neg (by omega),if_neg (by omega),if_neg (by omega),if_neg (by omega)]
theorem Aw4(s:ByteArray)(q:Int)(p:Past):¬ ¬ J5 ⟨5,s,q,p⟩=0:=by
 rw[Classical.not_not]
 unfold J5
 simp
theorem B28(live:List Entry)(seen:Past)(rep:Int)(lim:Limits)(a:Actn)(hs:live.length*40≤140737488351232)(hb:szP seen)(hp:szP a.past)(FE:¬ J5 a=0):Con Tryz.prog 15 [.sl (live.map c46),.agg (c26 seen),.i .i64 rep,.agg (c28 lim),.agg (c30 a)] (.tup [.agg (c36 (B7 ⟨live,seen,rep,lim,a⟩).1),.i .i64 (B7 ⟨live,seen,rep,lim,a⟩).2]) :=
 by
 refine lN 0 c46 (live) Tryz.func15 fun hl_0=>sC B3 [.cell 10 36,.tmp 11] 80 Tryz.func15 ?_
 intro e0 cx
 refine sq<|rG cx [0,2,6,8,9,10] [6,8,9,10] z0<|sn<|sq<|sq<|A9 (σ':=⟨[(0,.sl (List.map c46 live)),(2,.i .i64 (rep)),(6,.ptr (6) (0) (0) (0)),(8,.ptr (8) (0) (0) (0)),(9,.ptr (9) (0) (0) (0)),(10,.ptr (10) (0) (0) (0)),(22,.b (decide (¬C3 live=0∨¬seen=A5 seen)))],[(6,⟨0,26,.var [.sl (List.map c3 seen.vec),.sl (List.map B1 seen.cloud)]⟩),(8,⟨0,28,.var [.i .i64 (lim.lines),.i .i64 (lim.count)]⟩),(9,⟨0,30,.var [.i .i64 (a.kind),.s (a.sku),.i .i64 (a.qty),.sl (List.map c3 a.past.vec),.sl (List.map B1 a.past.cloud)]⟩),(10,⟨0,36,.var [.nl,.nl,.nl,.nl]⟩)]⟩) ?_ ?_
 refine A6 (¬C3 live=0) (fun hh1=>?_) (fun hh1=>?_)
 refine rG cx [0,2,6,8,9,10,22] [6,8,9,10] (fT (M3 (live)) (tT 2 (G2 hh1:AV.b (C3 live !=0)=AV.b true) (tD 7 true (¬C3 live=0∨¬seen=A5 seen) (by simp only [eq_false hh1,tsl]) (oA 1 (.i .i64 (C3 live)) z0)))) ?_
 exact⟨rfl,by kernel_rfl⟩
 refine rG cx [0,2,6,8,9,10,22] [6,8,9,10] (fT (M3 (live)) (tN 2 (C3 live) (0:Int) (tT 3 (A0 hh1) (fT (A08 (seen) (by exact hb.1)) (tQ 6 (seen=A5 seen) (tT 7 (by first | (simp only [eq_false hh1,tsl];done) | simp_all:AV.b (decide ¬seen=A5 seen)=AV.b (decide (¬C3 live=0∨¬seen=A5 seen))) (oA 1 (.i .i64 (C3 live)) (oA 5 (.b (decide (seen=A5 seen))) z0)))))))) ?_
 exact⟨rfl,by kernel_rfl⟩
 refine sn<|dC (¬C3 live=0∨¬seen=A5 seen) (fun hh2=>?_) fun hh2=>?_
 refine sq<|rG cx [10,11] [10] z0<|sn<|rT<|nR<|qR (.tup [.agg [.nl,.nl,.nl,.nl],.i .i64 ((1:Int))]) (A7.tup (ZLe.cons (A7.agg (ZLe.cons (A7.nl' (show List.map c46 (B7 { live:=live,seen:=seen,rep:=rep,lim:=lim,act:=a:Wish }).1.adds=[]from(by rw[C1 (w:=⟨live,seen,rep,lim,a⟩) hh2];rfl))) (ZLe.cons (A7.nl' (show List.map c3 (B7 { live:=live,seen:=seen,rep:=rep,lim:=lim,act:=a:Wish }).1.gone.vec=[]from(by rw[C1 (w:=⟨live,seen,rep,lim,a⟩) hh2];rfl))) (ZLe.cons (A7.nl' (show List.map B1 (B7 { live:=live,seen:=seen,rep:=rep,lim:=lim,act:=a:Wish }).1.gone.cloud=[]from(by rw[C1 (w:=⟨live,seen,rep,lim,a⟩) hh2];rfl))) (ZLe.cons (A7.nl' (show List.map c54 (B7 { live:=live,seen:=seen,rep:=rep,lim:=lim,act:=a:Wish }).1.recs=[]from(by rw[C1 (w:=⟨live,seen,rep,lim,a⟩) hh2];rfl))) ZLe.nil))))) (ZLe.cons (A7.eq (show AV.i .i64 1=AV.i .i64 (B7 { live:=live,seen:=seen,rep:=rep,lim:=lim,act:=a:Wish }).2 from(by rw[C1 (w:=⟨live,seen,rep,lim,a⟩) hh2]))) ZLe.nil)))
 refine sK<|sn<|sq<|sq<|rG cx [0,2,6,8,9,10,12] [6,8,9,10] (fT (A9u (live) (seen) (by exact hb.1)) (oA 2 (.tup [.sl (List.map c46 (E5 live seen false).1),.i .i64 ((E5 live seen false).2)]) z0)) ?_
 refine sn<|rD cx [0,2,6,8,9,10,32] [6,8,9,10] (tL 1 c46 ((E5 live seen false).1) (zB 2 ((0:Int) <(↑(E5 live seen false).1.length:Int)))) (fun hh3=>?_) fun hh3=>?_
 refine sq<|rG cx [10,11] [10] z0<|sn<|rT<|nR<|qR (.tup [.agg [.nl,.nl,.nl,.nl],.i .i64 ((1:Int))]) (A7.tup (ZLe.cons (A7.agg (ZLe.cons (A7.nl' (show List.map c46 (B7 { live:=live,seen:=seen,rep:=rep,lim:=lim,act:=a:Wish }).1.adds=[]from(by rw[C2 (w:=⟨live,seen,rep,lim,a⟩) hh2 hh3];rfl))) (ZLe.cons (A7.nl' (show List.map c3 (B7 { live:=live,seen:=seen,rep:=rep,lim:=lim,act:=a:Wish }).1.gone.vec=[]from(by rw[C2 (w:=⟨live,seen,rep,lim,a⟩) hh2 hh3];rfl))) (ZLe.cons (A7.nl' (show List.map B1 (B7 { live:=live,seen:=seen,rep:=rep,lim:=lim,act:=a:Wish }).1.gone.cloud=[]from(by rw[C2 (w:=⟨live,seen,rep,lim,a⟩) hh2 hh3];rfl))) (ZLe.cons (A7.nl' (show List.map c54 (B7 { live:=live,seen:=seen,rep:=rep,lim:=lim,act:=a:Wish }).1.recs=[]from(by rw[C2 (w:=⟨live,seen,rep,lim,a⟩) hh2 hh3];rfl))) ZLe.nil))))) (ZLe.cons (A7.eq (show AV.i .i64 1=AV.i .i64 (B7 { live:=live,seen:=seen,rep:=rep,lim:=lim,act:=a:Wish }).2 from(by rw[C2 (w:=⟨live,seen,rep,lim,a⟩) hh2 hh3]))) ZLe.nil)))
 refine sK<|sn<|sq<|sq<|A9 (σ':=⟨[(0,.sl (List.map c46 live)),(2,.i .i64 (rep)),(6,.ptr (6) (0) (0) (0)),(8,.ptr (8) (0) (0) (0)),(9,.ptr (9) (0) (0) (0)),(10,.ptr (10) (0) (0) (0)),(39,.b (decide (rep <(0:Int)∨16≤rep)))],[(6,⟨0,26,.var [.sl (List.map c3 seen.vec),.sl (List.map B1 seen.cloud)]⟩),(8,⟨0,28,.var [.i .i64 (lim.lines),.i .i64 (lim.count)]⟩),(9,⟨0,30,.var [.i .i64 (a.kind),.s (a.sku),.i .i64 (a.qty),.sl (List.map c3 a.past.vec),.sl (List.map B1 a.past.cloud)]⟩),(10,⟨0,36,.var [.nl,.nl,.nl,.nl]⟩)]⟩) ?_ ?_
 refine A6 (rep <(0:Int)) (fun h_5=>?_) (fun h_5=>?_)
 refine rG cx [0,2,6,8,9,10,39] [6,8,9,10] (tT 1 (A4 h_5) (tD 5 true (rep <(0:Int)∨16≤rep) (by simp only [eq_true h_5,tsl]) z0)) ?_
 exact⟨rfl,by kernel_rfl⟩
 refine rG cx [0,2,6,8,9,10,39] [6,8,9,10] (tT 1 (A0 h_5) (tB 4 (16≤rep) (tD 5 (decide (16≤rep)) (rep <(0:Int)∨16≤rep) (by simp only [eq_false h_5,tsl]) z0))) ?_
 exact⟨rfl,by kernel_rfl⟩
 refine sn<|dC (rep <(0:Int)∨16≤rep) (fun h6=>?_) fun h6=>?_
 refine sq<|rG cx [10,11] [10] z0<|sn<|rT<|nR<|qR (.tup [.agg [.nl,.nl,.nl,.nl],.i .i64 ((3:Int))]) (A7.tup (ZLe.cons (A7.agg (ZLe.cons (A7.nl' (show List.map c46 (B7 { live:=live,seen:=seen,rep:=rep,lim:=lim,act:=a:Wish }).1.adds=[]from(by rw[D2 (w:=⟨live,seen,rep,lim,a⟩) hh2 hh3 h6];rfl))) (ZLe.cons (A7.nl' (show List.map c3 (B7 { live:=live,seen:=seen,rep:=rep,lim:=lim,act:=a:Wish }).1.gone.vec=[]from(by rw[D2 (w:=⟨live,seen,rep,lim,a⟩) hh2 hh3 h6];rfl))) (ZLe.cons (A7.nl' (show List.map B1 (B7 { live:=live,seen:=seen,rep:=rep,lim:=lim,act:=a:Wish }).1.gone.cloud=[]from(by rw[D2 (w:=⟨live,seen,rep,lim,a⟩) hh2 hh3 h6];rfl))) (ZLe.cons (A7.nl' (show List.map c54 (B7 { live:=live,seen:=seen,rep:=rep,lim:=lim,act:=a:Wish }).1.recs=[]from(by rw[D2 (w:=⟨live,seen,rep,lim,a⟩) hh2 hh3 h6];rfl))) ZLe.nil))))) (ZLe.cons (A7.eq (show AV.i .i64 3=AV.i .i64 (B7 { live:=live,seen:=seen,rep:=rep,lim:=lim,act:=a:Wish }).2 from(by rw[D2 (w:=⟨live,seen,rep,lim,a⟩) hh2 hh3 h6]))) ZLe.nil)))
 refine sK<|sn<|sq<|sq<|A9 (σ':=⟨[(0,.sl (List.map c46 live)),(2,.i .i64 (rep)),(6,.ptr (6) (0) (0) (0)),(8,.ptr (8) (0) (0) (0)),(9,.ptr (9) (0) (0) (0)),(10,.ptr (10) (0) (0) (0)),(58,.b (decide (lim.lines <(1:Int)∨(1000:Int) < lim.lines∨lim.count <(1:Int)∨(1000000000:Int) < lim.count)))],[(6,⟨0,26,.var [.sl (List.map c3 seen.vec),.sl (List.map B1 seen.cloud)]⟩),(8,⟨0,28,.var [.i .i64 (lim.lines),.i .i64 (lim.count)]⟩),(9,⟨0,30,.var [.i .i64 (a.kind),.s (a.sku),.i .i64 (a.qty),.sl (List.map c3 a.past.vec),.sl (List.map B1 a.past.cloud)]⟩),(10,⟨0,36,.var [.nl,.nl,.nl,.nl]⟩)]⟩) ?_ ?_
 refine A6 (lim.lines <(1:Int)) (fun h_8=>?_) (fun h_8=>?_)
 refine rG cx [0,2,6,8,9,10,58] [6,8,9,10] (tT 2 (A4 h_8) (tD 17 true (lim.lines <(1:Int)∨(1000:Int) < lim.lines∨lim.count <(1:Int)∨(1000000000:Int) < lim.count) (by simp only [eq_true h_8,tsl]) z0)) ?_
 exact⟨rfl,by kernel_rfl⟩
 refine A6 ((1000:Int) < lim.lines) (fun h_9=>?_) (fun h_9=>?_)
 refine rG cx [0,2,6,8,9,10,58] [6,8,9,10] (tT 2 (A0 h_8) (tT 6 (A4 h_9) (tD 17 true (lim.lines <(1:Int)∨(1000:Int) < lim.lines∨lim.count <(1:Int)∨(1000000000:Int) < lim.count) (by simp only [eq_false h_8,eq_true h_9,tsl]) z0))) ?_
 exact⟨rfl,by kernel_rfl⟩
 refine A6 (lim.count <(1:Int)) (fun h_10=>?_) (fun h_10=>?_)
 refine rG cx [0,2,6,8,9,10,58] [6,8,9,10] (tT 2 (A0 h_8) (tT 6 (A0 h_9) (tT 11 (A4 h_10) (tD 17 true (lim.lines <(1:Int)∨(1000:Int) < lim.lines∨lim.count <(1:Int)∨(1000000000:Int) < lim.count) (by simp only [eq_false h_8,eq_false h_9,eq_true h_10,tsl]) z0)))) ?_
 exact⟨rfl,by kernel_rfl⟩
 refine rG cx [0,2,6,8,9,10,58] [6,8,9,10] (tT 2 (A0 h_8) (tT 6 (A0 h_9) (tT 11 (A0 h_10) (tB 16 ((1000000000:Int) < lim.count) (tD 17 (decide ((1000000000:Int) < lim.count)) (lim.lines <(1:Int)∨(1000:Int) < lim.lines∨lim.count <(1:Int)∨(1000000000:Int) < lim.count) (by simp only [eq_false h_8,eq_false h_9,eq_false h_10,tsl]) z0))))) ?_
 exact⟨rfl,by kernel_rfl⟩
 refine sn<|dC (lim.lines <(1:Int)∨(1000:Int) < lim.lines∨lim.count <(1:Int)∨(1000000000:Int) < lim.count) (fun h11=>?_) fun h11=>?_
 refine sq<|rG cx [10,11] [10] z0<|sn<|rT<|nR<|qR (.tup [.agg [.nl,.nl,.nl,.nl],.i .i64 ((2:Int))]) (A7.tup (ZLe.cons (A7.agg (ZLe.cons (A7.nl' (show List.map c46 (B7 { live:=live,seen:=seen,rep:=rep,lim:=lim,act:=a:Wish }).1.adds=[]from(by rw[D3 (w:=⟨live,seen,rep,lim,a⟩) hh2 hh3 h6 h11];rfl))) (ZLe.cons (A7.nl' (show List.map c3 (B7 { live:=live,seen:=seen,rep:=rep,lim:=lim,act:=a:Wish }).1.gone.vec=[]from(by rw[D3 (w:=⟨live,seen,rep,lim,a⟩) hh2 hh3 h6 h11];rfl))) (ZLe.cons (A7.nl' (show List.map B1 (B7 { live:=live,seen:=seen,rep:=rep,lim:=lim,act:=a:Wish }).1.gone.cloud=[]from(by rw[D3 (w:=⟨live,seen,rep,lim,a⟩) hh2 hh3 h6 h11];rfl))) (ZLe.cons (A7.nl' (show List.map c54 (B7 { live:=live,seen:=seen,rep:=rep,lim:=lim,act:=a:Wish }).1.recs=[]from(by rw[D3 (w:=⟨live,seen,rep,lim,a⟩) hh2 hh3 h6 h11];rfl))) ZLe.nil))))) (ZLe.cons (A7.eq (show AV.i .i64 2=AV.i .i64 (B7 { live:=live,seen:=seen,rep:=rep,lim:=lim,act:=a:Wish }).2 from(by rw[D3 (w:=⟨live,seen,rep,lim,a⟩) hh2 hh3 h6 h11]))) ZLe.nil)))
 refine sK<|sn<|sq<|sq<|rG cx [0,2,6,8,9,10,14] [6,8,9,10] (fT (A9m (a) (by(with_reducible assumption))) (oA 1 (.i .i64 (J5 a)) z0))<|sn<|sq<|rG cx [0,2,6,8,9,10,14,63] [6,8,9,10] (tT 1 (G2 FE:AV.b (J5 a !=0)=AV.b true) z0)<|sn<|Ao7 (by kernel_rfl) (by kernel_rfl)<|sq<|rG cx [10,11] [10] z0<|sn<|rT<|nR<|qR (.tup [.agg [.nl,.nl,.nl,.nl],.i .i64 (J5 a)]) (A7.tup (ZLe.cons (A7.agg (ZLe.cons (A7.nl' (show List.map c46 (B7 { live:=live,seen:=seen,rep:=rep,lim:=lim,act:=a:Wish }).1.adds=[]from(by rw[D7 (w:=⟨live,seen,rep,lim,a⟩) hh2 hh3 h6 h11 FE];rfl))) (ZLe.cons (A7.nl' (show List.map c3 (B7 { live:=live,seen:=seen,rep:=rep,lim:=lim,act:=a:Wish }).1.gone.vec=[]from(by rw[D7 (w:=⟨live,seen,rep,lim,a⟩) hh2 hh3 h6 h11 FE];rfl))) (ZLe.cons (A7.nl' (show List.map B1 (B7 { live:=live,seen:=seen,rep:=rep,lim:=lim,act:=a:Wish }).1.gone.cloud=[]from(by rw[D7 (w:=⟨live,seen,rep,lim,a⟩) hh2 hh3 h6 h11 FE];rfl))) (ZLe.cons (A7.nl' (show List.map c54 (B7 { live:=live,seen:=seen,rep:=rep,lim:=lim,act:=a:Wish }).1.recs=[]from(by rw[D7 (w:=⟨live,seen,rep,lim,a⟩) hh2 hh3 h6 h11 FE];rfl))) ZLe.nil))))) (ZLe.cons (A7.eq (show AV.i .i64 (J5 a)=AV.i .i64 (B7 { live:=live,seen:=seen,rep:=rep,lim:=lim,act:=a:Wish }).2 from(by rw[D7 (w:=⟨live,seen,rep,lim,a⟩) hh2 hh3 h6 h11 FE]))) ZLe.nil)))
theorem B29(live:List Entry)(seen:Past)(rep:Int)(lim:Limits)(s:ByteArray)(q:Int)(p:Past)(hs:live.length*40≤140737488351232)(hb:szP seen)(hp:szP p):Con Tryz.prog 15 [.sl (live.map c46),.agg (c26 seen),.i .i64 rep,.agg (c28 lim),.agg (c30 ⟨1,s,q,p⟩)] (.tup [.agg (c36 (B7 ⟨live,seen,rep,lim,⟨1,s,q,p⟩⟩).1),.i .i64 (B7 ⟨live,seen,rep,lim,⟨1,s,q,p⟩⟩).2]) :=
 by
 refine lN 0 c46 (live) Tryz.func15 fun hl_0=>sC B3 [.cell 10 36,.tmp 11] 80 Tryz.func15 ?_
 intro e0 cx
 refine sq<|rG cx [0,2,6,8,9,10] [6,8,9,10] z0<|sn<|sq<|sq<|A9 (σ':=⟨[(0,.sl (List.map c46 live)),(2,.i .i64 (rep)),(6,.ptr (6) (0) (0) (0)),(8,.ptr (8) (0) (0) (0)),(9,.ptr (9) (0) (0) (0)),(10,.ptr (10) (0) (0) (0)),(22,.b (decide (¬C3 live=0∨¬seen=A5 seen)))],[(6,⟨0,26,.var [.sl (List.map c3 seen.vec),.sl (List.map B1 seen.cloud)]⟩),(8,⟨0,28,.var [.i .i64 (lim.lines),.i .i64 (lim.count)]⟩),(9,⟨0,30,.var [.i .i64 ((1:Int)),.s ({ kind:=(1:Int),sku:=s,qty:=q,past:=p:Actn }.sku),.i .i64 ({ kind:=(1:Int),sku:=s,qty:=q,past:=p:Actn }.qty),.sl (List.map c3 { kind:=(1:Int),sku:=s,qty:=q,past:=p:Actn }.past.vec),.sl (List.map B1 { kind:=(1:Int),sku:=s,qty:=q,past:=p:Actn }.past.cloud)]⟩),(10,⟨0,36,.var [.nl,.nl,.nl,.nl]⟩)]⟩) ?_ ?_
 refine A6 (¬C3 live=0) (fun hh1=>?_) (fun hh1=>?_)
 refine rG cx [0,2,6,8,9,10,22] [6,8,9,10] (fT (M3 (live)) (tT 2 (G2 hh1:AV.b (C3 live !=0)=AV.b true) (tD 7 true (¬C3 live=0∨¬seen=A5 seen) (by simp only [eq_false hh1,tsl]) (oA 1 (.i .i64 (C3 live)) z0)))) ?_
 exact⟨rfl,by kernel_rfl⟩
 refine rG cx [0,2,6,8,9,10,22] [6,8,9,10] (fT (M3 (live)) (tN 2 (C3 live) (0:Int) (tT 3 (A0 hh1) (fT (A08 (seen) (by exact hb.1)) (tQ 6 (seen=A5 seen) (tT 7 (by first | (simp only [eq_false hh1,tsl];done) | simp_all:AV.b (decide ¬seen=A5 seen)=AV.b (decide (¬C3 live=0∨¬seen=A5 seen))) (oA 1 (.i .i64 (C3 live)) (oA 5 (.b (decide (seen=A5 seen))) z0)))))))) ?_
 exact⟨rfl,by kernel_rfl⟩
 refine sn<|dC (¬C3 live=0∨¬seen=A5 seen) (fun hh2=>?_) fun hh2=>?_
 refine sq<|rG cx [10,11] [10] z0<|sn<|rT<|nR<|qR (.tup [.agg [.nl,.nl,.nl,.nl],.i .i64 ((1:Int))]) (A7.tup (ZLe.cons (A7.agg (ZLe.cons (A7.nl' (show List.map c46 (B7 { live:=live,seen:=seen,rep:=rep,lim:=lim,act:={ kind:=(1:Int),sku:=s,qty:=q,past:=p:Actn }:Wish }).1.adds=[]from(by rw[C1 (w:=⟨live,seen,rep,lim,⟨1,s,q,p⟩⟩) hh2];rfl))) (ZLe.cons (A7.nl' (show List.map c3 (B7 { live:=live,seen:=seen,rep:=rep,lim:=lim,act:={ kind:=(1:Int),sku:=s,qty:=q,past:=p:Actn }:Wish }).1.gone.vec=[]from(by rw[C1 (w:=⟨live,seen,rep,lim,⟨1,s,q,p⟩⟩) hh2];rfl))) (ZLe.cons (A7.nl' (show List.map B1 (B7 { live:=live,seen:=seen,rep:=rep,lim:=lim,act:={ kind:=(1:Int),sku:=s,qty:=q,past:=p:Actn }:Wish }).1.gone.cloud=[]from(by rw[C1 (w:=⟨live,seen,rep,lim,⟨1,s,q,p⟩⟩) hh2];rfl))) (ZLe.cons (A7.nl' (show List.map c54 (B7 { live:=live,seen:=seen,rep:=rep,lim:=lim,act:={ kind:=(1:Int),sku:=s,qty:=q,past:=p:Actn }:Wish }).1.recs=[]from(by rw[C1 (w:=⟨live,seen,rep,lim,⟨1,s,q,p⟩⟩) hh2];rfl))) ZLe.nil))))) (ZLe.cons (A7.eq (show AV.i .i64 1=AV.i .i64 (B7 { live:=live,seen:=seen,rep:=rep,lim:=lim,act:={ kind:=(1:Int),sku:=s,qty:=q,past:=p:Actn }:Wish }).2 from(by rw[C1 (w:=⟨live,seen,rep,lim,⟨1,s,q,p⟩⟩) hh2]))) ZLe.nil)))
 refine sK<|sn<|sq<|sq<|rG cx [0,2,6,8,9,10,12] [6,8,9,10] (fT (A9u (live) (seen) (by exact hb.1)) (oA 2 (.tup [.sl (List.map c46 (E5 live seen false).1),.i .i64 ((E5 live seen false).2)]) z0)) ?_
 refine sn<|rD cx [0,2,6,8,9,10,32] [6,8,9,10] (tL 1 c46 ((E5 live seen false).1) (zB 2 ((0:Int) <(↑(E5 live seen false).1.length:Int)))) (fun hh3=>?_) fun hh3=>?_
 refine sq<|rG cx [10,11] [10] z0<|sn<|rT<|nR<|qR (.tup [.agg [.nl,.nl,.nl,.nl],.i .i64 ((1:Int))]) (A7.tup (ZLe.cons (A7.agg (ZLe.cons (A7.nl' (show List.map c46 (B7 { live:=live,seen:=seen,rep:=rep,lim:=lim,act:={ kind:=(1:Int),sku:=s,qty:=q,past:=p:Actn }:Wish }).1.adds=[]from(by rw[C2 (w:=⟨live,seen,rep,lim,⟨1,s,q,p⟩⟩) hh2 hh3];rfl))) (ZLe.cons (A7.nl' (show List.map c3 (B7 { live:=live,seen:=seen,rep:=rep,lim:=lim,act:={ kind:=(1:Int),sku:=s,qty:=q,past:=p:Actn }:Wish }).1.gone.vec=[]from(by rw[C2 (w:=⟨live,seen,rep,lim,⟨1,s,q,p⟩⟩) hh2 hh3];rfl))) (ZLe.cons (A7.nl' (show List.map B1 (B7 { live:=live,seen:=seen,rep:=rep,lim:=lim,act:={ kind:=(1:Int),sku:=s,qty:=q,past:=p:Actn }:Wish }).1.gone.cloud=[]from(by rw[C2 (w:=⟨live,seen,rep,lim,⟨1,s,q,p⟩⟩) hh2 hh3];rfl))) (ZLe.cons (A7.nl' (show List.map c54 (B7 { live:=live,seen:=seen,rep:=rep,lim:=lim,act:={ kind:=(1:Int),sku:=s,qty:=q,past:=p:Actn }:Wish }).1.recs=[]from(by rw[C2 (w:=⟨live,seen,rep,lim,⟨1,s,q,p⟩⟩) hh2 hh3];rfl))) ZLe.nil))))) (ZLe.cons (A7.eq (show AV.i .i64 1=AV.i .i64 (B7 { live:=live,seen:=seen,rep:=rep,lim:=lim,act:={ kind:=(1:Int),sku:=s,qty:=q,past:=p:Actn }:Wish }).2 from(by rw[C2 (w:=⟨live,seen,rep,lim,⟨1,s,q,p⟩⟩) hh2 hh3]))) ZLe.nil)))
 refine sK<|sn<|sq<|sq<|A9 (σ':=⟨[(0,.sl (List.map c46 live)),(2,.i .i64 (rep)),(6,.ptr (6) (0) (0) (0)),(8,.ptr (8) (0) (0) (0)),(9,.ptr (9) (0) (0) (0)),(10,.ptr (10) (0) (0) (0)),(39,.b (decide (rep <(0:Int)∨16≤rep)))],[(6,⟨0,26,.var [.sl (List.map c3 seen.vec),.sl (List.map B1 seen.cloud)]⟩),(8,⟨0,28,.var [.i .i64 (lim.lines),.i .i64 (lim.count)]⟩),(9,⟨0,30,.var [.i .i64 ((1:Int)),.s ({ kind:=(1:Int),sku:=s,qty:=q,past:=p:Actn }.sku),.i .i64 ({ kind:=(1:Int),sku:=s,qty:=q,past:=p:Actn }.qty),.sl (List.map c3 { kind:=(1:Int),sku:=s,qty:=q,past:=p:Actn }.past.vec),.sl (List.map B1 { kind:=(1:Int),sku:=s,qty:=q,past:=p:Actn }.past.cloud)]⟩),(10,⟨0,36,.var [.nl,.nl,.nl,.nl]⟩)]⟩) ?_ ?_
 refine A6 (rep <(0:Int)) (fun h_5=>?_) (fun h_5=>?_)
 refine rG cx [0,2,6,8,9,10,39] [6,8,9,10] (tT 1 (A4 h_5) (tD 5 true (rep <(0:Int)∨16≤rep) (by simp only [eq_true h_5,tsl]) z0)) ?_
 exact⟨rfl,by kernel_rfl⟩
 refine rG cx [0,2,6,8,9,10,39] [6,8,9,10] (tT 1 (A0 h_5) (tB 4 (16≤rep) (tD 5 (decide (16≤rep)) (rep <(0:Int)∨16≤rep) (by simp only [eq_false h_5,tsl]) z0))) ?_
 exact⟨rfl,by kernel_rfl⟩
 refine sn<|dC (rep <(0:Int)∨16≤rep) (fun h6=>?_) fun h6=>?_
 refine sq<|rG cx [10,11] [10] z0<|sn<|rT<|nR<|qR (.tup [.agg [.nl,.nl,.nl,.nl],.i .i64 ((3:Int))]) (A7.tup (ZLe.cons (A7.agg (ZLe.cons (A7.nl' (show List.map c46 (B7 { live:=live,seen:=seen,rep:=rep,lim:=lim,act:={ kind:=(1:Int),sku:=s,qty:=q,past:=p:Actn }:Wish }).1.adds=[]from(by rw[D2 (w:=⟨live,seen,rep,lim,⟨1,s,q,p⟩⟩) hh2 hh3 h6];rfl))) (ZLe.cons (A7.nl' (show List.map c3 (B7 { live:=live,seen:=seen,rep:=rep,lim:=lim,act:={ kind:=(1:Int),sku:=s,qty:=q,past:=p:Actn }:Wish }).1.gone.vec=[]from(by rw[D2 (w:=⟨live,seen,rep,lim,⟨1,s,q,p⟩⟩) hh2 hh3 h6];rfl))) (ZLe.cons (A7.nl' (show List.map B1 (B7 { live:=live,seen:=seen,rep:=rep,lim:=lim,act:={ kind:=(1:Int),sku:=s,qty:=q,past:=p:Actn }:Wish }).1.gone.cloud=[]from(by rw[D2 (w:=⟨live,seen,rep,lim,⟨1,s,q,p⟩⟩) hh2 hh3 h6];rfl))) (ZLe.cons (A7.nl' (show List.map c54 (B7 { live:=live,seen:=seen,rep:=rep,lim:=lim,act:={ kind:=(1:Int),sku:=s,qty:=q,past:=p:Actn }:Wish }).1.recs=[]from(by rw[D2 (w:=⟨live,seen,rep,lim,⟨1,s,q,p⟩⟩) hh2 hh3 h6];rfl))) ZLe.nil))))) (ZLe.cons (A7.eq (show AV.i .i64 3=AV.i .i64 (B7 { live:=live,seen:=seen,rep:=rep,lim:=lim,act:={ kind:=(1:Int),sku:=s,qty:=q,past:=p:Actn }:Wish }).2 from(by rw[D2 (w:=⟨live,seen,rep,lim,⟨1,s,q,p⟩⟩) hh2 hh3 h6]))) ZLe.nil)))
 refine sK<|sn<|sq<|sq<|A9 (σ':=⟨[(0,.sl (List.map c46 live)),(2,.i .i64 (rep)),(6,.ptr (6) (0) (0) (0)),(8,.ptr (8) (0) (0) (0)),(9,.ptr (9) (0) (0) (0)),(10,.ptr (10) (0) (0) (0)),(58,.b (decide (lim.lines <(1:Int)∨(1000:Int) < lim.lines∨lim.count <(1:Int)∨(1000000000:Int) < lim.count)))],[(6,⟨0,26,.var [.sl (List.map c3 seen.vec),.sl (List.map B1 seen.cloud)]⟩),(8,⟨0,28,.var [.i .i64 (lim.lines),.i .i64 (lim.count)]⟩),(9,⟨0,30,.var [.i .i64 ((1:Int)),.s ({ kind:=(1:Int),sku:=s,qty:=q,past:=p:Actn }.sku),.i .i64 ({ kind:=(1:Int),sku:=s,qty:=q,past:=p:Actn }.qty),.sl (List.map c3 { kind:=(1:Int),sku:=s,qty:=q,past:=p:Actn }.past.vec),.sl (List.map B1 { kind:=(1:Int),sku:=s,qty:=q,past:=p:Actn }.past.cloud)]⟩),(10,⟨0,36,.var [.nl,.nl,.nl,.nl]⟩)]⟩) ?_ ?_
 refine A6 (lim.lines <(1:Int)) (fun h_8=>?_) (fun h_8=>?_)
 refine rG cx [0,2,6,8,9,10,58] [6,8,9,10] (tT 2 (A4 h_8) (tD 17 true (lim.lines <(1:Int)∨(1000:Int) < lim.lines∨lim.count <(1:Int)∨(1000000000:Int) < lim.count) (by simp only [eq_true h_8,tsl]) z0)) ?_
 exact⟨rfl,by kernel_rfl⟩
 refine A6 ((1000:Int) < lim.lines) (fun h_9=>?_) (fun h_9=>?_)
 refine rG cx [0,2,6,8,9,10,58] [6,8,9,10] (tT 2 (A0 h_8) (tT 6 (A4 h_9) (tD 17 true (lim.lines <(1:Int)∨(1000:Int) < lim.lines∨lim.count <(1:Int)∨(1000000000:Int) < lim.count) (by simp only [eq_false h_8,eq_true h_9,tsl]) z0))) ?_
 exact⟨rfl,by kernel_rfl⟩
 refine A6 (lim.count <(1:Int)) (fun h_10=>?_) (fun h_10=>?_)
 refine rG cx [0,2,6,8,9,10,58] [6,8,9,10] (tT 2 (A0 h_8) (tT 6 (A0 h_9) (tT 11 (A4 h_10) (tD 17 true (lim.lines <(1:Int)∨(1000:Int) < lim.lines∨lim.count <(1:Int)∨(1000000000:Int) < lim.count) (by simp only [eq_false h_8,eq_false h_9,eq_true h_10,tsl]) z0)))) ?_
 exact⟨rfl,by kernel_rfl⟩
 refine rG cx [0,2,6,8,9,10,58] [6,8,9,10] (tT 2 (A0 h_8) (tT 6 (A0 h_9) (tT 11 (A0 h_10) (tB 16 ((1000000000:Int) < lim.count) (tD 17 (decide ((1000000000:Int) < lim.count)) (lim.lines <(1:Int)∨(1000:Int) < lim.lines∨lim.count <(1:Int)∨(1000000000:Int) < lim.count) (by simp only [eq_false h_8,eq_false h_9,eq_false h_10,tsl]) z0))))) ?_
 exact⟨rfl,by kernel_rfl⟩
 refine sn<|dC (lim.lines <(1:Int)∨(1000:Int) < lim.lines∨lim.count <(1:Int)∨(1000000000:Int) < lim.count) (fun h11=>?_) fun h11=>?_
 refine sq<|rG cx [10,11] [10] z0<|sn<|rT<|nR<|qR (.tup [.agg [.nl,.nl,.nl,.nl],.i .i64 ((2:Int))]) (A7.tup (ZLe.cons (A7.agg (ZLe.cons (A7.nl' (show List.map c46 (B7 { live:=live,seen:=seen,rep:=rep,lim:=lim,act:={ kind:=(1:Int),sku:=s,qty:=q,past:=p:Actn }:Wish }).1.adds=[]from(by rw[D3 (w:=⟨live,seen,rep,lim,⟨1,s,q,p⟩⟩) hh2 hh3 h6 h11];rfl))) (ZLe.cons (A7.nl' (show List.map c3 (B7 { live:=live,seen:=seen,rep:=rep,lim:=lim,act:={ kind:=(1:Int),sku:=s,qty:=q,past:=p:Actn }:Wish }).1.gone.vec=[]from(by rw[D3 (w:=⟨live,seen,rep,lim,⟨1,s,q,p⟩⟩) hh2 hh3 h6 h11];rfl))) (ZLe.cons (A7.nl' (show List.map B1 (B7 { live:=live,seen:=seen,rep:=rep,lim:=lim,act:={ kind:=(1:Int),sku:=s,qty:=q,past:=p:Actn }:Wish }).1.gone.cloud=[]from(by rw[D3 (w:=⟨live,seen,rep,lim,⟨1,s,q,p⟩⟩) hh2 hh3 h6 h11];rfl))) (ZLe.cons (A7.nl' (show List.map c54 (B7 { live:=live,seen:=seen,rep:=rep,lim:=lim,act:={ kind:=(1:Int),sku:=s,qty:=q,past:=p:Actn }:Wish }).1.recs=[]from(by rw[D3 (w:=⟨live,seen,rep,lim,⟨1,s,q,p⟩⟩) hh2 hh3 h6 h11];rfl))) ZLe.nil))))) (ZLe.cons (A7.eq (show AV.i .i64 2=AV.i .i64 (B7 { live:=live,seen:=seen,rep:=rep,lim:=lim,act:={ kind:=(1:Int),sku:=s,qty:=q,past:=p:Actn }:Wish }).2 from(by rw[D3 (w:=⟨live,seen,rep,lim,⟨1,s,q,p⟩⟩) hh2 hh3 h6 h11]))) ZLe.nil)))
 refine sK<|sn<|sq<|sq<|rG cx [0,2,6,8,9,10,14] [6,8,9,10] (fT (A9m ({ kind:=(1:Int),sku:={ kind:=(1:Int),sku:=s,qty:=q,past:=p:Actn }.sku,qty:={ kind:=(1:Int),sku:=s,qty:=q,past:=p:Actn }.qty,past:={ kind:=(1:Int),sku:=s,qty:=q,past:=p:Actn }.past:Actn }) (by(with_reducible assumption))) (oA 1 (.i .i64 (J5 { kind:=(1:Int),sku:={ kind:=(1:Int),sku:=s,qty:=q,past:=p:Actn }.sku,qty:={ kind:=(1:Int),sku:=s,qty:=q,past:=p:Actn }.qty,past:={ kind:=(1:Int),sku:=s,qty:=q,past:=p:Actn }.past:Actn })) z0))<|sn<|sq<|rG cx [0,2,6,8,9,10,14,63] [6,8,9,10] (tN 1 (J5 { kind:=(1:Int),sku:={ kind:=(1:Int),sku:=s,qty:=q,past:=p:Actn }.sku,qty:={ kind:=(1:Int),sku:=s,qty:=q,past:=p:Actn }.qty,past:={ kind:=(1:Int),sku:=s,qty:=q,past:=p:Actn }.past:Actn }) (0:Int) z0)<|sn<|dC (¬J5 { kind:=(1:Int),sku:={ kind:=(1:Int),sku:=s,qty:=q,past:=p:Actn }.sku,qty:={ kind:=(1:Int),sku:=s,qty:=q,past:=p:Actn }.qty,past:={ kind:=(1:Int),sku:=s,qty:=q,past:=p:Actn }.past:Actn }=(0:Int)) (fun h12=>?_) fun h12=>?_
 refine sq<|rG cx [10,11] [10] z0<|sn<|rT<|nR<|qR (.tup [.agg [.nl,.nl,.nl,.nl],.i .i64 (J5 { kind:=(1:Int),sku:={ kind:=(1:Int),sku:=s,qty:=q,past:=p:Actn }.sku,qty:={ kind:=(1:Int),sku:=s,qty:=q,past:=p:Actn }.qty,past:={ kind:=(1:Int),sku:=s,qty:=q,past:=p:Actn }.past:Actn })]) (A7.tup (ZLe.cons (A7.agg (ZLe.cons (A7.nl' (show List.map c46 (B7 { live:=live,seen:=seen,rep:=rep,lim:=lim,act:={ kind:=(1:Int),sku:=s,qty:=q,past:=p:Actn }:Wish }).1.adds=[]from(by rw[D7 (w:=⟨live,seen,rep,lim,⟨1,s,q,p⟩⟩) hh2 hh3 h6 h11 h12];rfl))) (ZLe.cons (A7.nl' (show List.map c3 (B7 { live:=live,seen:=seen,rep:=rep,lim:=lim,act:={ kind:=(1:Int),sku:=s,qty:=q,past:=p:Actn }:Wish }).1.gone.vec=[]from(by rw[D7 (w:=⟨live,seen,rep,lim,⟨1,s,q,p⟩⟩) hh2 hh3 h6 h11 h12];rfl))) (ZLe.cons (A7.nl' (show List.map B1 (B7 { live:=live,seen:=seen,rep:=rep,lim:=lim,act:={ kind:=(1:Int),sku:=s,qty:=q,past:=p:Actn }:Wish }).1.gone.cloud=[]from(by rw[D7 (w:=⟨live,seen,rep,lim,⟨1,s,q,p⟩⟩) hh2 hh3 h6 h11 h12];rfl))) (ZLe.cons (A7.nl' (show List.map c54 (B7 { live:=live,seen:=seen,rep:=rep,lim:=lim,act:={ kind:=(1:Int),sku:=s,qty:=q,past:=p:Actn }:Wish }).1.recs=[]from(by rw[D7 (w:=⟨live,seen,rep,lim,⟨1,s,q,p⟩⟩) hh2 hh3 h6 h11 h12];rfl))) ZLe.nil))))) (ZLe.cons (A7.eq (show AV.i .i64 (J5 { kind:=(1:Int),sku:={ kind:=(1:Int),sku:=s,qty:=q,past:=p:Actn }.sku,qty:={ kind:=(1:Int),sku:=s,qty:=q,past:=p:Actn }.qty,past:={ kind:=(1:Int),sku:=s,qty:=q,past:=p:Actn }.past:Actn })=AV.i .i64 (B7 { live:=live,seen:=seen,rep:=rep,lim:=lim,act:={ kind:=(1:Int),sku:=s,qty:=q,past:=p:Actn }:Wish }).2 from(by rw[D7 (w:=⟨live,seen,rep,lim,⟨1,s,q,p⟩⟩) hh2 hh3 h6 h11 h12]))) ZLe.nil)))
 refine sK<|sn<|sq<|rA cx [10,11] [10] (fT (A1i ) (fO ((0:Int)≤(1:Int)) (fR (some [AV.fn (Fn.func (154:FuncId)) [] []]) (fR 1 (fT (con154 ({ live:=live,seen:=seen,rep:=rep,lim:=lim,act:={ kind:=(1:Int),sku:={ kind:=(1:Int),sku:=s,qty:=q,past:=p:Actn }.sku,qty:={ kind:=(1:Int),sku:=s,qty:=q,past:=p:Actn }.qty,past:={ kind:=(1:Int),sku:=s,qty:=q,past:=p:Actn }.past:Actn }:Wish }) (by(with_reducible assumption)) (by(with_reducible assumption))) (oA 0 (Ab3 (A1i )) (oR 3 [.fn (Fn.func (154:FuncId)) [] []] (oA 11 (.tup [.agg [.sl (List.map c46 (S8 { live:=live,seen:=seen,rep:=rep,lim:=lim,act:={ kind:=(1:Int),sku:={ kind:=(1:Int),sku:=s,qty:=q,past:=p:Actn }.sku,qty:={ kind:=(1:Int),sku:=s,qty:=q,past:=p:Actn }.qty,past:={ kind:=(1:Int),sku:=s,qty:=q,past:=p:Actn }.past:Actn }:Wish }).1.adds),.sl (List.map c3 (S8 { live:=live,seen:=seen,rep:=rep,lim:=lim,act:={ kind:=(1:Int),sku:={ kind:=(1:Int),sku:=s,qty:=q,past:=p:Actn }.sku,qty:={ kind:=(1:Int),sku:=s,qty:=q,past:=p:Actn }.qty,past:={ kind:=(1:Int),sku:=s,qty:=q,past:=p:Actn }.past:Actn }:Wish }).1.gone.vec),.sl (List.map B1 (S8 { live:=live,seen:=seen,rep:=rep,lim:=lim,act:={ kind:=(1:Int),sku:={ kind:=(1:Int),sku:=s,qty:=q,past:=p:Actn }.sku,qty:={ kind:=(1:Int),sku:=s,qty:=q,past:=p:Actn }.qty,past:={ kind:=(1:Int),sku:=s,qty:=q,past:=p:Actn }.past:Actn }:Wish }).1.gone.cloud),.sl (List.map c54 (S8 { live:=live,seen:=seen,rep:=rep,lim:=lim,act:={ kind:=(1:Int),sku:={ kind:=(1:Int),sku:=s,qty:=q,past:=p:Actn }.sku,qty:={ kind:=(1:Int),sku:=s,qty:=q,past:=p:Actn }.qty,past:={ kind:=(1:Int),sku:=s,qty:=q,past:=p:Actn }.past:Actn }:Wish }).1.recs)],.i .i64 ((S8 { live:=live,seen:=seen,rep:=rep,lim:=lim,act:={ kind:=(1:Int),sku:={ kind:=(1:Int),sku:=s,qty:=q,past:=p:Actn }.sku,qty:={ kind:=(1:Int),sku:=s,qty:=q,past:=p:Actn }.qty,past:={ kind:=(1:Int),sku:=s,qty:=q,past:=p:Actn }.past:Actn }:Wish }).2)]) z0))))))))<|sn<|rT<|qR (.tup [.agg [.sl (List.map c46 (S8 { live:=live,seen:=seen,rep:=rep,lim:=lim,act:={ kind:=(1:Int),sku:={ kind:=(1:Int),sku:=s,qty:=q,past:=p:Actn }.sku,qty:={ kind:=(1:Int),sku:=s,qty:=q,past:=p:Actn }.qty,past:={ kind:=(1:Int),sku:=s,qty:=q,past:=p:Actn }.past:Actn }:Wish }).1.adds),.sl (List.map c3 (S8 { live:=live,seen:=seen,rep:=rep,lim:=lim,act:={ kind:=(1:Int),sku:={ kind:=(1:Int),sku:=s,qty:=q,past:=p:Actn }.sku,qty:={ kind:=(1:Int),sku:=s,qty:=q,past:=p:Actn }.qty,past:={ kind:=(1:Int),sku:=s,qty:=q,past:=p:Actn }.past:Actn }:Wish }).1.gone.vec),.sl (List.map B1 (S8 { live:=live,seen:=seen,rep:=rep,lim:=lim,act:={ kind:=(1:Int),sku:={ kind:=(1:Int),sku:=s,qty:=q,past:=p:Actn }.sku,qty:={ kind:=(1:Int),sku:=s,qty:=q,past:=p:Actn }.qty,past:={ kind:=(1:Int),sku:=s,qty:=q,past:=p:Actn }.past:Actn }:Wish }).1.gone.cloud),.sl (List.map c54 (S8 { live:=live,seen:=seen,rep:=rep,lim:=lim,act:={ kind:=(1:Int),sku:={ kind:=(1:Int),sku:=s,qty:=q,past:=p:Actn }.sku,qty:={ kind:=(1:Int),sku:=s,qty:=q,past:=p:Actn }.qty,past:={ kind:=(1:Int),sku:=s,qty:=q,past:=p:Actn }.past:Actn }:Wish }).1.recs)],.i .i64 ((S8 { live:=live,seen:=seen,rep:=rep,lim:=lim,act:={ kind:=(1:Int),sku:={ kind:=(1:Int),sku:=s,qty:=q,past:=p:Actn }.sku,qty:={ kind:=(1:Int),sku:=s,qty:=q,past:=p:Actn }.qty,past:={ kind:=(1:Int),sku:=s,qty:=q,past:=p:Actn }.past:Actn }:Wish }).2)]) (A7.tup (ZLe.cons (A7.eq (show AV.agg [AV.sl (List.map c46 (S8 { live:=live,seen:=seen,rep:=rep,lim:=lim,act:={ kind:=(1:Int),sku:={ kind:=(1:Int),sku:=s,qty:=q,past:=p:Actn }.sku,qty:={ kind:=(1:Int),sku:=s,qty:=q,past:=p:Actn }.qty,past:={ kind:=(1:Int),sku:=s,qty:=q,past:=p:Actn }.past:Actn }:Wish }).1.adds),AV.sl (List.map c3 (S8 { live:=live,seen:=seen,rep:=rep,lim:=lim,act:={ kind:=(1:Int),sku:={ kind:=(1:Int),sku:=s,qty:=q,past:=p:Actn }.sku,qty:={ kind:=(1:Int),sku:=s,qty:=q,past:=p:Actn }.qty,past:={ kind:=(1:Int),sku:=s,qty:=q,past:=p:Actn }.past:Actn }:Wish }).1.gone.vec),AV.sl (List.map B1 (S8 { live:=live,seen:=seen,rep:=rep,lim:=lim,act:={ kind:=(1:Int),sku:={ kind:=(1:Int),sku:=s,qty:=q,past:=p:Actn }.sku,qty:={ kind:=(1:Int),sku:=s,qty:=q,past:=p:Actn }.qty,past:={ kind:=(1:Int),sku:=s,qty:=q,past:=p:Actn }.past:Actn }:Wish }).1.gone.cloud),AV.sl (List.map c54 (S8 { live:=live,seen:=seen,rep:=rep,lim:=lim,act:={ kind:=(1:Int),sku:={ kind:=(1:Int),sku:=s,qty:=q,past:=p:Actn }.sku,qty:={ kind:=(1:Int),sku:=s,qty:=q,past:=p:Actn }.qty,past:={ kind:=(1:Int),sku:=s,qty:=q,past:=p:Actn }.past:Actn }:Wish }).1.recs)]=AV.agg [AV.sl (List.map c46 (B7 { live:=live,seen:=seen,rep:=rep,lim:=lim,act:={ kind:=(1:Int),sku:=s,qty:=q,past:=p:Actn }:Wish }).1.adds),AV.sl (List.map c3 (B7 { live:=live,seen:=seen,rep:=rep,lim:=lim,act:={ kind:=(1:Int),sku:=s,qty:=q,past:=p:Actn }:Wish }).1.gone.vec),AV.sl (List.map B1 (B7 { live:=live,seen:=seen,rep:=rep,lim:=lim,act:={ kind:=(1:Int),sku:=s,qty:=q,past:=p:Actn }:Wish }).1.gone.cloud),AV.sl (List.map c54 (B7 { live:=live,seen:=seen,rep:=rep,lim:=lim,act:={ kind:=(1:Int),sku:=s,qty:=q,past:=p:Actn }:Wish }).1.recs)]from(by rw[G9 (w:=⟨live,seen,rep,lim,⟨1,s,q,p⟩⟩) hh2 hh3 h6 h11 h12,B24 (w:=⟨live,seen,rep,lim,⟨1,s,q,p⟩⟩) rfl]))) (ZLe.cons (A7.eq (show AV.i .i64 (S8 { live:=live,seen:=seen,rep:=rep,lim:=lim,act:={ kind:=(1:Int),sku:={ kind:=(1:Int),sku:=s,qty:=q,past:=p:Actn }.sku,qty:={ kind:=(1:Int),sku:=s,qty:=q,past:=p:Actn }.qty,past:={ kind:=(1:Int),sku:=s,qty:=q,past:=p:Actn }.past:Actn }:Wish }).2=AV.i .i64 (B7 { live:=live,seen:=seen,rep:=rep,lim:=lim,act:={ kind:=(1:Int),sku:=s,qty:=q,past:=p:Actn }:Wish }).2 from(by rw[G9 (w:=⟨live,seen,rep,lim,⟨1,s,q,p⟩⟩) hh2 hh3 h6 h11 h12,B24 (w:=⟨live,seen,rep,lim,⟨1,s,q,p⟩⟩) rfl]))) ZLe.nil)))
theorem B2a(live:List Entry)(seen:Past)(rep:Int)(lim:Limits)(s:ByteArray)(q:Int)(p:Past)(hs:live.length*40≤140737488351232)(hb:szP seen)(hp:szP p):Con Tryz.prog 15 [.sl (live.map c46),.agg (c26 seen),.i .i64 rep,.agg (c28 lim),.agg (c30 ⟨2,s,q,p⟩)] (.tup [.agg (c36 (B7 ⟨live,seen,rep,lim,⟨2,s,q,p⟩⟩).1),.i .i64 (B7 ⟨live,seen,rep,lim,⟨2,s,q,p⟩⟩).2]) :=
 by
 refine lN 0 c46 (live) Tryz.func15 fun hl_0=>sC B3 [.cell 10 36,.tmp 11] 80 Tryz.func15 ?_
 intro e0 cx
 refine sq<|rG cx [0,2,6,8,9,10] [6,8,9,10] z0<|sn<|sq<|sq<|A9 (σ':=⟨[(0,.sl (List.map c46 live)),(2,.i .i64 (rep)),(6,.ptr (6) (0) (0) (0)),(8,.ptr (8) (0) (0) (0)),(9,.ptr (9) (0) (0) (0)),(10,.ptr (10) (0) (0) (0)),(22,.b (decide (¬C3 live=0∨¬seen=A5 seen)))],[(6,⟨0,26,.var [.sl (List.map c3 seen.vec),.sl (List.map B1 seen.cloud)]⟩),(8,⟨0,28,.var [.i .i64 (lim.lines),.i .i64 (lim.count)]⟩),(9,⟨0,30,.var [.i .i64 ((2:Int)),.s ({ kind:=(2:Int),sku:=s,qty:=q,past:=p:Actn }.sku),.i .i64 ({ kind:=(2:Int),sku:=s,qty:=q,past:=p:Actn }.qty),.sl (List.map c3 { kind:=(2:Int),sku:=s,qty:=q,past:=p:Actn }.past.vec),.sl (List.map B1 { kind:=(2:Int),sku:=s,qty:=q,past:=p:Actn }.past.cloud)]⟩),(10,⟨0,36,.var [.nl,.nl,.nl,.nl]⟩)]⟩) ?_ ?_
 refine A6 (¬C3 live=0) (fun hh1=>?_) (fun hh1=>?_)
 refine rG cx [0,2,6,8,9,10,22] [6,8,9,10] (fT (M3 (live)) (tT 2 (G2 hh1:AV.b (C3 live !=0)=AV.b true) (tD 7 true (¬C3 live=0∨¬seen=A5 seen) (by simp only [eq_false hh1,tsl]) (oA 1 (.i .i64 (C3 live)) z0)))) ?_
 exact⟨rfl,by kernel_rfl⟩
 refine rG cx [0,2,6,8,9,10,22] [6,8,9,10] (fT (M3 (live)) (tN 2 (C3 live) (0:Int) (tT 3 (A0 hh1) (fT (A08 (seen) (by exact hb.1)) (tQ 6 (seen=A5 seen) (tT 7 (by first | (simp only [eq_false hh1,tsl];done) | simp_all:AV.b (decide ¬seen=A5 seen)=AV.b (decide (¬C3 live=0∨¬seen=A5 seen))) (oA 1 (.i .i64 (C3 live)) (oA 5 (.b (decide (seen=A5 seen))) z0)))))))) ?_
 exact⟨rfl,by kernel_rfl⟩
 refine sn<|dC (¬C3 live=0∨¬seen=A5 seen) (fun hh2=>?_) fun hh2=>?_
 refine sq<|rG cx [10,11] [10] z0<|sn<|rT<|nR<|qR (.tup [.agg [.nl,.nl,.nl,.nl],.i .i64 ((1:Int))]) (A7.tup (ZLe.cons (A7.agg (ZLe.cons (A7.nl' (show List.map c46 (B7 { live:=live,seen:=seen,rep:=rep,lim:=lim,act:={ kind:=(2:Int),sku:=s,qty:=q,past:=p:Actn }:Wish }).1.adds=[]from(by rw[C1 (w:=⟨live,seen,rep,lim,⟨2,s,q,p⟩⟩) hh2];rfl))) (ZLe.cons (A7.nl' (show List.map c3 (B7 { live:=live,seen:=seen,rep:=rep,lim:=lim,act:={ kind:=(2:Int),sku:=s,qty:=q,past:=p:Actn }:Wish }).1.gone.vec=[]from(by rw[C1 (w:=⟨live,seen,rep,lim,⟨2,s,q,p⟩⟩) hh2];rfl))) (ZLe.cons (A7.nl' (show List.map B1 (B7 { live:=live,seen:=seen,rep:=rep,lim:=lim,act:={ kind:=(2:Int),sku:=s,qty:=q,past:=p:Actn }:Wish }).1.gone.cloud=[]from(by rw[C1 (w:=⟨live,seen,rep,lim,⟨2,s,q,p⟩⟩) hh2];rfl))) (ZLe.cons (A7.nl' (show List.map c54 (B7 { live:=live,seen:=seen,rep:=rep,lim:=lim,act:={ kind:=(2:Int),sku:=s,qty:=q,past:=p:Actn }:Wish }).1.recs=[]from(by rw[C1 (w:=⟨live,seen,rep,lim,⟨2,s,q,p⟩⟩) hh2];rfl))) ZLe.nil))))) (ZLe.cons (A7.eq (show AV.i .i64 1=AV.i .i64 (B7 { live:=live,seen:=seen,rep:=rep,lim:=lim,act:={ kind:=(2:Int),sku:=s,qty:=q,past:=p:Actn }:Wish }).2 from(by rw[C1 (w:=⟨live,seen,rep,lim,⟨2,s,q,p⟩⟩) hh2]))) ZLe.nil)))
 refine sK<|sn<|sq<|sq<|rG cx [0,2,6,8,9,10,12] [6,8,9,10] (fT (A9u (live) (seen) (by exact hb.1)) (oA 2 (.tup [.sl (List.map c46 (E5 live seen false).1),.i .i64 ((E5 live seen false).2)]) z0)) ?_
 refine sn<|rD cx [0,2,6,8,9,10,32] [6,8,9,10] (tL 1 c46 ((E5 live seen false).1) (zB 2 ((0:Int) <(↑(E5 live seen false).1.length:Int)))) (fun hh3=>?_) fun hh3=>?_
 refine sq<|rG cx [10,11] [10] z0<|sn<|rT<|nR<|qR (.tup [.agg [.nl,.nl,.nl,.nl],.i .i64 ((1:Int))]) (A7.tup (ZLe.cons (A7.agg (ZLe.cons (A7.nl' (show List.map c46 (B7 { live:=live,seen:=seen,rep:=rep,lim:=lim,act:={ kind:=(2:Int),sku:=s,qty:=q,past:=p:Actn }:Wish }).1.adds=[]from(by rw[C2 (w:=⟨live,seen,rep,lim,⟨2,s,q,p⟩⟩) hh2 hh3];rfl))) (ZLe.cons (A7.nl' (show List.map c3 (B7 { live:=live,seen:=seen,rep:=rep,lim:=lim,act:={ kind:=(2:Int),sku:=s,qty:=q,past:=p:Actn }:Wish }).1.gone.vec=[]from(by rw[C2 (w:=⟨live,seen,rep,lim,⟨2,s,q,p⟩⟩) hh2 hh3];rfl))) (ZLe.cons (A7.nl' (show List.map B1 (B7 { live:=live,seen:=seen,rep:=rep,lim:=lim,act:={ kind:=(2:Int),sku:=s,qty:=q,past:=p:Actn }:Wish }).1.gone.cloud=[]from(by rw[C2 (w:=⟨live,seen,rep,lim,⟨2,s,q,p⟩⟩) hh2 hh3];rfl))) (ZLe.cons (A7.nl' (show List.map c54 (B7 { live:=live,seen:=seen,rep:=rep,lim:=lim,act:={ kind:=(2:Int),sku:=s,qty:=q,past:=p:Actn }:Wish }).1.recs=[]from(by rw[C2 (w:=⟨live,seen,rep,lim,⟨2,s,q,p⟩⟩) hh2 hh3];rfl))) ZLe.nil))))) (ZLe.cons (A7.eq (show AV.i .i64 1=AV.i .i64 (B7 { live:=live,seen:=seen,rep:=rep,lim:=lim,act:={ kind:=(2:Int),sku:=s,qty:=q,past:=p:Actn }:Wish }).2 from(by rw[C2 (w:=⟨live,seen,rep,lim,⟨2,s,q,p⟩⟩) hh2 hh3]))) ZLe.nil)))
 refine sK<|sn<|sq<|sq<|A9 (σ':=⟨[(0,.sl (List.map c46 live)),(2,.i .i64 (rep)),(6,.ptr (6) (0) (0) (0)),(8,.ptr (8) (0) (0) (0)),(9,.ptr (9) (0) (0) (0)),(10,.ptr (10) (0) (0) (0)),(39,.b (decide (rep <(0:Int)∨16≤rep)))],[(6,⟨0,26,.var [.sl (List.map c3 seen.vec),.sl (List.map B1 seen.cloud)]⟩),(8,⟨0,28,.var [.i .i64 (lim.lines),.i .i64 (lim.count)]⟩),(9,⟨0,30,.var [.i .i64 ((2:Int)),.s ({ kind:=(2:Int),sku:=s,qty:=q,past:=p:Actn }.sku),.i .i64 ({ kind:=(2:Int),sku:=s,qty:=q,past:=p:Actn }.qty),.sl (List.map c3 { kind:=(2:Int),sku:=s,qty:=q,past:=p:Actn }.past.vec),.sl (List.map B1 { kind:=(2:Int),sku:=s,qty:=q,past:=p:Actn }.past.cloud)]⟩),(10,⟨0,36,.var [.nl,.nl,.nl,.nl]⟩)]⟩) ?_ ?_
 refine A6 (rep <(0:Int)) (fun h_5=>?_) (fun h_5=>?_)
 refine rG cx [0,2,6,8,9,10,39] [6,8,9,10] (tT 1 (A4 h_5) (tD 5 true (rep <(0:Int)∨16≤rep) (by simp only [eq_true h_5,tsl]) z0)) ?_
 exact⟨rfl,by kernel_rfl⟩
 refine rG cx [0,2,6,8,9,10,39] [6,8,9,10] (tT 1 (A0 h_5) (tB 4 (16≤rep) (tD 5 (decide (16≤rep)) (rep <(0:Int)∨16≤rep) (by simp only [eq_false h_5,tsl]) z0))) ?_
 exact⟨rfl,by kernel_rfl⟩
 refine sn<|dC (rep <(0:Int)∨16≤rep) (fun h6=>?_) fun h6=>?_
 refine sq<|rG cx [10,11] [10] z0<|sn<|rT<|nR<|qR (.tup [.agg [.nl,.nl,.nl,.nl],.i .i64 ((3:Int))]) (A7.tup (ZLe.cons (A7.agg (ZLe.cons (A7.nl' (show List.map c46 (B7 { live:=live,seen:=seen,rep:=rep,lim:=lim,act:={ kind:=(2:Int),sku:=s,qty:=q,past:=p:Actn }:Wish }).1.adds=[]from(by rw[D2 (w:=⟨live,seen,rep,lim,⟨2,s,q,p⟩⟩) hh2 hh3 h6];rfl))) (ZLe.cons (A7.nl' (show List.map c3 (B7 { live:=live,seen:=seen,rep:=rep,lim:=lim,act:={ kind:=(2:Int),sku:=s,qty:=q,past:=p:Actn }:Wish }).1.gone.vec=[]from(by rw[D2 (w:=⟨live,seen,rep,lim,⟨2,s,q,p⟩⟩) hh2 hh3 h6];rfl))) (ZLe.cons (A7.nl' (show List.map B1 (B7 { live:=live,seen:=seen,rep:=rep,lim:=lim,act:={ kind:=(2:Int),sku:=s,qty:=q,past:=p:Actn }:Wish }).1.gone.cloud=[]from(by rw[D2 (w:=⟨live,seen,rep,lim,⟨2,s,q,p⟩⟩) hh2 hh3 h6];rfl))) (ZLe.cons (A7.nl' (show List.map c54 (B7 { live:=live,seen:=seen,rep:=rep,lim:=lim,act:={ kind:=(2:Int),sku:=s,qty:=q,past:=p:Actn }:Wish }).1.recs=[]from(by rw[D2 (w:=⟨live,seen,rep,lim,⟨2,s,q,p⟩⟩) hh2 hh3 h6];rfl))) ZLe.nil))))) (ZLe.cons (A7.eq (show AV.i .i64 3=AV.i .i64 (B7 { live:=live,seen:=seen,rep:=rep,lim:=lim,act:={ kind:=(2:Int),sku:=s,qty:=q,past:=p:Actn }:Wish }).2 from(by rw[D2 (w:=⟨live,seen,rep,lim,⟨2,s,q,p⟩⟩) hh2 hh3 h6]))) ZLe.nil)))
 refine sK<|sn<|sq<|sq<|A9 (σ':=⟨[(0,.sl (List.map c46 live)),(2,.i .i64 (rep)),(6,.ptr (6) (0) (0) (0)),(8,.ptr (8) (0) (0) (0)),(9,.ptr (9) (0) (0) (0)),(10,.ptr (10) (0) (0) (0)),(58,.b (decide (lim.lines <(1:Int)∨(1000:Int) < lim.lines∨lim.count <(1:Int)∨(1000000000:Int) < lim.count)))],[(6,⟨0,26,.var [.sl (List.map c3 seen.vec),.sl (List.map B1 seen.cloud)]⟩),(8,⟨0,28,.var [.i .i64 (lim.lines),.i .i64 (lim.count)]⟩),(9,⟨0,30,.var [.i .i64 ((2:Int)),.s ({ kind:=(2:Int),sku:=s,qty:=q,past:=p:Actn }.sku),.i .i64 ({ kind:=(2:Int),sku:=s,qty:=q,past:=p:Actn }.qty),.sl (List.map c3 { kind:=(2:Int),sku:=s,qty:=q,past:=p:Actn }.past.vec),.sl (List.map B1 { kind:=(2:Int),sku:=s,qty:=q,past:=p:Actn }.past.cloud)]⟩),(10,⟨0,36,.var [.nl,.nl,.nl,.nl]⟩)]⟩) ?_ ?_
 refine A6 (lim.lines <(1:Int)) (fun h_8=>?_) (fun h_8=>?_)
 refine rG cx [0,2,6,8,9,10,58] [6,8,9,10] (tT 2 (A4 h_8) (tD 17 true (lim.lines <(1:Int)∨(1000:Int) < lim.lines∨lim.count <(1:Int)∨(1000000000:Int) < lim.count) (by simp only [eq_true h_8,tsl]) z0)) ?_
 exact⟨rfl,by kernel_rfl⟩
 refine A6 ((1000:Int) < lim.lines) (fun h_9=>?_) (fun h_9=>?_)
 refine rG cx [0,2,6,8,9,10,58] [6,8,9,10] (tT 2 (A0 h_8) (tT 6 (A4 h_9) (tD 17 true (lim.lines <(1:Int)∨(1000:Int) < lim.lines∨lim.count <(1:Int)∨(1000000000:Int) < lim.count) (by simp only [eq_false h_8,eq_true h_9,tsl]) z0))) ?_
 exact⟨rfl,by kernel_rfl⟩
 refine A6 (lim.count <(1:Int)) (fun h_10=>?_) (fun h_10=>?_)
 refine rG cx [0,2,6,8,9,10,58] [6,8,9,10] (tT 2 (A0 h_8) (tT 6 (A0 h_9) (tT 11 (A4 h_10) (tD 17 true (lim.lines <(1:Int)∨(1000:Int) < lim.lines∨lim.count <(1:Int)∨(1000000000:Int) < lim.count) (by simp only [eq_false h_8,eq_false h_9,eq_true h_10,tsl]) z0)))) ?_
 exact⟨rfl,by kernel_rfl⟩
 refine rG cx [0,2,6,8,9,10,58] [6,8,9,10] (tT 2 (A0 h_8) (tT 6 (A0 h_9) (tT 11 (A0 h_10) (tB 16 ((1000000000:Int) < lim.count) (tD 17 (decide ((1000000000:Int) < lim.count)) (lim.lines <(1:Int)∨(1000:Int) < lim.lines∨lim.count <(1:Int)∨(1000000000:Int) < lim.count) (by simp only [eq_false h_8,eq_false h_9,eq_false h_10,tsl]) z0))))) ?_
 exact⟨rfl,by kernel_rfl⟩
 refine sn<|dC (lim.lines <(1:Int)∨(1000:Int) < lim.lines∨lim.count <(1:Int)∨(1000000000:Int) < lim.count) (fun h11=>?_) fun h11=>?_
 refine sq<|rG cx [10,11] [10] z0<|sn<|rT<|nR<|qR (.tup [.agg [.nl,.nl,.nl,.nl],.i .i64 ((2:Int))]) (A7.tup (ZLe.cons (A7.agg (ZLe.cons (A7.nl' (show List.map c46 (B7 { live:=live,seen:=seen,rep:=rep,lim:=lim,act:={ kind:=(2:Int),sku:=s,qty:=q,past:=p:Actn }:Wish }).1.adds=[]from(by rw[D3 (w:=⟨live,seen,rep,lim,⟨2,s,q,p⟩⟩) hh2 hh3 h6 h11];rfl))) (ZLe.cons (A7.nl' (show List.map c3 (B7 { live:=live,seen:=seen,rep:=rep,lim:=lim,act:={ kind:=(2:Int),sku:=s,qty:=q,past:=p:Actn }:Wish }).1.gone.vec=[]from(by rw[D3 (w:=⟨live,seen,rep,lim,⟨2,s,q,p⟩⟩) hh2 hh3 h6 h11];rfl))) (ZLe.cons (A7.nl' (show List.map B1 (B7 { live:=live,seen:=seen,rep:=rep,lim:=lim,act:={ kind:=(2:Int),sku:=s,qty:=q,past:=p:Actn }:Wish }).1.gone.cloud=[]from(by rw[D3 (w:=⟨live,seen,rep,lim,⟨2,s,q,p⟩⟩) hh2 hh3 h6 h11];rfl))) (ZLe.cons (A7.nl' (show List.map c54 (B7 { live:=live,seen:=seen,rep:=rep,lim:=lim,act:={ kind:=(2:Int),sku:=s,qty:=q,past:=p:Actn }:Wish }).1.recs=[]from(by rw[D3 (w:=⟨live,seen,rep,lim,⟨2,s,q,p⟩⟩) hh2 hh3 h6 h11];rfl))) ZLe.nil))))) (ZLe.cons (A7.eq (show AV.i .i64 2=AV.i .i64 (B7 { live:=live,seen:=seen,rep:=rep,lim:=lim,act:={ kind:=(2:Int),sku:=s,qty:=q,past:=p:Actn }:Wish }).2 from(by rw[D3 (w:=⟨live,seen,rep,lim,⟨2,s,q,p⟩⟩) hh2 hh3 h6 h11]))) ZLe.nil)))
 refine sK<|sn<|sq<|sq<|rG cx [0,2,6,8,9,10,14] [6,8,9,10] (fT (A9m ({ kind:=(2:Int),sku:={ kind:=(2:Int),sku:=s,qty:=q,past:=p:Actn }.sku,qty:={ kind:=(2:Int),sku:=s,qty:=q,past:=p:Actn }.qty,past:={ kind:=(2:Int),sku:=s,qty:=q,past:=p:Actn }.past:Actn }) (by(with_reducible assumption))) (oA 1 (.i .i64 (J5 { kind:=(2:Int),sku:={ kind:=(2:Int),sku:=s,qty:=q,past:=p:Actn }.sku,qty:={ kind:=(2:Int),sku:=s,qty:=q,past:=p:Actn }.qty,past:={ kind:=(2:Int),sku:=s,qty:=q,past:=p:Actn }.past:Actn })) z0))<|sn<|sq<|rG cx [0,2,6,8,9,10,14,63] [6,8,9,10] (tN 1 (J5 { kind:=(2:Int),sku:={ kind:=(2:Int),sku:=s,qty:=q,past:=p:Actn }.sku,qty:={ kind:=(2:Int),sku:=s,qty:=q,past:=p:Actn }.qty,past:={ kind:=(2:Int),sku:=s,qty:=q,past:=p:Actn }.past:Actn }) (0:Int) z0)<|sn<|dC (¬J5 { kind:=(2:Int),sku:={ kind:=(2:Int),sku:=s,qty:=q,past:=p:Actn }.sku,qty:={ kind:=(2:Int),sku:=s,qty:=q,past:=p:Actn }.qty,past:={ kind:=(2:Int),sku:=s,qty:=q,past:=p:Actn }.past:Actn }=(0:Int)) (fun h12=>?_) fun h12=>?_
 refine sq<|rG cx [10,11] [10] z0<|sn<|rT<|nR<|qR (.tup [.agg [.nl,.nl,.nl,.nl],.i .i64 (J5 { kind:=(2:Int),sku:={ kind:=(2:Int),sku:=s,qty:=q,past:=p:Actn }.sku,qty:={ kind:=(2:Int),sku:=s,qty:=q,past:=p:Actn }.qty,past:={ kind:=(2:Int),sku:=s,qty:=q,past:=p:Actn }.past:Actn })]) (A7.tup (ZLe.cons (A7.agg (ZLe.cons (A7.nl' (show List.map c46 (B7 { live:=live,seen:=seen,rep:=rep,lim:=lim,act:={ kind:=(2:Int),sku:=s,qty:=q,past:=p:Actn }:Wish }).1.adds=[]from(by rw[D7 (w:=⟨live,seen,rep,lim,⟨2,s,q,p⟩⟩) hh2 hh3 h6 h11 h12];rfl))) (ZLe.cons (A7.nl' (show List.map c3 (B7 { live:=live,seen:=seen,rep:=rep,lim:=lim,act:={ kind:=(2:Int),sku:=s,qty:=q,past:=p:Actn }:Wish }).1.gone.vec=[]from(by rw[D7 (w:=⟨live,seen,rep,lim,⟨2,s,q,p⟩⟩) hh2 hh3 h6 h11 h12];rfl))) (ZLe.cons (A7.nl' (show List.map B1 (B7 { live:=live,seen:=seen,rep:=rep,lim:=lim,act:={ kind:=(2:Int),sku:=s,qty:=q,past:=p:Actn }:Wish }).1.gone.cloud=[]from(by rw[D7 (w:=⟨live,seen,rep,lim,⟨2,s,q,p⟩⟩) hh2 hh3 h6 h11 h12];rfl))) (ZLe.cons (A7.nl' (show List.map c54 (B7 { live:=live,seen:=seen,rep:=rep,lim:=lim,act:={ kind:=(2:Int),sku:=s,qty:=q,past:=p:Actn }:Wish }).1.recs=[]from(by rw[D7 (w:=⟨live,seen,rep,lim,⟨2,s,q,p⟩⟩) hh2 hh3 h6 h11 h12];rfl))) ZLe.nil))))) (ZLe.cons (A7.eq (show AV.i .i64 (J5 { kind:=(2:Int),sku:={ kind:=(2:Int),sku:=s,qty:=q,past:=p:Actn }.sku,qty:={ kind:=(2:Int),sku:=s,qty:=q,past:=p:Actn }.qty,past:={ kind:=(2:Int),sku:=s,qty:=q,past:=p:Actn }.past:Actn })=AV.i .i64 (B7 { live:=live,seen:=seen,rep:=rep,lim:=lim,act:={ kind:=(2:Int),sku:=s,qty:=q,past:=p:Actn }:Wish }).2 from(by rw[D7 (w:=⟨live,seen,rep,lim,⟨2,s,q,p⟩⟩) hh2 hh3 h6 h11 h12]))) ZLe.nil)))
 refine sK<|sn<|sq<|rA cx [10,11] [10] (fT (A1i ) (fO ((0:Int)≤(2:Int)) (fR (some [AV.fn (Fn.func (155:FuncId)) [] []]) (fR 1 (fT (con155 ({ live:=live,seen:=seen,rep:=rep,lim:=lim,act:={ kind:=(2:Int),sku:={ kind:=(2:Int),sku:=s,qty:=q,past:=p:Actn }.sku,qty:={ kind:=(2:Int),sku:=s,qty:=q,past:=p:Actn }.qty,past:={ kind:=(2:Int),sku:=s,qty:=q,past:=p:Actn }.past:Actn }:Wish }) (by(with_reducible assumption)) (by(with_reducible assumption)) (by exact Aw3 h12 (.inr rfl))) (oA 0 (Ab3 (A1i )) (oR 3 [.fn (Fn.func (155:FuncId)) [] []] (oA 11 (.tup [.agg [.sl (List.map c46 (N6 { live:=live,seen:=seen,rep:=rep,lim:=lim,act:={ kind:=(2:Int),sku:={ kind:=(2:Int),sku:=s,qty:=q,past:=p:Actn }.sku,qty:={ kind:=(2:Int),sku:=s,qty:=q,past:=p:Actn }.qty,past:={ kind:=(2:Int),sku:=s,qty:=q,past:=p:Actn }.past:Actn }:Wish }).1.adds),.sl (List.map c3 (N6 { live:=live,seen:=seen,rep:=rep,lim:=lim,act:={ kind:=(2:Int),sku:={ kind:=(2:Int),sku:=s,qty:=q,past:=p:Actn }.sku,qty:={ kind:=(2:Int),sku:=s,qty:=q,past:=p:Actn }.qty,past:={ kind:=(2:Int),sku:=s,qty:=q,past:=p:Actn }.past:Actn }:Wish }).1.gone.vec),.sl (List.map B1 (N6 { live:=live,seen:=seen,rep:=rep,lim:=lim,act:={ kind:=(2:Int),sku:={ kind:=(2:Int),sku:=s,qty:=q,past:=p:Actn }.sku,qty:={ kind:=(2:Int),sku:=s,qty:=q,past:=p:Actn }.qty,past:={ kind:=(2:Int),sku:=s,qty:=q,past:=p:Actn }.past:Actn }:Wish }).1.gone.cloud),.sl (List.map c54 (N6 { live:=live,seen:=seen,rep:=rep,lim:=lim,act:={ kind:=(2:Int),sku:={ kind:=(2:Int),sku:=s,qty:=q,past:=p:Actn }.sku,qty:={ kind:=(2:Int),sku:=s,qty:=q,past:=p:Actn }.qty,past:={ kind:=(2:Int),sku:=s,qty:=q,past:=p:Actn }.past:Actn }:Wish }).1.recs)],.i .i64 ((N6 { live:=live,seen:=seen,rep:=rep,lim:=lim,act:={ kind:=(2:Int),sku:={ kind:=(2:Int),sku:=s,qty:=q,past:=p:Actn }.sku,qty:={ kind:=(2:Int),sku:=s,qty:=q,past:=p:Actn }.qty,past:={ kind:=(2:Int),sku:=s,qty:=q,past:=p:Actn }.past:Actn }:Wish }).2)]) z0)))))))) ?_
 refine sn<|rT<|qR (.tup [.agg [.sl (List.map c46 (N6 { live:=live,seen:=seen,rep:=rep,lim:=lim,act:={ kind:=(2:Int),sku:={ kind:=(2:Int),sku:=s,qty:=q,past:=p:Actn }.sku,qty:={ kind:=(2:Int),sku:=s,qty:=q,past:=p:Actn }.qty,past:={ kind:=(2:Int),sku:=s,qty:=q,past:=p:Actn }.past:Actn }:Wish }).1.adds),.sl (List.map c3 (N6 { live:=live,seen:=seen,rep:=rep,lim:=lim,act:={ kind:=(2:Int),sku:={ kind:=(2:Int),sku:=s,qty:=q,past:=p:Actn }.sku,qty:={ kind:=(2:Int),sku:=s,qty:=q,past:=p:Actn }.qty,past:={ kind:=(2:Int),sku:=s,qty:=q,past:=p:Actn }.past:Actn }:Wish }).1.gone.vec),.sl (List.map B1 (N6 { live:=live,seen:=seen,rep:=rep,lim:=lim,act:={ kind:=(2:Int),sku:={ kind:=(2:Int),sku:=s,qty:=q,past:=p:Actn }.sku,qty:={ kind:=(2:Int),sku:=s,qty:=q,past:=p:Actn }.qty,past:={ kind:=(2:Int),sku:=s,qty:=q,past:=p:Actn }.past:Actn }:Wish }).1.gone.cloud),.sl (List.map c54 (N6 { live:=live,seen:=seen,rep:=rep,lim:=lim,act:={ kind:=(2:Int),sku:={ kind:=(2:Int),sku:=s,qty:=q,past:=p:Actn }.sku,qty:={ kind:=(2:Int),sku:=s,qty:=q,past:=p:Actn }.qty,past:={ kind:=(2:Int),sku:=s,qty:=q,past:=p:Actn }.past:Actn }:Wish }).1.recs)],.i .i64 ((N6 { live:=live,seen:=seen,rep:=rep,lim:=lim,act:={ kind:=(2:Int),sku:={ kind:=(2:Int),sku:=s,qty:=q,past:=p:Actn }.sku,qty:={ kind:=(2:Int),sku:=s,qty:=q,past:=p:Actn }.qty,past:={ kind:=(2:Int),sku:=s,qty:=q,past:=p:Actn }.past:Actn }:Wish }).2)]) (A7.tup (ZLe.cons (A7.eq (show AV.agg [AV.sl (List.map c46 (N6 { live:=live,seen:=seen,rep:=rep,lim:=lim,act:={ kind:=(2:Int),sku:={ kind:=(2:Int),sku:=s,qty:=q,past:=p:Actn }.sku,qty:={ kind:=(2:Int),sku:=s,qty:=q,past:=p:Actn }.qty,past:={ kind:=(2:Int),sku:=s,qty:=q,past:=p:Actn }.past:Actn }:Wish }).1.adds),AV.sl (List.map c3 (N6 { live:=live,seen:=seen,rep:=rep,lim:=lim,act:={ kind:=(2:Int),sku:={ kind:=(2:Int),sku:=s,qty:=q,past:=p:Actn }.sku,qty:={ kind:=(2:Int),sku:=s,qty:=q,past:=p:Actn }.qty,past:={ kind:=(2:Int),sku:=s,qty:=q,past:=p:Actn }.past:Actn }:Wish }).1.gone.vec),AV.sl (List.map B1 (N6 { live:=live,seen:=seen,rep:=rep,lim:=lim,act:={ kind:=(2:Int),sku:={ kind:=(2:Int),sku:=s,qty:=q,past:=p:Actn }.sku,qty:={ kind:=(2:Int),sku:=s,qty:=q,past:=p:Actn }.qty,past:={ kind:=(2:Int),sku:=s,qty:=q,past:=p:Actn }.past:Actn }:Wish }).1.gone.cloud),AV.sl (List.map c54 (N6 { live:=live,seen:=seen,rep:=rep,lim:=lim,act:={ kind:=(2:Int),sku:={ kind:=(2:Int),sku:=s,qty:=q,past:=p:Actn }.sku,qty:={ kind:=(2:Int),sku:=s,qty:=q,past:=p:Actn }.qty,past:={ kind:=(2:Int),sku:=s,qty:=q,past:=p:Actn }.past:Actn }:Wish }).1.recs)]=AV.agg [AV.sl (List.map c46 (B7 { live:=live,seen:=seen,rep:=rep,lim:=lim,act:={ kind:=(2:Int),sku:=s,qty:=q,past:=p:Actn }:Wish }).1.adds),AV.sl (List.map c3 (B7 { live:=live,seen:=seen,rep:=rep,lim:=lim,act:={ kind:=(2:Int),sku:=s,qty:=q,past:=p:Actn }:Wish }).1.gone.vec),AV.sl (List.map B1 (B7 { live:=live,seen:=seen,rep:=rep,lim:=lim,act:={ kind:=(2:Int),sku:=s,qty:=q,past:=p:Actn }:Wish }).1.gone.cloud),AV.sl (List.map c54 (B7 { live:=live,seen:=seen,rep:=rep,lim:=lim,act:={ kind:=(2:Int),sku:=s,qty:=q,past:=p:Actn }:Wish }).1.recs)]from(by rw[G9 (w:=⟨live,seen,rep,lim,⟨2,s,q,p⟩⟩) hh2 hh3 h6 h11 h12,B5x (w:=⟨live,seen,rep,lim,⟨2,s,q,p⟩⟩) rfl]))) (ZLe.cons (A7.eq (show AV.i .i64 (N6 { live:=live,seen:=seen,rep:=rep,lim:=lim,act:={ kind:=(2:Int),sku:={ kind:=(2:Int),sku:=s,qty:=q,past:=p:Actn }.sku,qty:={ kind:=(2:Int),sku:=s,qty:=q,past:=p:Actn }.qty,past:={ kind:=(2:Int),sku:=s,qty:=q,past:=p:Actn }.past:Actn }:Wish }).2=AV.i .i64 (B7 { live:=live,seen:=seen,rep:=rep,lim:=lim,act:={ kind:=(2:Int),sku:=s,qty:=q,past:=p:Actn }:Wish }).2 from(by rw[G9 (w:=⟨live,seen,rep,lim,⟨2,s,q,p⟩⟩) hh2 hh3 h6 h11 h12,B5x (w:=⟨live,seen,rep,lim,⟨2,s,q,p⟩⟩) rfl]))) ZLe.nil)))
theorem B2b(live:List Entry)(seen:Past)(rep:Int)(lim:Limits)(s:ByteArray)(q:Int)(p:Past)(hs:live.length*40≤140737488351232)(hb:szP seen)(hp:szP p):Con Tryz.prog 15 [.sl (live.map c46),.agg (c26 seen),.i .i64 rep,.agg (c28 lim),.agg (c30 ⟨3,s,q,p⟩)] (.tup [.agg (c36 (B7 ⟨live,seen,rep,lim,⟨3,s,q,p⟩⟩).1),.i .i64 (B7 ⟨live,seen,rep,lim,⟨3,s,q,p⟩⟩).2]) :=
 by
 refine lN 0 c46 (live) Tryz.func15 fun hl_0=>sC B3 [.cell 10 36,.tmp 11] 80 Tryz.func15 ?_
 intro e0 cx
 refine sq<|rG cx [0,2,6,8,9,10] [6,8,9,10] z0<|sn<|sq<|sq<|A9 (σ':=⟨[(0,.sl (List.map c46 live)),(2,.i .i64 (rep)),(6,.ptr (6) (0) (0) (0)),(8,.ptr (8) (0) (0) (0)),(9,.ptr (9) (0) (0) (0)),(10,.ptr (10) (0) (0) (0)),(22,.b (decide (¬C3 live=0∨¬seen=A5 seen)))],[(6,⟨0,26,.var [.sl (List.map c3 seen.vec),.sl (List.map B1 seen.cloud)]⟩),(8,⟨0,28,.var [.i .i64 (lim.lines),.i .i64 (lim.count)]⟩),(9,⟨0,30,.var [.i .i64 ((3:Int)),.s ({ kind:=(3:Int),sku:=s,qty:=q,past:=p:Actn }.sku),.i .i64 ({ kind:=(3:Int),sku:=s,qty:=q,past:=p:Actn }.qty),.sl (List.map c3 { kind:=(3:Int),sku:=s,qty:=q,past:=p:Actn }.past.vec),.sl (List.map B1 { kind:=(3:Int),sku:=s,qty:=q,past:=p:Actn }.past.cloud)]⟩),(10,⟨0,36,.var [.nl,.nl,.nl,.nl]⟩)]⟩) ?_ ?_
 refine A6 (¬C3 live=0) (fun hh1=>?_) (fun hh1=>?_)
 refine rG cx [0,2,6,8,9,10,22] [6,8,9,10] (fT (M3 (live)) (tT 2 (G2 hh1:AV.b (C3 live !=0)=AV.b true) (tD 7 true (¬C3 live=0∨¬seen=A5 seen) (by simp only [eq_false hh1,tsl]) (oA 1 (.i .i64 (C3 live)) z0)))) ?_
 exact⟨rfl,by kernel_rfl⟩
 refine rG cx [0,2,6,8,9,10,22] [6,8,9,10] (fT (M3 (live)) (tN 2 (C3 live) (0:Int) (tT 3 (A0 hh1) (fT (A08 (seen) (by exact hb.1)) (tQ 6 (seen=A5 seen) (tT 7 (by first | (simp only [eq_false hh1,tsl];done) | simp_all:AV.b (decide ¬seen=A5 seen)=AV.b (decide (¬C3 live=0∨¬seen=A5 seen))) (oA 1 (.i .i64 (C3 live)) (oA 5 (.b (decide (seen=A5 seen))) z0)))))))) ?_
 exact⟨rfl,by kernel_rfl⟩
 refine sn<|dC (¬C3 live=0∨¬seen=A5 seen) (fun hh2=>?_) fun hh2=>?_
 refine sq<|rG cx [10,11] [10] z0<|sn<|rT<|nR<|qR (.tup [.agg [.nl,.nl,.nl,.nl],.i .i64 ((1:Int))]) (A7.tup (ZLe.cons (A7.agg (ZLe.cons (A7.nl' (show List.map c46 (B7 { live:=live,seen:=seen,rep:=rep,lim:=lim,act:={ kind:=(3:Int),sku:=s,qty:=q,past:=p:Actn }:Wish }).1.adds=[]from(by rw[C1 (w:=⟨live,seen,rep,lim,⟨3,s,q,p⟩⟩) hh2];rfl))) (ZLe.cons (A7.nl' (show List.map c3 (B7 { live:=live,seen:=seen,rep:=rep,lim:=lim,act:={ kind:=(3:Int),sku:=s,qty:=q,past:=p:Actn }:Wish }).1.gone.vec=[]from(by rw[C1 (w:=⟨live,seen,rep,lim,⟨3,s,q,p⟩⟩) hh2];rfl))) (ZLe.cons (A7.nl' (show List.map B1 (B7 { live:=live,seen:=seen,rep:=rep,lim:=lim,act:={ kind:=(3:Int),sku:=s,qty:=q,past:=p:Actn }:Wish }).1.gone.cloud=[]from(by rw[C1 (w:=⟨live,seen,rep,lim,⟨3,s,q,p⟩⟩) hh2];rfl))) (ZLe.cons (A7.nl' (show List.map c54 (B7 { live:=live,seen:=seen,rep:=rep,lim:=lim,act:={ kind:=(3:Int),sku:=s,qty:=q,past:=p:Actn }:Wish }).1.recs=[]from(by rw[C1 (w:=⟨live,seen,rep,lim,⟨3,s,q,p⟩⟩) hh2];rfl))) ZLe.nil))))) (ZLe.cons (A7.eq (show AV.i .i64 1=AV.i .i64 (B7 { live:=live,seen:=seen,rep:=rep,lim:=lim,act:={ kind:=(3:Int),sku:=s,qty:=q,past:=p:Actn }:Wish }).2 from(by rw[C1 (w:=⟨live,seen,rep,lim,⟨3,s,q,p⟩⟩) hh2]))) ZLe.nil)))
 refine sK<|sn<|sq<|sq<|rG cx [0,2,6,8,9,10,12] [6,8,9,10] (fT (A9u (live) (seen) (by exact hb.1)) (oA 2 (.tup [.sl (List.map c46 (E5 live seen false).1),.i .i64 ((E5 live seen false).2)]) z0)) ?_
 refine sn<|rD cx [0,2,6,8,9,10,32] [6,8,9,10] (tL 1 c46 ((E5 live seen false).1) (zB 2 ((0:Int) <(↑(E5 live seen false).1.length:Int)))) (fun hh3=>?_) fun hh3=>?_
 refine sq<|rG cx [10,11] [10] z0<|sn<|rT<|nR<|qR (.tup [.agg [.nl,.nl,.nl,.nl],.i .i64 ((1:Int))]) (A7.tup (ZLe.cons (A7.agg (ZLe.cons (A7.nl' (show List.map c46 (B7 { live:=live,seen:=seen,rep:=rep,lim:=lim,act:={ kind:=(3:Int),sku:=s,qty:=q,past:=p:Actn }:Wish }).1.adds=[]from(by rw[C2 (w:=⟨live,seen,rep,lim,⟨3,s,q,p⟩⟩) hh2 hh3];rfl))) (ZLe.cons (A7.nl' (show List.map c3 (B7 { live:=live,seen:=seen,rep:=rep,lim:=lim,act:={ kind:=(3:Int),sku:=s,qty:=q,past:=p:Actn }:Wish }).1.gone.vec=[]from(by rw[C2 (w:=⟨live,seen,rep,lim,⟨3,s,q,p⟩⟩) hh2 hh3];rfl))) (ZLe.cons (A7.nl' (show List.map B1 (B7 { live:=live,seen:=seen,rep:=rep,lim:=lim,act:={ kind:=(3:Int),sku:=s,qty:=q,past:=p:Actn }:Wish }).1.gone.cloud=[]from(by rw[C2 (w:=⟨live,seen,rep,lim,⟨3,s,q,p⟩⟩) hh2 hh3];rfl))) (ZLe.cons (A7.nl' (show List.map c54 (B7 { live:=live,seen:=seen,rep:=rep,lim:=lim,act:={ kind:=(3:Int),sku:=s,qty:=q,past:=p:Actn }:Wish }).1.recs=[]from(by rw[C2 (w:=⟨live,seen,rep,lim,⟨3,s,q,p⟩⟩) hh2 hh3];rfl))) ZLe.nil))))) (ZLe.cons (A7.eq (show AV.i .i64 1=AV.i .i64 (B7 { live:=live,seen:=seen,rep:=rep,lim:=lim,act:={ kind:=(3:Int),sku:=s,qty:=q,past:=p:Actn }:Wish }).2 from(by rw[C2 (w:=⟨live,seen,rep,lim,⟨3,s,q,p⟩⟩) hh2 hh3]))) ZLe.nil)))
 refine sK<|sn<|sq<|sq<|A9 (σ':=⟨[(0,.sl (List.map c46 live)),(2,.i .i64 (rep)),(6,.ptr (6) (0) (0) (0)),(8,.ptr (8) (0) (0) (0)),(9,.ptr (9) (0) (0) (0)),(10,.ptr (10) (0) (0) (0)),(39,.b (decide (rep <(0:Int)∨16≤rep)))],[(6,⟨0,26,.var [.sl (List.map c3 seen.vec),.sl (List.map B1 seen.cloud)]⟩),(8,⟨0,28,.var [.i .i64 (lim.lines),.i .i64 (lim.count)]⟩),(9,⟨0,30,.var [.i .i64 ((3:Int)),.s ({ kind:=(3:Int),sku:=s,qty:=q,past:=p:Actn }.sku),.i .i64 ({ kind:=(3:Int),sku:=s,qty:=q,past:=p:Actn }.qty),.sl (List.map c3 { kind:=(3:Int),sku:=s,qty:=q,past:=p:Actn }.past.vec),.sl (List.map B1 { kind:=(3:Int),sku:=s,qty:=q,past:=p:Actn }.past.cloud)]⟩),(10,⟨0,36,.var [.nl,.nl,.nl,.nl]⟩)]⟩) ?_ ?_
 refine A6 (rep <(0:Int)) (fun h_5=>?_) (fun h_5=>?_)
 refine rG cx [0,2,6,8,9,10,39] [6,8,9,10] (tT 1 (A4 h_5) (tD 5 true (rep <(0:Int)∨16≤rep) (by simp only [eq_true h_5,tsl]) z0)) ?_
 exact⟨rfl,by kernel_rfl⟩
 refine rG cx [0,2,6,8,9,10,39] [6,8,9,10] (tT 1 (A0 h_5) (tB 4 (16≤rep) (tD 5 (decide (16≤rep)) (rep <(0:Int)∨16≤rep) (by simp only [eq_false h_5,tsl]) z0))) ?_
 exact⟨rfl,by kernel_rfl⟩
 refine sn<|dC (rep <(0:Int)∨16≤rep) (fun h6=>?_) fun h6=>?_
 refine sq<|rG cx [10,11] [10] z0<|sn<|rT<|nR<|qR (.tup [.agg [.nl,.nl,.nl,.nl],.i .i64 ((3:Int))]) (A7.tup (ZLe.cons (A7.agg (ZLe.cons (A7.nl' (show List.map c46 (B7 { live:=live,seen:=seen,rep:=rep,lim:=lim,act:={ kind:=(3:Int),sku:=s,qty:=q,past:=p:Actn }:Wish }).1.adds=[]from(by rw[D2 (w:=⟨live,seen,rep,lim,⟨3,s,q,p⟩⟩) hh2 hh3 h6];rfl))) (ZLe.cons (A7.nl' (show List.map c3 (B7 { live:=live,seen:=seen,rep:=rep,lim:=lim,act:={ kind:=(3:Int),sku:=s,qty:=q,past:=p:Actn }:Wish }).1.gone.vec=[]from(by rw[D2 (w:=⟨live,seen,rep,lim,⟨3,s,q,p⟩⟩) hh2 hh3 h6];rfl))) (ZLe.cons (A7.nl' (show List.map B1 (B7 { live:=live,seen:=seen,rep:=rep,lim:=lim,act:={ kind:=(3:Int),sku:=s,qty:=q,past:=p:Actn }:Wish }).1.gone.cloud=[]from(by rw[D2 (w:=⟨live,seen,rep,lim,⟨3,s,q,p⟩⟩) hh2 hh3 h6];rfl))) (ZLe.cons (A7.nl' (show List.map c54 (B7 { live:=live,seen:=seen,rep:=rep,lim:=lim,act:={ kind:=(3:Int),sku:=s,qty:=q,past:=p:Actn }:Wish }).1.recs=[]from(by rw[D2 (w:=⟨live,seen,rep,lim,⟨3,s,q,p⟩⟩) hh2 hh3 h6];rfl))) ZLe.nil))))) (ZLe.cons (A7.eq (show AV.i .i64 3=AV.i .i64 (B7 { live:=live,seen:=seen,rep:=rep,lim:=lim,act:={ kind:=(3:Int),sku:=s,qty:=q,past:=p:Actn }:Wish }).2 from(by rw[D2 (w:=⟨live,seen,rep,lim,⟨3,s,q,p⟩⟩) hh2 hh3 h6]))) ZLe.nil)))
 refine sK<|sn<|sq<|sq<|A9 (σ':=⟨[(0,.sl (List.map c46 live)),(2,.i .i64 (rep)),(6,.ptr (6) (0) (0) (0)),(8,.ptr (8) (0) (0) (0)),(9,.ptr (9) (0) (0) (0)),(10,.ptr (10) (0) (0) (0)),(58,.b (decide (lim.lines <(1:Int)∨(1000:Int) < lim.lines∨lim.count <(1:Int)∨(1000000000:Int) < lim.count)))],[(6,⟨0,26,.var [.sl (List.map c3 seen.vec),.sl (List.map B1 seen.cloud)]⟩),(8,⟨0,28,.var [.i .i64 (lim.lines),.i .i64 (lim.count)]⟩),(9,⟨0,30,.var [.i .i64 ((3:Int)),.s ({ kind:=(3:Int),sku:=s,qty:=q,past:=p:Actn }.sku),.i .i64 ({ kind:=(3:Int),sku:=s,qty:=q,past:=p:Actn }.qty),.sl (List.map c3 { kind:=(3:Int),sku:=s,qty:=q,past:=p:Actn }.past.vec),.sl (List.map B1 { kind:=(3:Int),sku:=s,qty:=q,past:=p:Actn }.past.cloud)]⟩),(10,⟨0,36,.var [.nl,.nl,.nl,.nl]⟩)]⟩) ?_ ?_
 refine A6 (lim.lines <(1:Int)) (fun h_8=>?_) (fun h_8=>?_)
 refine rG cx [0,2,6,8,9,10,58] [6,8,9,10] (tT 2 (A4 h_8) (tD 17 true (lim.lines <(1:Int)∨(1000:Int) < lim.lines∨lim.count <(1:Int)∨(1000000000:Int) < lim.count) (by simp only [eq_true h_8,tsl]) z0)) ?_
 exact⟨rfl,by kernel_rfl⟩
 refine A6 ((1000:Int) < lim.lines) (fun h_9=>?_) (fun h_9=>?_)
 refine rG cx [0,2,6,8,9,10,58] [6,8,9,10] (tT 2 (A0 h_8) (tT 6 (A4 h_9) (tD 17 true (lim.lines <(1:Int)∨(1000:Int) < lim.lines∨lim.count <(1:Int)∨(1000000000:Int) < lim.count) (by simp only [eq_false h_8,eq_true h_9,tsl]) z0))) ?_
 exact⟨rfl,by kernel_rfl⟩
 refine A6 (lim.count <(1:Int)) (fun h_10=>?_) (fun h_10=>?_)
 refine rG cx [0,2,6,8,9,10,58] [6,8,9,10] (tT 2 (A0 h_8) (tT 6 (A0 h_9) (tT 11 (A4 h_10) (tD 17 true (lim.lines <(1:Int)∨(1000:Int) < lim.lines∨lim.count <(1:Int)∨(1000000000:Int) < lim.count) (by simp only [eq_false h_8,eq_false h_9,eq_true h_10,tsl]) z0)))) ?_
 exact⟨rfl,by kernel_rfl⟩
 refine rG cx [0,2,6,8,9,10,58] [6,8,9,10] (tT 2 (A0 h_8) (tT 6 (A0 h_9) (tT 11 (A0 h_10) (tB 16 ((1000000000:Int) < lim.count) (tD 17 (decide ((1000000000:Int) < lim.count)) (lim.lines <(1:Int)∨(1000:Int) < lim.lines∨lim.count <(1:Int)∨(1000000000:Int) < lim.count) (by simp only [eq_false h_8,eq_false h_9,eq_false h_10,tsl]) z0))))) ?_
 exact⟨rfl,by kernel_rfl⟩
 refine sn<|dC (lim.lines <(1:Int)∨(1000:Int) < lim.lines∨lim.count <(1:Int)∨(1000000000:Int) < lim.count) (fun h11=>?_) fun h11=>?_
 refine sq<|rG cx [10,11] [10] z0<|sn<|rT<|nR<|qR (.tup [.agg [.nl,.nl,.nl,.nl],.i .i64 ((2:Int))]) (A7.tup (ZLe.cons (A7.agg (ZLe.cons (A7.nl' (show List.map c46 (B7 { live:=live,seen:=seen,rep:=rep,lim:=lim,act:={ kind:=(3:Int),sku:=s,qty:=q,past:=p:Actn }:Wish }).1.adds=[]from(by rw[D3 (w:=⟨live,seen,rep,lim,⟨3,s,q,p⟩⟩) hh2 hh3 h6 h11];rfl))) (ZLe.cons (A7.nl' (show List.map c3 (B7 { live:=live,seen:=seen,rep:=rep,lim:=lim,act:={ kind:=(3:Int),sku:=s,qty:=q,past:=p:Actn }:Wish }).1.gone.vec=[]from(by rw[D3 (w:=⟨live,seen,rep,lim,⟨3,s,q,p⟩⟩) hh2 hh3 h6 h11];rfl))) (ZLe.cons (A7.nl' (show List.map B1 (B7 { live:=live,seen:=seen,rep:=rep,lim:=lim,act:={ kind:=(3:Int),sku:=s,qty:=q,past:=p:Actn }:Wish }).1.gone.cloud=[]from(by rw[D3 (w:=⟨live,seen,rep,lim,⟨3,s,q,p⟩⟩) hh2 hh3 h6 h11];rfl))) (ZLe.cons (A7.nl' (show List.map c54 (B7 { live:=live,seen:=seen,rep:=rep,lim:=lim,act:={ kind:=(3:Int),sku:=s,qty:=q,past:=p:Actn }:Wish }).1.recs=[]from(by rw[D3 (w:=⟨live,seen,rep,lim,⟨3,s,q,p⟩⟩) hh2 hh3 h6 h11];rfl))) ZLe.nil))))) (ZLe.cons (A7.eq (show AV.i .i64 2=AV.i .i64 (B7 { live:=live,seen:=seen,rep:=rep,lim:=lim,act:={ kind:=(3:Int),sku:=s,qty:=q,past:=p:Actn }:Wish }).2 from(by rw[D3 (w:=⟨live,seen,rep,lim,⟨3,s,q,p⟩⟩) hh2 hh3 h6 h11]))) ZLe.nil)))
 refine sK<|sn<|sq<|sq<|rG cx [0,2,6,8,9,10,14] [6,8,9,10] (fT (A9m ({ kind:=(3:Int),sku:={ kind:=(3:Int),sku:=s,qty:=q,past:=p:Actn }.sku,qty:={ kind:=(3:Int),sku:=s,qty:=q,past:=p:Actn }.qty,past:={ kind:=(3:Int),sku:=s,qty:=q,past:=p:Actn }.past:Actn }) (by(with_reducible assumption))) (oA 1 (.i .i64 (J5 { kind:=(3:Int),sku:={ kind:=(3:Int),sku:=s,qty:=q,past:=p:Actn }.sku,qty:={ kind:=(3:Int),sku:=s,qty:=q,past:=p:Actn }.qty,past:={ kind:=(3:Int),sku:=s,qty:=q,past:=p:Actn }.past:Actn })) z0))<|sn<|sq<|rG cx [0,2,6,8,9,10,14,63] [6,8,9,10] (tN 1 (J5 { kind:=(3:Int),sku:={ kind:=(3:Int),sku:=s,qty:=q,past:=p:Actn }.sku,qty:={ kind:=(3:Int),sku:=s,qty:=q,past:=p:Actn }.qty,past:={ kind:=(3:Int),sku:=s,qty:=q,past:=p:Actn }.past:Actn }) (0:Int) z0)<|sn<|dC (¬J5 { kind:=(3:Int),sku:={ kind:=(3:Int),sku:=s,qty:=q,past:=p:Actn }.sku,qty:={ kind:=(3:Int),sku:=s,qty:=q,past:=p:Actn }.qty,past:={ kind:=(3:Int),sku:=s,qty:=q,past:=p:Actn }.past:Actn }=(0:Int)) (fun h12=>?_) fun h12=>?_
 refine sq<|rG cx [10,11] [10] z0<|sn<|rT<|nR<|qR (.tup [.agg [.nl,.nl,.nl,.nl],.i .i64 (J5 { kind:=(3:Int),sku:={ kind:=(3:Int),sku:=s,qty:=q,past:=p:Actn }.sku,qty:={ kind:=(3:Int),sku:=s,qty:=q,past:=p:Actn }.qty,past:={ kind:=(3:Int),sku:=s,qty:=q,past:=p:Actn }.past:Actn })]) (A7.tup (ZLe.cons (A7.agg (ZLe.cons (A7.nl' (show List.map c46 (B7 { live:=live,seen:=seen,rep:=rep,lim:=lim,act:={ kind:=(3:Int),sku:=s,qty:=q,past:=p:Actn }:Wish }).1.adds=[]from(by rw[D7 (w:=⟨live,seen,rep,lim,⟨3,s,q,p⟩⟩) hh2 hh3 h6 h11 h12];rfl))) (ZLe.cons (A7.nl' (show List.map c3 (B7 { live:=live,seen:=seen,rep:=rep,lim:=lim,act:={ kind:=(3:Int),sku:=s,qty:=q,past:=p:Actn }:Wish }).1.gone.vec=[]from(by rw[D7 (w:=⟨live,seen,rep,lim,⟨3,s,q,p⟩⟩) hh2 hh3 h6 h11 h12];rfl))) (ZLe.cons (A7.nl' (show List.map B1 (B7 { live:=live,seen:=seen,rep:=rep,lim:=lim,act:={ kind:=(3:Int),sku:=s,qty:=q,past:=p:Actn }:Wish }).1.gone.cloud=[]from(by rw[D7 (w:=⟨live,seen,rep,lim,⟨3,s,q,p⟩⟩) hh2 hh3 h6 h11 h12];rfl))) (ZLe.cons (A7.nl' (show List.map c54 (B7 { live:=live,seen:=seen,rep:=rep,lim:=lim,act:={ kind:=(3:Int),sku:=s,qty:=q,past:=p:Actn }:Wish }).1.recs=[]from(by rw[D7 (w:=⟨live,seen,rep,lim,⟨3,s,q,p⟩⟩) hh2 hh3 h6 h11 h12];rfl))) ZLe.nil))))) (ZLe.cons (A7.eq (show AV.i .i64 (J5 { kind:=(3:Int),sku:={ kind:=(3:Int),sku:=s,qty:=q,past:=p:Actn }.sku,qty:={ kind:=(3:Int),sku:=s,qty:=q,past:=p:Actn }.qty,past:={ kind:=(3:Int),sku:=s,qty:=q,past:=p:Actn }.past:Actn })=AV.i .i64 (B7 { live:=live,seen:=seen,rep:=rep,lim:=lim,act:={ kind:=(3:Int),sku:=s,qty:=q,past:=p:Actn }:Wish }).2 from(by rw[D7 (w:=⟨live,seen,rep,lim,⟨3,s,q,p⟩⟩) hh2 hh3 h6 h11 h12]))) ZLe.nil)))
 refine sK<|sn<|sq<|rA cx [10,11] [10] (fT (A1i ) (fO ((0:Int)≤(3:Int)) (fR (some [AV.fn (Fn.func (156:FuncId)) [] []]) (fR 1 (fT (con156 ({ live:=live,seen:=seen,rep:=rep,lim:=lim,act:={ kind:=(3:Int),sku:={ kind:=(3:Int),sku:=s,qty:=q,past:=p:Actn }.sku,qty:={ kind:=(3:Int),sku:=s,qty:=q,past:=p:Actn }.qty,past:={ kind:=(3:Int),sku:=s,qty:=q,past:=p:Actn }.past:Actn }:Wish }) (by(with_reducible assumption))) (oA 0 (Ab3 (A1i )) (oR 3 [.fn (Fn.func (156:FuncId)) [] []] (oA 11 (.tup [.agg [.sl (List.map c46 (T3 { live:=live,seen:=seen,rep:=rep,lim:=lim,act:={ kind:=(3:Int),sku:={ kind:=(3:Int),sku:=s,qty:=q,past:=p:Actn }.sku,qty:={ kind:=(3:Int),sku:=s,qty:=q,past:=p:Actn }.qty,past:={ kind:=(3:Int),sku:=s,qty:=q,past:=p:Actn }.past:Actn }:Wish }).1.adds),.sl (List.map c3 (T3 { live:=live,seen:=seen,rep:=rep,lim:=lim,act:={ kind:=(3:Int),sku:={ kind:=(3:Int),sku:=s,qty:=q,past:=p:Actn }.sku,qty:={ kind:=(3:Int),sku:=s,qty:=q,past:=p:Actn }.qty,past:={ kind:=(3:Int),sku:=s,qty:=q,past:=p:Actn }.past:Actn }:Wish }).1.gone.vec),.sl (List.map B1 (T3 { live:=live,seen:=seen,rep:=rep,lim:=lim,act:={ kind:=(3:Int),sku:={ kind:=(3:Int),sku:=s,qty:=q,past:=p:Actn }.sku,qty:={ kind:=(3:Int),sku:=s,qty:=q,past:=p:Actn }.qty,past:={ kind:=(3:Int),sku:=s,qty:=q,past:=p:Actn }.past:Actn }:Wish }).1.gone.cloud),.sl (List.map c54 (T3 { live:=live,seen:=seen,rep:=rep,lim:=lim,act:={ kind:=(3:Int),sku:={ kind:=(3:Int),sku:=s,qty:=q,past:=p:Actn }.sku,qty:={ kind:=(3:Int),sku:=s,qty:=q,past:=p:Actn }.qty,past:={ kind:=(3:Int),sku:=s,qty:=q,past:=p:Actn }.past:Actn }:Wish }).1.recs)],.i .i64 ((T3 { live:=live,seen:=seen,rep:=rep,lim:=lim,act:={ kind:=(3:Int),sku:={ kind:=(3:Int),sku:=s,qty:=q,past:=p:Actn }.sku,qty:={ kind:=(3:Int),sku:=s,qty:=q,past:=p:Actn }.qty,past:={ kind:=(3:Int),sku:=s,qty:=q,past:=p:Actn }.past:Actn }:Wish }).2)]) z0))))))))<|sn<|rT<|qR (.tup [.agg [.sl (List.map c46 (T3 { live:=live,seen:=seen,rep:=rep,lim:=lim,act:={ kind:=(3:Int),sku:={ kind:=(3:Int),sku:=s,qty:=q,past:=p:Actn }.sku,qty:={ kind:=(3:Int),sku:=s,qty:=q,past:=p:Actn }.qty,past:={ kind:=(3:Int),sku:=s,qty:=q,past:=p:Actn }.past:Actn }:Wish }).1.adds),.sl (List.map c3 (T3 { live:=live,seen:=seen,rep:=rep,lim:=lim,act:={ kind:=(3:Int),sku:={ kind:=(3:Int),sku:=s,qty:=q,past:=p:Actn }.sku,qty:={ kind:=(3:Int),sku:=s,qty:=q,past:=p:Actn }.qty,past:={ kind:=(3:Int),sku:=s,qty:=q,past:=p:Actn }.past:Actn }:Wish }).1.gone.vec),.sl (List.map B1 (T3 { live:=live,seen:=seen,rep:=rep,lim:=lim,act:={ kind:=(3:Int),sku:={ kind:=(3:Int),sku:=s,qty:=q,past:=p:Actn }.sku,qty:={ kind:=(3:Int),sku:=s,qty:=q,past:=p:Actn }.qty,past:={ kind:=(3:Int),sku:=s,qty:=q,past:=p:Actn }.past:Actn }:Wish }).1.gone.cloud),.sl (List.map c54 (T3 { live:=live,seen:=seen,rep:=rep,lim:=lim,act:={ kind:=(3:Int),sku:={ kind:=(3:Int),sku:=s,qty:=q,past:=p:Actn }.sku,qty:={ kind:=(3:Int),sku:=s,qty:=q,past:=p:Actn }.qty,past:={ kind:=(3:Int),sku:=s,qty:=q,past:=p:Actn }.past:Actn }:Wish }).1.recs)],.i .i64 ((T3 { live:=live,seen:=seen,rep:=rep,lim:=lim,act:={ kind:=(3:Int),sku:={ kind:=(3:Int),sku:=s,qty:=q,past:=p:Actn }.sku,qty:={ kind:=(3:Int),sku:=s,qty:=q,past:=p:Actn }.qty,past:={ kind:=(3:Int),sku:=s,qty:=q,past:=p:Actn }.past:Actn }:Wish }).2)]) (A7.tup (ZLe.cons (A7.eq (show AV.agg [AV.sl (List.map c46 (T3 { live:=live,seen:=seen,rep:=rep,lim:=lim,act:={ kind:=(3:Int),sku:={ kind:=(3:Int),sku:=s,qty:=q,past:=p:Actn }.sku,qty:={ kind:=(3:Int),sku:=s,qty:=q,past:=p:Actn }.qty,past:={ kind:=(3:Int),sku:=s,qty:=q,past:=p:Actn }.past:Actn }:Wish }).1.adds),AV.sl (List.map c3 (T3 { live:=live,seen:=seen,rep:=rep,lim:=lim,act:={ kind:=(3:Int),sku:={ kind:=(3:Int),sku:=s,qty:=q,past:=p:Actn }.sku,qty:={ kind:=(3:Int),sku:=s,qty:=q,past:=p:Actn }.qty,past:={ kind:=(3:Int),sku:=s,qty:=q,past:=p:Actn }.past:Actn }:Wish }).1.gone.vec),AV.sl (List.map B1 (T3 { live:=live,seen:=seen,rep:=rep,lim:=lim,act:={ kind:=(3:Int),sku:={ kind:=(3:Int),sku:=s,qty:=q,past:=p:Actn }.sku,qty:={ kind:=(3:Int),sku:=s,qty:=q,past:=p:Actn }.qty,past:={ kind:=(3:Int),sku:=s,qty:=q,past:=p:Actn }.past:Actn }:Wish }).1.gone.cloud),AV.sl (List.map c54 (T3 { live:=live,seen:=seen,rep:=rep,lim:=lim,act:={ kind:=(3:Int),sku:={ kind:=(3:Int),sku:=s,qty:=q,past:=p:Actn }.sku,qty:={ kind:=(3:Int),sku:=s,qty:=q,past:=p:Actn }.qty,past:={ kind:=(3:Int),sku:=s,qty:=q,past:=p:Actn }.past:Actn }:Wish }).1.recs)]=AV.agg [AV.sl (List.map c46 (B7 { live:=live,seen:=seen,rep:=rep,lim:=lim,act:={ kind:=(3:Int),sku:=s,qty:=q,past:=p:Actn }:Wish }).1.adds),AV.sl (List.map c3 (B7 { live:=live,seen:=seen,rep:=rep,lim:=lim,act:={ kind:=(3:Int),sku:=s,qty:=q,past:=p:Actn }:Wish }).1.gone.vec),AV.sl (List.map B1 (B7 { live:=live,seen:=seen,rep:=rep,lim:=lim,act:={ kind:=(3:Int),sku:=s,qty:=q,past:=p:Actn }:Wish }).1.gone.cloud),AV.sl (List.map c54 (B7 { live:=live,seen:=seen,rep:=rep,lim:=lim,act:={ kind:=(3:Int),sku:=s,qty:=q,past:=p:Actn }:Wish }).1.recs)]from(by rw[G9 (w:=⟨live,seen,rep,lim,⟨3,s,q,p⟩⟩) hh2 hh3 h6 h11 h12,B5y (w:=⟨live,seen,rep,lim,⟨3,s,q,p⟩⟩) rfl]))) (ZLe.cons (A7.eq (show AV.i .i64 (T3 { live:=live,seen:=seen,rep:=rep,lim:=lim,act:={ kind:=(3:Int),sku:={ kind:=(3:Int),sku:=s,qty:=q,past:=p:Actn }.sku,qty:={ kind:=(3:Int),sku:=s,qty:=q,past:=p:Actn }.qty,past:={ kind:=(3:Int),sku:=s,qty:=q,past:=p:Actn }.past:Actn }:Wish }).2=AV.i .i64 (B7 { live:=live,seen:=seen,rep:=rep,lim:=lim,act:={ kind:=(3:Int),sku:=s,qty:=q,past:=p:Actn }:Wish }).2 from(by rw[G9 (w:=⟨live,seen,rep,lim,⟨3,s,q,p⟩⟩) hh2 hh3 h6 h11 h12,B5y (w:=⟨live,seen,rep,lim,⟨3,s,q,p⟩⟩) rfl]))) ZLe.nil)))
theorem B2c(live:List Entry)(seen:Past)(rep:Int)(lim:Limits)(s:ByteArray)(q:Int)(p:Past)(hs:live.length*40≤140737488351232)(hb:szP seen)(hp:szP p):Con Tryz.prog 15 [.sl (live.map c46),.agg (c26 seen),.i .i64 rep,.agg (c28 lim),.agg (c30 ⟨4,s,q,p⟩)] (.tup [.agg (c36 (B7 ⟨live,seen,rep,lim,⟨4,s,q,p⟩⟩).1),.i .i64 (B7 ⟨live,seen,rep,lim,⟨4,s,q,p⟩⟩).2]) :=
 by
 refine lN 0 c46 (live) Tryz.func15 fun hl_0=>sC B3 [.cell 10 36,.tmp 11] 80 Tryz.func15 ?_
 intro e0 cx
 refine sq<|rG cx [0,2,6,8,9,10] [6,8,9,10] z0<|sn<|sq<|sq<|A9 (σ':=⟨[(0,.sl (List.map c46 live)),(2,.i .i64 (rep)),(6,.ptr (6) (0) (0) (0)),(8,.ptr (8) (0) (0) (0)),(9,.ptr (9) (0) (0) (0)),(10,.ptr (10) (0) (0) (0)),(22,.b (decide (¬C3 live=0∨¬seen=A5 seen)))],[(6,⟨0,26,.var [.sl (List.map c3 seen.vec),.sl (List.map B1 seen.cloud)]⟩),(8,⟨0,28,.var [.i .i64 (lim.lines),.i .i64 (lim.count)]⟩),(9,⟨0,30,.var [.i .i64 ((4:Int)),.s ({ kind:=(4:Int),sku:=s,qty:=q,past:=p:Actn }.sku),.i .i64 ({ kind:=(4:Int),sku:=s,qty:=q,past:=p:Actn }.qty),.sl (List.map c3 { kind:=(4:Int),sku:=s,qty:=q,past:=p:Actn }.past.vec),.sl (List.map B1 { kind:=(4:Int),sku:=s,qty:=q,past:=p:Actn }.past.cloud)]⟩),(10,⟨0,36,.var [.nl,.nl,.nl,.nl]⟩)]⟩) ?_ ?_
 refine A6 (¬C3 live=0) (fun hh1=>?_) (fun hh1=>?_)
 refine rG cx [0,2,6,8,9,10,22] [6,8,9,10] (fT (M3 (live)) (tT 2 (G2 hh1:AV.b (C3 live !=0)=AV.b true) (tD 7 true (¬C3 live=0∨¬seen=A5 seen) (by simp only [eq_false hh1,tsl]) (oA 1 (.i .i64 (C3 live)) z0)))) ?_
 exact⟨rfl,by kernel_rfl⟩
 refine rG cx [0,2,6,8,9,10,22] [6,8,9,10] (fT (M3 (live)) (tN 2 (C3 live) (0:Int) (tT 3 (A0 hh1) (fT (A08 (seen) (by exact hb.1)) (tQ 6 (seen=A5 seen) (tT 7 (by first | (simp only [eq_false hh1,tsl];done) | simp_all:AV.b (decide ¬seen=A5 seen)=AV.b (decide (¬C3 live=0∨¬seen=A5 seen))) (oA 1 (.i .i64 (C3 live)) (oA 5 (.b (decide (seen=A5 seen))) z0)))))))) ?_
 exact⟨rfl,by kernel_rfl⟩
 refine sn<|dC (¬C3 live=0∨¬seen=A5 seen) (fun hh2=>?_) fun hh2=>?_
 refine sq<|rG cx [10,11] [10] z0<|sn<|rT<|nR<|qR (.tup [.agg [.nl,.nl,.nl,.nl],.i .i64 ((1:Int))]) (A7.tup (ZLe.cons (A7.agg (ZLe.cons (A7.nl' (show List.map c46 (B7 { live:=live,seen:=seen,rep:=rep,lim:=lim,act:={ kind:=(4:Int),sku:=s,qty:=q,past:=p:Actn }:Wish }).1.adds=[]from(by rw[C1 (w:=⟨live,seen,rep,lim,⟨4,s,q,p⟩⟩) hh2];rfl))) (ZLe.cons (A7.nl' (show List.map c3 (B7 { live:=live,seen:=seen,rep:=rep,lim:=lim,act:={ kind:=(4:Int),sku:=s,qty:=q,past:=p:Actn }:Wish }).1.gone.vec=[]from(by rw[C1 (w:=⟨live,seen,rep,lim,⟨4,s,q,p⟩⟩) hh2];rfl))) (ZLe.cons (A7.nl' (show List.map B1 (B7 { live:=live,seen:=seen,rep:=rep,lim:=lim,act:={ kind:=(4:Int),sku:=s,qty:=q,past:=p:Actn }:Wish }).1.gone.cloud=[]from(by rw[C1 (w:=⟨live,seen,rep,lim,⟨4,s,q,p⟩⟩) hh2];rfl))) (ZLe.cons (A7.nl' (show List.map c54 (B7 { live:=live,seen:=seen,rep:=rep,lim:=lim,act:={ kind:=(4:Int),sku:=s,qty:=q,past:=p:Actn }:Wish }).1.recs=[]from(by rw[C1 (w:=⟨live,seen,rep,lim,⟨4,s,q,p⟩⟩) hh2];rfl))) ZLe.nil))))) (ZLe.cons (A7.eq (show AV.i .i64 1=AV.i .i64 (B7 { live:=live,seen:=seen,rep:=rep,lim:=lim,act:={ kind:=(4:Int),sku:=s,qty:=q,past:=p:Actn }:Wish }).2 from(by rw[C1 (w:=⟨live,seen,rep,lim,⟨4,s,q,p⟩⟩) hh2]))) ZLe.nil)))
 refine sK<|sn<|sq<|sq<|rG cx [0,2,6,8,9,10,12] [6,8,9,10] (fT (A9u (live) (seen) (by exact hb.1)) (oA 2 (.tup [.sl (List.map c46 (E5 live seen false).1),.i .i64 ((E5 live seen false).2)]) z0)) ?_
 refine sn<|rD cx [0,2,6,8,9,10,32] [6,8,9,10] (tL 1 c46 ((E5 live seen false).1) (zB 2 ((0:Int) <(↑(E5 live seen false).1.length:Int)))) (fun hh3=>?_) fun hh3=>?_
 refine sq<|rG cx [10,11] [10] z0<|sn<|rT<|nR<|qR (.tup [.agg [.nl,.nl,.nl,.nl],.i .i64 ((1:Int))]) (A7.tup (ZLe.cons (A7.agg (ZLe.cons (A7.nl' (show List.map c46 (B7 { live:=live,seen:=seen,rep:=rep,lim:=lim,act:={ kind:=(4:Int),sku:=s,qty:=q,past:=p:Actn }:Wish }).1.adds=[]from(by rw[C2 (w:=⟨live,seen,rep,lim,⟨4,s,q,p⟩⟩) hh2 hh3];rfl))) (ZLe.cons (A7.nl' (show List.map c3 (B7 { live:=live,seen:=seen,rep:=rep,lim:=lim,act:={ kind:=(4:Int),sku:=s,qty:=q,past:=p:Actn }:Wish }).1.gone.vec=[]from(by rw[C2 (w:=⟨live,seen,rep,lim,⟨4,s,q,p⟩⟩) hh2 hh3];rfl))) (ZLe.cons (A7.nl' (show List.map B1 (B7 { live:=live,seen:=seen,rep:=rep,lim:=lim,act:={ kind:=(4:Int),sku:=s,qty:=q,past:=p:Actn }:Wish }).1.gone.cloud=[]from(by rw[C2 (w:=⟨live,seen,rep,lim,⟨4,s,q,p⟩⟩) hh2 hh3];rfl))) (ZLe.cons (A7.nl' (show List.map c54 (B7 { live:=live,seen:=seen,rep:=rep,lim:=lim,act:={ kind:=(4:Int),sku:=s,qty:=q,past:=p:Actn }:Wish }).1.recs=[]from(by rw[C2 (w:=⟨live,seen,rep,lim,⟨4,s,q,p⟩⟩) hh2 hh3];rfl))) ZLe.nil))))) (ZLe.cons (A7.eq (show AV.i .i64 1=AV.i .i64 (B7 { live:=live,seen:=seen,rep:=rep,lim:=lim,act:={ kind:=(4:Int),sku:=s,qty:=q,past:=p:Actn }:Wish }).2 from(by rw[C2 (w:=⟨live,seen,rep,lim,⟨4,s,q,p⟩⟩) hh2 hh3]))) ZLe.nil)))
 refine sK<|sn<|sq<|sq<|A9 (σ':=⟨[(0,.sl (List.map c46 live)),(2,.i .i64 (rep)),(6,.ptr (6) (0) (0) (0)),(8,.ptr (8) (0) (0) (0)),(9,.ptr (9) (0) (0) (0)),(10,.ptr (10) (0) (0) (0)),(39,.b (decide (rep <(0:Int)∨16≤rep)))],[(6,⟨0,26,.var [.sl (List.map c3 seen.vec),.sl (List.map B1 seen.cloud)]⟩),(8,⟨0,28,.var [.i .i64 (lim.lines),.i .i64 (lim.count)]⟩),(9,⟨0,30,.var [.i .i64 ((4:Int)),.s ({ kind:=(4:Int),sku:=s,qty:=q,past:=p:Actn }.sku),.i .i64 ({ kind:=(4:Int),sku:=s,qty:=q,past:=p:Actn }.qty),.sl (List.map c3 { kind:=(4:Int),sku:=s,qty:=q,past:=p:Actn }.past.vec),.sl (List.map B1 { kind:=(4:Int),sku:=s,qty:=q,past:=p:Actn }.past.cloud)]⟩),(10,⟨0,36,.var [.nl,.nl,.nl,.nl]⟩)]⟩) ?_ ?_
 refine A6 (rep <(0:Int)) (fun h_5=>?_) (fun h_5=>?_)
 refine rG cx [0,2,6,8,9,10,39] [6,8,9,10] (tT 1 (A4 h_5) (tD 5 true (rep <(0:Int)∨16≤rep) (by simp only [eq_true h_5,tsl]) z0)) ?_
 exact⟨rfl,by kernel_rfl⟩
 refine rG cx [0,2,6,8,9,10,39] [6,8,9,10] (tT 1 (A0 h_5) (tB 4 (16≤rep) (tD 5 (decide (16≤rep)) (rep <(0:Int)∨16≤rep) (by simp only [eq_false h_5,tsl]) z0))) ?_
 exact⟨rfl,by kernel_rfl⟩
 refine sn<|dC (rep <(0:Int)∨16≤rep) (fun h6=>?_) fun h6=>?_
 refine sq<|rG cx [10,11] [10] z0<|sn<|rT<|nR<|qR (.tup [.agg [.nl,.nl,.nl,.nl],.i .i64 ((3:Int))]) (A7.tup (ZLe.cons (A7.agg (ZLe.cons (A7.nl' (show List.map c46 (B7 { live:=live,seen:=seen,rep:=rep,lim:=lim,act:={ kind:=(4:Int),sku:=s,qty:=q,past:=p:Actn }:Wish }).1.adds=[]from(by rw[D2 (w:=⟨live,seen,rep,lim,⟨4,s,q,p⟩⟩) hh2 hh3 h6];rfl))) (ZLe.cons (A7.nl' (show List.map c3 (B7 { live:=live,seen:=seen,rep:=rep,lim:=lim,act:={ kind:=(4:Int),sku:=s,qty:=q,past:=p:Actn }:Wish }).1.gone.vec=[]from(by rw[D2 (w:=⟨live,seen,rep,lim,⟨4,s,q,p⟩⟩) hh2 hh3 h6];rfl))) (ZLe.cons (A7.nl' (show List.map B1 (B7 { live:=live,seen:=seen,rep:=rep,lim:=lim,act:={ kind:=(4:Int),sku:=s,qty:=q,past:=p:Actn }:Wish }).1.gone.cloud=[]from(by rw[D2 (w:=⟨live,seen,rep,lim,⟨4,s,q,p⟩⟩) hh2 hh3 h6];rfl))) (ZLe.cons (A7.nl' (show List.map c54 (B7 { live:=live,seen:=seen,rep:=rep,lim:=lim,act:={ kind:=(4:Int),sku:=s,qty:=q,past:=p:Actn }:Wish }).1.recs=[]from(by rw[D2 (w:=⟨live,seen,rep,lim,⟨4,s,q,p⟩⟩) hh2 hh3 h6];rfl))) ZLe.nil))))) (ZLe.cons (A7.eq (show AV.i .i64 3=AV.i .i64 (B7 { live:=live,seen:=seen,rep:=rep,lim:=lim,act:={ kind:=(4:Int),sku:=s,qty:=q,past:=p:Actn }:Wish }).2 from(by rw[D2 (w:=⟨live,seen,rep,lim,⟨4,s,q,p⟩⟩) hh2 hh3 h6]))) ZLe.nil)))
 refine sK<|sn<|sq<|sq<|A9 (σ':=⟨[(0,.sl (List.map c46 live)),(2,.i .i64 (rep)),(6,.ptr (6) (0) (0) (0)),(8,.ptr (8) (0) (0) (0)),(9,.ptr (9) (0) (0) (0)),(10,.ptr (10) (0) (0) (0)),(58,.b (decide (lim.lines <(1:Int)∨(1000:Int) < lim.lines∨lim.count <(1:Int)∨(1000000000:Int) < lim.count)))],[(6,⟨0,26,.var [.sl (List.map c3 seen.vec),.sl (List.map B1 seen.cloud)]⟩),(8,⟨0,28,.var [.i .i64 (lim.lines),.i .i64 (lim.count)]⟩),(9,⟨0,30,.var [.i .i64 ((4:Int)),.s ({ kind:=(4:Int),sku:=s,qty:=q,past:=p:Actn }.sku),.i .i64 ({ kind:=(4:Int),sku:=s,qty:=q,past:=p:Actn }.qty),.sl (List.map c3 { kind:=(4:Int),sku:=s,qty:=q,past:=p:Actn }.past.vec),.sl (List.map B1 { kind:=(4:Int),sku:=s,qty:=q,past:=p:Actn }.past.cloud)]⟩),(10,⟨0,36,.var [.nl,.nl,.nl,.nl]⟩)]⟩) ?_ ?_
 refine A6 (lim.lines <(1:Int)) (fun h_8=>?_) (fun h_8=>?_)
 refine rG cx [0,2,6,8,9,10,58] [6,8,9,10] (tT 2 (A4 h_8) (tD 17 true (lim.lines <(1:Int)∨(1000:Int) < lim.lines∨lim.count <(1:Int)∨(1000000000:Int) < lim.count) (by simp only [eq_true h_8,tsl]) z0)) ?_
 exact⟨rfl,by kernel_rfl⟩
 refine A6 ((1000:Int) < lim.lines) (fun h_9=>?_) (fun h_9=>?_)
 refine rG cx [0,2,6,8,9,10,58] [6,8,9,10] (tT 2 (A0 h_8) (tT 6 (A4 h_9) (tD 17 true (lim.lines <(1:Int)∨(1000:Int) < lim.lines∨lim.count <(1:Int)∨(1000000000:Int) < lim.count) (by simp only [eq_false h_8,eq_true h_9,tsl]) z0))) ?_
 exact⟨rfl,by kernel_rfl⟩
 refine A6 (lim.count <(1:Int)) (fun h_10=>?_) (fun h_10=>?_)
 refine rG cx [0,2,6,8,9,10,58] [6,8,9,10] (tT 2 (A0 h_8) (tT 6 (A0 h_9) (tT 11 (A4 h_10) (tD 17 true (lim.lines <(1:Int)∨(1000:Int) < lim.lines∨lim.count <(1:Int)∨(1000000000:Int) < lim.count) (by simp only [eq_false h_8,eq_false h_9,eq_true h_10,tsl]) z0)))) ?_
 exact⟨rfl,by kernel_rfl⟩
 refine rG cx [0,2,6,8,9,10,58] [6,8,9,10] (tT 2 (A0 h_8) (tT 6 (A0 h_9) (tT 11 (A0 h_10) (tB 16 ((1000000000:Int) < lim.count) (tD 17 (decide ((1000000000:Int) < lim.count)) (lim.lines <(1:Int)∨(1000:Int) < lim.lines∨lim.count <(1:Int)∨(1000000000:Int) < lim.count) (by simp only [eq_false h_8,eq_false h_9,eq_false h_10,tsl]) z0))))) ?_
 exact⟨rfl,by kernel_rfl⟩
 refine sn<|dC (lim.lines <(1:Int)∨(1000:Int) < lim.lines∨lim.count <(1:Int)∨(1000000000:Int) < lim.count) (fun h11=>?_) fun h11=>?_
 refine sq<|rG cx [10,11] [10] z0<|sn<|rT<|nR<|qR (.tup [.agg [.nl,.nl,.nl,.nl],.i .i64 ((2:Int))]) (A7.tup (ZLe.cons (A7.agg (ZLe.cons (A7.nl' (show List.map c46 (B7 { live:=live,seen:=seen,rep:=rep,lim:=lim,act:={ kind:=(4:Int),sku:=s,qty:=q,past:=p:Actn }:Wish }).1.adds=[]from(by rw[D3 (w:=⟨live,seen,rep,lim,⟨4,s,q,p⟩⟩) hh2 hh3 h6 h11];rfl))) (ZLe.cons (A7.nl' (show List.map c3 (B7 { live:=live,seen:=seen,rep:=rep,lim:=lim,act:={ kind:=(4:Int),sku:=s,qty:=q,past:=p:Actn }:Wish }).1.gone.vec=[]from(by rw[D3 (w:=⟨live,seen,rep,lim,⟨4,s,q,p⟩⟩) hh2 hh3 h6 h11];rfl))) (ZLe.cons (A7.nl' (show List.map B1 (B7 { live:=live,seen:=seen,rep:=rep,lim:=lim,act:={ kind:=(4:Int),sku:=s,qty:=q,past:=p:Actn }:Wish }).1.gone.cloud=[]from(by rw[D3 (w:=⟨live,seen,rep,lim,⟨4,s,q,p⟩⟩) hh2 hh3 h6 h11];rfl))) (ZLe.cons (A7.nl' (show List.map c54 (B7 { live:=live,seen:=seen,rep:=rep,lim:=lim,act:={ kind:=(4:Int),sku:=s,qty:=q,past:=p:Actn }:Wish }).1.recs=[]from(by rw[D3 (w:=⟨live,seen,rep,lim,⟨4,s,q,p⟩⟩) hh2 hh3 h6 h11];rfl))) ZLe.nil))))) (ZLe.cons (A7.eq (show AV.i .i64 2=AV.i .i64 (B7 { live:=live,seen:=seen,rep:=rep,lim:=lim,act:={ kind:=(4:Int),sku:=s,qty:=q,past:=p:Actn }:Wish }).2 from(by rw[D3 (w:=⟨live,seen,rep,lim,⟨4,s,q,p⟩⟩) hh2 hh3 h6 h11]))) ZLe.nil)))
 refine sK<|sn<|sq<|sq<|rG cx [0,2,6,8,9,10,14] [6,8,9,10] (fT (A9m ({ kind:=(4:Int),sku:={ kind:=(4:Int),sku:=s,qty:=q,past:=p:Actn }.sku,qty:={ kind:=(4:Int),sku:=s,qty:=q,past:=p:Actn }.qty,past:={ kind:=(4:Int),sku:=s,qty:=q,past:=p:Actn }.past:Actn }) (by(with_reducible assumption))) (oA 1 (.i .i64 (J5 { kind:=(4:Int),sku:={ kind:=(4:Int),sku:=s,qty:=q,past:=p:Actn }.sku,qty:={ kind:=(4:Int),sku:=s,qty:=q,past:=p:Actn }.qty,past:={ kind:=(4:Int),sku:=s,qty:=q,past:=p:Actn }.past:Actn })) z0))<|sn<|sq<|rG cx [0,2,6,8,9,10,14,63] [6,8,9,10] (tN 1 (J5 { kind:=(4:Int),sku:={ kind:=(4:Int),sku:=s,qty:=q,past:=p:Actn }.sku,qty:={ kind:=(4:Int),sku:=s,qty:=q,past:=p:Actn }.qty,past:={ kind:=(4:Int),sku:=s,qty:=q,past:=p:Actn }.past:Actn }) (0:Int) z0)<|sn<|dC (¬J5 { kind:=(4:Int),sku:={ kind:=(4:Int),sku:=s,qty:=q,past:=p:Actn }.sku,qty:={ kind:=(4:Int),sku:=s,qty:=q,past:=p:Actn }.qty,past:={ kind:=(4:Int),sku:=s,qty:=q,past:=p:Actn }.past:Actn }=(0:Int)) (fun h12=>?_) fun h12=>?_
 refine sq<|rG cx [10,11] [10] z0<|sn<|rT<|nR<|qR (.tup [.agg [.nl,.nl,.nl,.nl],.i .i64 (J5 { kind:=(4:Int),sku:={ kind:=(4:Int),sku:=s,qty:=q,past:=p:Actn }.sku,qty:={ kind:=(4:Int),sku:=s,qty:=q,past:=p:Actn }.qty,past:={ kind:=(4:Int),sku:=s,qty:=q,past:=p:Actn }.past:Actn })]) (A7.tup (ZLe.cons (A7.agg (ZLe.cons (A7.nl' (show List.map c46 (B7 { live:=live,seen:=seen,rep:=rep,lim:=lim,act:={ kind:=(4:Int),sku:=s,qty:=q,past:=p:Actn }:Wish }).1.adds=[]from(by rw[D7 (w:=⟨live,seen,rep,lim,⟨4,s,q,p⟩⟩) hh2 hh3 h6 h11 h12];rfl))) (ZLe.cons (A7.nl' (show List.map c3 (B7 { live:=live,seen:=seen,rep:=rep,lim:=lim,act:={ kind:=(4:Int),sku:=s,qty:=q,past:=p:Actn }:Wish }).1.gone.vec=[]from(by rw[D7 (w:=⟨live,seen,rep,lim,⟨4,s,q,p⟩⟩) hh2 hh3 h6 h11 h12];rfl))) (ZLe.cons (A7.nl' (show List.map B1 (B7 { live:=live,seen:=seen,rep:=rep,lim:=lim,act:={ kind:=(4:Int),sku:=s,qty:=q,past:=p:Actn }:Wish }).1.gone.cloud=[]from(by rw[D7 (w:=⟨live,seen,rep,lim,⟨4,s,q,p⟩⟩) hh2 hh3 h6 h11 h12];rfl))) (ZLe.cons (A7.nl' (show List.map c54 (B7 { live:=live,seen:=seen,rep:=rep,lim:=lim,act:={ kind:=(4:Int),sku:=s,qty:=q,past:=p:Actn }:Wish }).1.recs=[]from(by rw[D7 (w:=⟨live,seen,rep,lim,⟨4,s,q,p⟩⟩) hh2 hh3 h6 h11 h12];rfl))) ZLe.nil))))) (ZLe.cons (A7.eq (show AV.i .i64 (J5 { kind:=(4:Int),sku:={ kind:=(4:Int),sku:=s,qty:=q,past:=p:Actn }.sku,qty:={ kind:=(4:Int),sku:=s,qty:=q,past:=p:Actn }.qty,past:={ kind:=(4:Int),sku:=s,qty:=q,past:=p:Actn }.past:Actn })=AV.i .i64 (B7 { live:=live,seen:=seen,rep:=rep,lim:=lim,act:={ kind:=(4:Int),sku:=s,qty:=q,past:=p:Actn }:Wish }).2 from(by rw[D7 (w:=⟨live,seen,rep,lim,⟨4,s,q,p⟩⟩) hh2 hh3 h6 h11 h12]))) ZLe.nil)))
 refine sK<|sn<|sq<|rA cx [10,11] [10] (fT (A1i ) (fO ((0:Int)≤(4:Int)) (fR (some [AV.fn (Fn.func (157:FuncId)) [] []]) (fR 1 (fT (con157 ({ live:=live,seen:=seen,rep:=rep,lim:=lim,act:={ kind:=(4:Int),sku:={ kind:=(4:Int),sku:=s,qty:=q,past:=p:Actn }.sku,qty:={ kind:=(4:Int),sku:=s,qty:=q,past:=p:Actn }.qty,past:={ kind:=(4:Int),sku:=s,qty:=q,past:=p:Actn }.past:Actn }:Wish }) (by(with_reducible assumption))) (oA 0 (Ab3 (A1i )) (oR 3 [.fn (Fn.func (157:FuncId)) [] []] (oA 11 (.tup [.agg [.sl (List.map c46 (G5 { live:=live,seen:=seen,rep:=rep,lim:=lim,act:={ kind:=(4:Int),sku:={ kind:=(4:Int),sku:=s,qty:=q,past:=p:Actn }.sku,qty:={ kind:=(4:Int),sku:=s,qty:=q,past:=p:Actn }.qty,past:={ kind:=(4:Int),sku:=s,qty:=q,past:=p:Actn }.past:Actn }:Wish }.act.sku { live:=live,seen:=seen,rep:=rep,lim:=lim,act:={ kind:=(4:Int),sku:={ kind:=(4:Int),sku:=s,qty:=q,past:=p:Actn }.sku,qty:={ kind:=(4:Int),sku:=s,qty:=q,past:=p:Actn }.qty,past:={ kind:=(4:Int),sku:=s,qty:=q,past:=p:Actn }.past:Actn }:Wish }.act.past).adds),.sl (List.map c3 (G5 { live:=live,seen:=seen,rep:=rep,lim:=lim,act:={ kind:=(4:Int),sku:={ kind:=(4:Int),sku:=s,qty:=q,past:=p:Actn }.sku,qty:={ kind:=(4:Int),sku:=s,qty:=q,past:=p:Actn }.qty,past:={ kind:=(4:Int),sku:=s,qty:=q,past:=p:Actn }.past:Actn }:Wish }.act.sku { live:=live,seen:=seen,rep:=rep,lim:=lim,act:={ kind:=(4:Int),sku:={ kind:=(4:Int),sku:=s,qty:=q,past:=p:Actn }.sku,qty:={ kind:=(4:Int),sku:=s,qty:=q,past:=p:Actn }.qty,past:={ kind:=(4:Int),sku:=s,qty:=q,past:=p:Actn }.past:Actn }:Wish }.act.past).gone.vec),.sl (List.map B1 (G5 { live:=live,seen:=seen,rep:=rep,lim:=lim,act:={ kind:=(4:Int),sku:={ kind:=(4:Int),sku:=s,qty:=q,past:=p:Actn }.sku,qty:={ kind:=(4:Int),sku:=s,qty:=q,past:=p:Actn }.qty,past:={ kind:=(4:Int),sku:=s,qty:=q,past:=p:Actn }.past:Actn }:Wish }.act.sku { live:=live,seen:=seen,rep:=rep,lim:=lim,act:={ kind:=(4:Int),sku:={ kind:=(4:Int),sku:=s,qty:=q,past:=p:Actn }.sku,qty:={ kind:=(4:Int),sku:=s,qty:=q,past:=p:Actn }.qty,past:={ kind:=(4:Int),sku:=s,qty:=q,past:=p:Actn }.past:Actn }:Wish }.act.past).gone.cloud),.sl (List.map c54 (G5 { live:=live,seen:=seen,rep:=rep,lim:=lim,act:={ kind:=(4:Int),sku:={ kind:=(4:Int),sku:=s,qty:=q,past:=p:Actn }.sku,qty:={ kind:=(4:Int),sku:=s,qty:=q,past:=p:Actn }.qty,past:={ kind:=(4:Int),sku:=s,qty:=q,past:=p:Actn }.past:Actn }:Wish }.act.sku { live:=live,seen:=seen,rep:=rep,lim:=lim,act:={ kind:=(4:Int),sku:={ kind:=(4:Int),sku:=s,qty:=q,past:=p:Actn }.sku,qty:={ kind:=(4:Int),sku:=s,qty:=q,past:=p:Actn }.qty,past:={ kind:=(4:Int),sku:=s,qty:=q,past:=p:Actn }.past:Actn }:Wish }.act.past).recs)],.i .i64 ((0:Int))]) z0)))))))) ?_
 refine sn<|rT<|qR (.tup [.agg [.sl (List.map c46 (G5 { live:=live,seen:=seen,rep:=rep,lim:=lim,act:={ kind:=(4:Int),sku:={ kind:=(4:Int),sku:=s,qty:=q,past:=p:Actn }.sku,qty:={ kind:=(4:Int),sku:=s,qty:=q,past:=p:Actn }.qty,past:={ kind:=(4:Int),sku:=s,qty:=q,past:=p:Actn }.past:Actn }:Wish }.act.sku { live:=live,seen:=seen,rep:=rep,lim:=lim,act:={ kind:=(4:Int),sku:={ kind:=(4:Int),sku:=s,qty:=q,past:=p:Actn }.sku,qty:={ kind:=(4:Int),sku:=s,qty:=q,past:=p:Actn }.qty,past:={ kind:=(4:Int),sku:=s,qty:=q,past:=p:Actn }.past:Actn }:Wish }.act.past).adds),.sl (List.map c3 (G5 { live:=live,seen:=seen,rep:=rep,lim:=lim,act:={ kind:=(4:Int),sku:={ kind:=(4:Int),sku:=s,qty:=q,past:=p:Actn }.sku,qty:={ kind:=(4:Int),sku:=s,qty:=q,past:=p:Actn }.qty,past:={ kind:=(4:Int),sku:=s,qty:=q,past:=p:Actn }.past:Actn }:Wish }.act.sku { live:=live,seen:=seen,rep:=rep,lim:=lim,act:={ kind:=(4:Int),sku:={ kind:=(4:Int),sku:=s,qty:=q,past:=p:Actn }.sku,qty:={ kind:=(4:Int),sku:=s,qty:=q,past:=p:Actn }.qty,past:={ kind:=(4:Int),sku:=s,qty:=q,past:=p:Actn }.past:Actn }:Wish }.act.past).gone.vec),.sl (List.map B1 (G5 { live:=live,seen:=seen,rep:=rep,lim:=lim,act:={ kind:=(4:Int),sku:={ kind:=(4:Int),sku:=s,qty:=q,past:=p:Actn }.sku,qty:={ kind:=(4:Int),sku:=s,qty:=q,past:=p:Actn }.qty,past:={ kind:=(4:Int),sku:=s,qty:=q,past:=p:Actn }.past:Actn }:Wish }.act.sku { live:=live,seen:=seen,rep:=rep,lim:=lim,act:={ kind:=(4:Int),sku:={ kind:=(4:Int),sku:=s,qty:=q,past:=p:Actn }.sku,qty:={ kind:=(4:Int),sku:=s,qty:=q,past:=p:Actn }.qty,past:={ kind:=(4:Int),sku:=s,qty:=q,past:=p:Actn }.past:Actn }:Wish }.act.past).gone.cloud),.sl (List.map c54 (G5 { live:=live,seen:=seen,rep:=rep,lim:=lim,act:={ kind:=(4:Int),sku:={ kind:=(4:Int),sku:=s,qty:=q,past:=p:Actn }.sku,qty:={ kind:=(4:Int),sku:=s,qty:=q,past:=p:Actn }.qty,past:={ kind:=(4:Int),sku:=s,qty:=q,past:=p:Actn }.past:Actn }:Wish }.act.sku { live:=live,seen:=seen,rep:=rep,lim:=lim,act:={ kind:=(4:Int),sku:={ kind:=(4:Int),sku:=s,qty:=q,past:=p:Actn }.sku,qty:={ kind:=(4:Int),sku:=s,qty:=q,past:=p:Actn }.qty,past:={ kind:=(4:Int),sku:=s,qty:=q,past:=p:Actn }.past:Actn }:Wish }.act.past).recs)],.i .i64 ((0:Int))]) (A7.tup (ZLe.cons (A7.eq (show AV.agg [AV.sl (List.map c46 (G5 { live:=live,seen:=seen,rep:=rep,lim:=lim,act:={ kind:=(4:Int),sku:={ kind:=(4:Int),sku:=s,qty:=q,past:=p:Actn }.sku,qty:={ kind:=(4:Int),sku:=s,qty:=q,past:=p:Actn }.qty,past:={ kind:=(4:Int),sku:=s,qty:=q,past:=p:Actn }.past:Actn }:Wish }.act.sku { live:=live,seen:=seen,rep:=rep,lim:=lim,act:={ kind:=(4:Int),sku:={ kind:=(4:Int),sku:=s,qty:=q,past:=p:Actn }.sku,qty:={ kind:=(4:Int),sku:=s,qty:=q,past:=p:Actn }.qty,past:={ kind:=(4:Int),sku:=s,qty:=q,past:=p:Actn }.past:Actn }:Wish }.act.past).adds),AV.sl (List.map c3 (G5 { live:=live,seen:=seen,rep:=rep,lim:=lim,act:={ kind:=(4:Int),sku:={ kind:=(4:Int),sku:=s,qty:=q,past:=p:Actn }.sku,qty:={ kind:=(4:Int),sku:=s,qty:=q,past:=p:Actn }.qty,past:={ kind:=(4:Int),sku:=s,qty:=q,past:=p:Actn }.past:Actn }:Wish }.act.sku { live:=live,seen:=seen,rep:=rep,lim:=lim,act:={ kind:=(4:Int),sku:={ kind:=(4:Int),sku:=s,qty:=q,past:=p:Actn }.sku,qty:={ kind:=(4:Int),sku:=s,qty:=q,past:=p:Actn }.qty,past:={ kind:=(4:Int),sku:=s,qty:=q,past:=p:Actn }.past:Actn }:Wish }.act.past).gone.vec),AV.sl (List.map B1 (G5 { live:=live,seen:=seen,rep:=rep,lim:=lim,act:={ kind:=(4:Int),sku:={ kind:=(4:Int),sku:=s,qty:=q,past:=p:Actn }.sku,qty:={ kind:=(4:Int),sku:=s,qty:=q,past:=p:Actn }.qty,past:={ kind:=(4:Int),sku:=s,qty:=q,past:=p:Actn }.past:Actn }:Wish }.act.sku { live:=live,seen:=seen,rep:=rep,lim:=lim,act:={ kind:=(4:Int),sku:={ kind:=(4:Int),sku:=s,qty:=q,past:=p:Actn }.sku,qty:={ kind:=(4:Int),sku:=s,qty:=q,past:=p:Actn }.qty,past:={ kind:=(4:Int),sku:=s,qty:=q,past:=p:Actn }.past:Actn }:Wish }.act.past).gone.cloud),AV.sl (List.map c54 (G5 { live:=live,seen:=seen,rep:=rep,lim:=lim,act:={ kind:=(4:Int),sku:={ kind:=(4:Int),sku:=s,qty:=q,past:=p:Actn }.sku,qty:={ kind:=(4:Int),sku:=s,qty:=q,past:=p:Actn }.qty,past:={ kind:=(4:Int),sku:=s,qty:=q,past:=p:Actn }.past:Actn }:Wish }.act.sku { live:=live,seen:=seen,rep:=rep,lim:=lim,act:={ kind:=(4:Int),sku:={ kind:=(4:Int),sku:=s,qty:=q,past:=p:Actn }.sku,qty:={ kind:=(4:Int),sku:=s,qty:=q,past:=p:Actn }.qty,past:={ kind:=(4:Int),sku:=s,qty:=q,past:=p:Actn }.past:Actn }:Wish }.act.past).recs)]=AV.agg [AV.sl (List.map c46 (B7 { live:=live,seen:=seen,rep:=rep,lim:=lim,act:={ kind:=(4:Int),sku:=s,qty:=q,past:=p:Actn }:Wish }).1.adds),AV.sl (List.map c3 (B7 { live:=live,seen:=seen,rep:=rep,lim:=lim,act:={ kind:=(4:Int),sku:=s,qty:=q,past:=p:Actn }:Wish }).1.gone.vec),AV.sl (List.map B1 (B7 { live:=live,seen:=seen,rep:=rep,lim:=lim,act:={ kind:=(4:Int),sku:=s,qty:=q,past:=p:Actn }:Wish }).1.gone.cloud),AV.sl (List.map c54 (B7 { live:=live,seen:=seen,rep:=rep,lim:=lim,act:={ kind:=(4:Int),sku:=s,qty:=q,past:=p:Actn }:Wish }).1.recs)]from(by rw[G9 (w:=⟨live,seen,rep,lim,⟨4,s,q,p⟩⟩) hh2 hh3 h6 h11 h12,B25 (w:=⟨live,seen,rep,lim,⟨4,s,q,p⟩⟩) rfl]))) (ZLe.cons (A7.eq (show AV.i .i64 0=AV.i .i64 (B7 { live:=live,seen:=seen,rep:=rep,lim:=lim,act:={ kind:=(4:Int),sku:=s,qty:=q,past:=p:Actn }:Wish }).2 from(by rw[G9 (w:=⟨live,seen,rep,lim,⟨4,s,q,p⟩⟩) hh2 hh3 h6 h11 h12,B25 (w:=⟨live,seen,rep,lim,⟨4,s,q,p⟩⟩) rfl]))) ZLe.nil)))
theorem B2d(live:List Entry)(seen:Past)(rep:Int)(lim:Limits)(s:ByteArray)(q:Int)(p:Past)(hs:live.length*40≤140737488351232)(hb:szP seen)(hp:szP p):Con Tryz.prog 15 [.sl (live.map c46),.agg (c26 seen),.i .i64 rep,.agg (c28 lim),.agg (c30 ⟨5,s,q,p⟩)] (.tup [.agg (c36 (B7 ⟨live,seen,rep,lim,⟨5,s,q,p⟩⟩).1),.i .i64 (B7 ⟨live,seen,rep,lim,⟨5,s,q,p⟩⟩).2]) :=
 by
 refine lN 0 c46 (live) Tryz.func15 fun hl_0=>sC B3 [.cell 10 36,.tmp 11] 80 Tryz.func15 ?_
 intro e0 cx
 refine sq<|rG cx [0,2,6,8,9,10] [6,8,9,10] z0<|sn<|sq<|sq<|A9 (σ':=⟨[(0,.sl (List.map c46 live)),(2,.i .i64 (rep)),(6,.ptr (6) (0) (0) (0)),(8,.ptr (8) (0) (0) (0)),(9,.ptr (9) (0) (0) (0)),(10,.ptr (10) (0) (0) (0)),(22,.b (decide (¬C3 live=0∨¬seen=A5 seen)))],[(6,⟨0,26,.var [.sl (List.map c3 seen.vec),.sl (List.map B1 seen.cloud)]⟩),(8,⟨0,28,.var [.i .i64 (lim.lines),.i .i64 (lim.count)]⟩),(9,⟨0,30,.var [.i .i64 ((5:Int)),.s ({ kind:=(5:Int),sku:=s,qty:=q,past:=p:Actn }.sku),.i .i64 ({ kind:=(5:Int),sku:=s,qty:=q,past:=p:Actn }.qty),.sl (List.map c3 { kind:=(5:Int),sku:=s,qty:=q,past:=p:Actn }.past.vec),.sl (List.map B1 { kind:=(5:Int),sku:=s,qty:=q,past:=p:Actn }.past.cloud)]⟩),(10,⟨0,36,.var [.nl,.nl,.nl,.nl]⟩)]⟩) ?_ ?_
 refine A6 (¬C3 live=0) (fun hh1=>?_) (fun hh1=>?_)
 refine rG cx [0,2,6,8,9,10,22] [6,8,9,10] (fT (M3 (live)) (tT 2 (G2 hh1:AV.b (C3 live !=0)=AV.b true) (tD 7 true (¬C3 live=0∨¬seen=A5 seen) (by simp only [eq_false hh1,tsl]) (oA 1 (.i .i64 (C3 live)) z0)))) ?_
 exact⟨rfl,by kernel_rfl⟩
 refine rG cx [0,2,6,8,9,10,22] [6,8,9,10] (fT (M3 (live)) (tN 2 (C3 live) (0:Int) (tT 3 (A0 hh1) (fT (A08 (seen) (by exact hb.1)) (tQ 6 (seen=A5 seen) (tT 7 (by first | (simp only [eq_false hh1,tsl];done) | simp_all:AV.b (decide ¬seen=A5 seen)=AV.b (decide (¬C3 live=0∨¬seen=A5 seen))) (oA 1 (.i .i64 (C3 live)) (oA 5 (.b (decide (seen=A5 seen))) z0)))))))) ?_
 exact⟨rfl,by kernel_rfl⟩
 refine sn<|dC (¬C3 live=0∨¬seen=A5 seen) (fun hh2=>?_) fun hh2=>?_
 refine sq<|rG cx [10,11] [10] z0<|sn<|rT<|nR<|qR (.tup [.agg [.nl,.nl,.nl,.nl],.i .i64 ((1:Int))]) (A7.tup (ZLe.cons (A7.agg (ZLe.cons (A7.nl' (show List.map c46 (B7 { live:=live,seen:=seen,rep:=rep,lim:=lim,act:={ kind:=(5:Int),sku:=s,qty:=q,past:=p:Actn }:Wish }).1.adds=[]from(by rw[C1 (w:=⟨live,seen,rep,lim,⟨5,s,q,p⟩⟩) hh2];rfl))) (ZLe.cons (A7.nl' (show List.map c3 (B7 { live:=live,seen:=seen,rep:=rep,lim:=lim,act:={ kind:=(5:Int),sku:=s,qty:=q,past:=p:Actn }:Wish }).1.gone.vec=[]from(by rw[C1 (w:=⟨live,seen,rep,lim,⟨5,s,q,p⟩⟩) hh2];rfl))) (ZLe.cons (A7.nl' (show List.map B1 (B7 { live:=live,seen:=seen,rep:=rep,lim:=lim,act:={ kind:=(5:Int),sku:=s,qty:=q,past:=p:Actn }:Wish }).1.gone.cloud=[]from(by rw[C1 (w:=⟨live,seen,rep,lim,⟨5,s,q,p⟩⟩) hh2];rfl))) (ZLe.cons (A7.nl' (show List.map c54 (B7 { live:=live,seen:=seen,rep:=rep,lim:=lim,act:={ kind:=(5:Int),sku:=s,qty:=q,past:=p:Actn }:Wish }).1.recs=[]from(by rw[C1 (w:=⟨live,seen,rep,lim,⟨5,s,q,p⟩⟩) hh2];rfl))) ZLe.nil))))) (ZLe.cons (A7.eq (show AV.i .i64 1=AV.i .i64 (B7 { live:=live,seen:=seen,rep:=rep,lim:=lim,act:={ kind:=(5:Int),sku:=s,qty:=q,past:=p:Actn }:Wish }).2 from(by rw[C1 (w:=⟨live,seen,rep,lim,⟨5,s,q,p⟩⟩) hh2]))) ZLe.nil)))
 refine sK<|sn<|sq<|sq<|rG cx [0,2,6,8,9,10,12] [6,8,9,10] (fT (A9u (live) (seen) (by exact hb.1)) (oA 2 (.tup [.sl (List.map c46 (E5 live seen false).1),.i .i64 ((E5 live seen false).2)]) z0)) ?_
 refine sn<|rD cx [0,2,6,8,9,10,32] [6,8,9,10] (tL 1 c46 ((E5 live seen false).1) (zB 2 ((0:Int) <(↑(E5 live seen false).1.length:Int)))) (fun hh3=>?_) fun hh3=>?_
 refine sq<|rG cx [10,11] [10] z0<|sn<|rT<|nR<|qR (.tup [.agg [.nl,.nl,.nl,.nl],.i .i64 ((1:Int))]) (A7.tup (ZLe.cons (A7.agg (ZLe.cons (A7.nl' (show List.map c46 (B7 { live:=live,seen:=seen,rep:=rep,lim:=lim,act:={ kind:=(5:Int),sku:=s,qty:=q,past:=p:Actn }:Wish }).1.adds=[]from(by rw[C2 (w:=⟨live,seen,rep,lim,⟨5,s,q,p⟩⟩) hh2 hh3];rfl))) (ZLe.cons (A7.nl' (show List.map c3 (B7 { live:=live,seen:=seen,rep:=rep,lim:=lim,act:={ kind:=(5:Int),sku:=s,qty:=q,past:=p:Actn }:Wish }).1.gone.vec=[]from(by rw[C2 (w:=⟨live,seen,rep,lim,⟨5,s,q,p⟩⟩) hh2 hh3];rfl))) (ZLe.cons (A7.nl' (show List.map B1 (B7 { live:=live,seen:=seen,rep:=rep,lim:=lim,act:={ kind:=(5:Int),sku:=s,qty:=q,past:=p:Actn }:Wish }).1.gone.cloud=[]from(by rw[C2 (w:=⟨live,seen,rep,lim,⟨5,s,q,p⟩⟩) hh2 hh3];rfl))) (ZLe.cons (A7.nl' (show List.map c54 (B7 { live:=live,seen:=seen,rep:=rep,lim:=lim,act:={ kind:=(5:Int),sku:=s,qty:=q,past:=p:Actn }:Wish }).1.recs=[]from(by rw[C2 (w:=⟨live,seen,rep,lim,⟨5,s,q,p⟩⟩) hh2 hh3];rfl))) ZLe.nil))))) (ZLe.cons (A7.eq (show AV.i .i64 1=AV.i .i64 (B7 { live:=live,seen:=seen,rep:=rep,lim:=lim,act:={ kind:=(5:Int),sku:=s,qty:=q,past:=p:Actn }:Wish }).2 from(by rw[C2 (w:=⟨live,seen,rep,lim,⟨5,s,q,p⟩⟩) hh2 hh3]))) ZLe.nil)))
 refine sK<|sn<|sq<|sq<|A9 (σ':=⟨[(0,.sl (List.map c46 live)),(2,.i .i64 (rep)),(6,.ptr (6) (0) (0) (0)),(8,.ptr (8) (0) (0) (0)),(9,.ptr (9) (0) (0) (0)),(10,.ptr (10) (0) (0) (0)),(39,.b (decide (rep <(0:Int)∨16≤rep)))],[(6,⟨0,26,.var [.sl (List.map c3 seen.vec),.sl (List.map B1 seen.cloud)]⟩),(8,⟨0,28,.var [.i .i64 (lim.lines),.i .i64 (lim.count)]⟩),(9,⟨0,30,.var [.i .i64 ((5:Int)),.s ({ kind:=(5:Int),sku:=s,qty:=q,past:=p:Actn }.sku),.i .i64 ({ kind:=(5:Int),sku:=s,qty:=q,past:=p:Actn }.qty),.sl (List.map c3 { kind:=(5:Int),sku:=s,qty:=q,past:=p:Actn }.past.vec),.sl (List.map B1 { kind:=(5:Int),sku:=s,qty:=q,past:=p:Actn }.past.cloud)]⟩),(10,⟨0,36,.var [.nl,.nl,.nl,.nl]⟩)]⟩) ?_ ?_
 refine A6 (rep <(0:Int)) (fun h_5=>?_) (fun h_5=>?_)
 refine rG cx [0,2,6,8,9,10,39] [6,8,9,10] (tT 1 (A4 h_5) (tD 5 true (rep <(0:Int)∨16≤rep) (by simp only [eq_true h_5,tsl]) z0)) ?_
 exact⟨rfl,by kernel_rfl⟩
 refine rG cx [0,2,6,8,9,10,39] [6,8,9,10] (tT 1 (A0 h_5) (tB 4 (16≤rep) (tD 5 (decide (16≤rep)) (rep <(0:Int)∨16≤rep) (by simp only [eq_false h_5,tsl]) z0))) ?_
 exact⟨rfl,by kernel_rfl⟩
 refine sn<|dC (rep <(0:Int)∨16≤rep) (fun h6=>?_) fun h6=>?_
 refine sq<|rG cx [10,11] [10] z0<|sn<|rT<|nR<|qR (.tup [.agg [.nl,.nl,.nl,.nl],.i .i64 ((3:Int))]) (A7.tup (ZLe.cons (A7.agg (ZLe.cons (A7.nl' (show List.map c46 (B7 { live:=live,seen:=seen,rep:=rep,lim:=lim,act:={ kind:=(5:Int),sku:=s,qty:=q,past:=p:Actn }:Wish }).1.adds=[]from(by rw[D2 (w:=⟨live,seen,rep,lim,⟨5,s,q,p⟩⟩) hh2 hh3 h6];rfl))) (ZLe.cons (A7.nl' (show List.map c3 (B7 { live:=live,seen:=seen,rep:=rep,lim:=lim,act:={ kind:=(5:Int),sku:=s,qty:=q,past:=p:Actn }:Wish }).1.gone.vec=[]from(by rw[D2 (w:=⟨live,seen,rep,lim,⟨5,s,q,p⟩⟩) hh2 hh3 h6];rfl))) (ZLe.cons (A7.nl' (show List.map B1 (B7 { live:=live,seen:=seen,rep:=rep,lim:=lim,act:={ kind:=(5:Int),sku:=s,qty:=q,past:=p:Actn }:Wish }).1.gone.cloud=[]from(by rw[D2 (w:=⟨live,seen,rep,lim,⟨5,s,q,p⟩⟩) hh2 hh3 h6];rfl))) (ZLe.cons (A7.nl' (show List.map c54 (B7 { live:=live,seen:=seen,rep:=rep,lim:=lim,act:={ kind:=(5:Int),sku:=s,qty:=q,past:=p:Actn }:Wish }).1.recs=[]from(by rw[D2 (w:=⟨live,seen,rep,lim,⟨5,s,q,p⟩⟩) hh2 hh3 h6];rfl))) ZLe.nil))))) (ZLe.cons (A7.eq (show AV.i .i64 3=AV.i .i64 (B7 { live:=live,seen:=seen,rep:=rep,lim:=lim,act:={ kind:=(5:Int),sku:=s,qty:=q,past:=p:Actn }:Wish }).2 from(by rw[D2 (w:=⟨live,seen,rep,lim,⟨5,s,q,p⟩⟩) hh2 hh3 h6]))) ZLe.nil)))
 refine sK<|sn<|sq<|sq<|A9 (σ':=⟨[(0,.sl (List.map c46 live)),(2,.i .i64 (rep)),(6,.ptr (6) (0) (0) (0)),(8,.ptr (8) (0) (0) (0)),(9,.ptr (9) (0) (0) (0)),(10,.ptr (10) (0) (0) (0)),(58,.b (decide (lim.lines <(1:Int)∨(1000:Int) < lim.lines∨lim.count <(1:Int)∨(1000000000:Int) < lim.count)))],[(6,⟨0,26,.var [.sl (List.map c3 seen.vec),.sl (List.map B1 seen.cloud)]⟩),(8,⟨0,28,.var [.i .i64 (lim.lines),.i .i64 (lim.count)]⟩),(9,⟨0,30,.var [.i .i64 ((5:Int)),.s ({ kind:=(5:Int),sku:=s,qty:=q,past:=p:Actn }.sku),.i .i64 ({ kind:=(5:Int),sku:=s,qty:=q,past:=p:Actn }.qty),.sl (List.map c3 { kind:=(5:Int),sku:=s,qty:=q,past:=p:Actn }.past.vec),.sl (List.map B1 { kind:=(5:Int),sku:=s,qty:=q,past:=p:Actn }.past.cloud)]⟩),(10,⟨0,36,.var [.nl,.nl,.nl,.nl]⟩)]⟩) ?_ ?_
 refine A6 (lim.lines <(1:Int)) (fun h_8=>?_) (fun h_8=>?_)
 refine rG cx [0,2,6,8,9,10,58] [6,8,9,10] (tT 2 (A4 h_8) (tD 17 true (lim.lines <(1:Int)∨(1000:Int) < lim.lines∨lim.count <(1:Int)∨(1000000000:Int) < lim.count) (by simp only [eq_true h_8,tsl]) z0)) ?_
 exact⟨rfl,by kernel_rfl⟩
 refine A6 ((1000:Int) < lim.lines) (fun h_9=>?_) (fun h_9=>?_)
 refine rG cx [0,2,6,8,9,10,58] [6,8,9,10] (tT 2 (A0 h_8) (tT 6 (A4 h_9) (tD 17 true (lim.lines <(1:Int)∨(1000:Int) < lim.lines∨lim.count <(1:Int)∨(1000000000:Int) < lim.count) (by simp only [eq_false h_8,eq_true h_9,tsl]) z0))) ?_
 exact⟨rfl,by kernel_rfl⟩
 refine A6 (lim.count <(1:Int)) (fun h_10=>?_) (fun h_10=>?_)
 refine rG cx [0,2,6,8,9,10,58] [6,8,9,10] (tT 2 (A0 h_8) (tT 6 (A0 h_9) (tT 11 (A4 h_10) (tD 17 true (lim.lines <(1:Int)∨(1000:Int) < lim.lines∨lim.count <(1:Int)∨(1000000000:Int) < lim.count) (by simp only [eq_false h_8,eq_false h_9,eq_true h_10,tsl]) z0)))) ?_
 exact⟨rfl,by kernel_rfl⟩
 refine rG cx [0,2,6,8,9,10,58] [6,8,9,10] (tT 2 (A0 h_8) (tT 6 (A0 h_9) (tT 11 (A0 h_10) (tB 16 ((1000000000:Int) < lim.count) (tD 17 (decide ((1000000000:Int) < lim.count)) (lim.lines <(1:Int)∨(1000:Int) < lim.lines∨lim.count <(1:Int)∨(1000000000:Int) < lim.count) (by simp only [eq_false h_8,eq_false h_9,eq_false h_10,tsl]) z0))))) ?_
 exact⟨rfl,by kernel_rfl⟩
 refine sn<|dC (lim.lines <(1:Int)∨(1000:Int) < lim.lines∨lim.count <(1:Int)∨(1000000000:Int) < lim.count) (fun h11=>?_) fun h11=>?_
 refine sq<|rG cx [10,11] [10] z0<|sn<|rT<|nR<|qR (.tup [.agg [.nl,.nl,.nl,.nl],.i .i64 ((2:Int))]) (A7.tup (ZLe.cons (A7.agg (ZLe.cons (A7.nl' (show List.map c46 (B7 { live:=live,seen:=seen,rep:=rep,lim:=lim,act:={ kind:=(5:Int),sku:=s,qty:=q,past:=p:Actn }:Wish }).1.adds=[]from(by rw[D3 (w:=⟨live,seen,rep,lim,⟨5,s,q,p⟩⟩) hh2 hh3 h6 h11];rfl))) (ZLe.cons (A7.nl' (show List.map c3 (B7 { live:=live,seen:=seen,rep:=rep,lim:=lim,act:={ kind:=(5:Int),sku:=s,qty:=q,past:=p:Actn }:Wish }).1.gone.vec=[]from(by rw[D3 (w:=⟨live,seen,rep,lim,⟨5,s,q,p⟩⟩) hh2 hh3 h6 h11];rfl))) (ZLe.cons (A7.nl' (show List.map B1 (B7 { live:=live,seen:=seen,rep:=rep,lim:=lim,act:={ kind:=(5:Int),sku:=s,qty:=q,past:=p:Actn }:Wish }).1.gone.cloud=[]from(by rw[D3 (w:=⟨live,seen,rep,lim,⟨5,s,q,p⟩⟩) hh2 hh3 h6 h11];rfl))) (ZLe.cons (A7.nl' (show List.map c54 (B7 { live:=live,seen:=seen,rep:=rep,lim:=lim,act:={ kind:=(5:Int),sku:=s,qty:=q,past:=p:Actn }:Wish }).1.recs=[]from(by rw[D3 (w:=⟨live,seen,rep,lim,⟨5,s,q,p⟩⟩) hh2 hh3 h6 h11];rfl))) ZLe.nil))))) (ZLe.cons (A7.eq (show AV.i .i64 2=AV.i .i64 (B7 { live:=live,seen:=seen,rep:=rep,lim:=lim,act:={ kind:=(5:Int),sku:=s,qty:=q,past:=p:Actn }:Wish }).2 from(by rw[D3 (w:=⟨live,seen,rep,lim,⟨5,s,q,p⟩⟩) hh2 hh3 h6 h11]))) ZLe.nil)))
 refine sK<|sn<|sq<|sq<|rG cx [0,2,6,8,9,10,14] [6,8,9,10] (fT (A9m ({ kind:=(5:Int),sku:={ kind:=(5:Int),sku:=s,qty:=q,past:=p:Actn }.sku,qty:={ kind:=(5:Int),sku:=s,qty:=q,past:=p:Actn }.qty,past:={ kind:=(5:Int),sku:=s,qty:=q,past:=p:Actn }.past:Actn }) (by(with_reducible assumption))) (oA 1 (.i .i64 ((0:Int))) z0))<|sn<|sq<|rG cx [0,2,6,8,9,10,14,63] [6,8,9,10] z0<|sn<|R6 (by kernel_rfl) (by kernel_rfl)<|sK<|sn<|sq<|rA cx [10,11] [10] (fT (A1i ) (fO ((0:Int)≤(5:Int)) (fR (some [AV.fn (Fn.func (158:FuncId)) [] []]) (fR 1 (fT (con158 ({ live:=live,seen:=seen,rep:=rep,lim:=lim,act:={ kind:=(5:Int),sku:={ kind:=(5:Int),sku:=s,qty:=q,past:=p:Actn }.sku,qty:={ kind:=(5:Int),sku:=s,qty:=q,past:=p:Actn }.qty,past:={ kind:=(5:Int),sku:=s,qty:=q,past:=p:Actn }.past:Actn }:Wish })) (oA 0 (Ab3 (A1i )) (oR 3 [.fn (Fn.func (158:FuncId)) [] []] (oA 11 (.tup [.agg [.sl (List.map c46 { adds:=[],gone:=(C8 { live:=live,seen:=seen,rep:=rep,lim:=lim,act:={ kind:=(5:Int),sku:={ kind:=(5:Int),sku:=s,qty:=q,past:=p:Actn }.sku,qty:={ kind:=(5:Int),sku:=s,qty:=q,past:=p:Actn }.qty,past:={ kind:=(5:Int),sku:=s,qty:=q,past:=p:Actn }.past:Actn }:Wish }.live).1,recs:=[]:Facts }.adds),.sl (List.map c3 { adds:=[],gone:=(C8 { live:=live,seen:=seen,rep:=rep,lim:=lim,act:={ kind:=(5:Int),sku:={ kind:=(5:Int),sku:=s,qty:=q,past:=p:Actn }.sku,qty:={ kind:=(5:Int),sku:=s,qty:=q,past:=p:Actn }.qty,past:={ kind:=(5:Int),sku:=s,qty:=q,past:=p:Actn }.past:Actn }:Wish }.live).1,recs:=[]:Facts }.gone.vec),.sl (List.map B1 { adds:=[],gone:=(C8 { live:=live,seen:=seen,rep:=rep,lim:=lim,act:={ kind:=(5:Int),sku:={ kind:=(5:Int),sku:=s,qty:=q,past:=p:Actn }.sku,qty:={ kind:=(5:Int),sku:=s,qty:=q,past:=p:Actn }.qty,past:={ kind:=(5:Int),sku:=s,qty:=q,past:=p:Actn }.past:Actn }:Wish }.live).1,recs:=[]:Facts }.gone.cloud),.sl (List.map c54 { adds:=[],gone:=(C8 { live:=live,seen:=seen,rep:=rep,lim:=lim,act:={ kind:=(5:Int),sku:={ kind:=(5:Int),sku:=s,qty:=q,past:=p:Actn }.sku,qty:={ kind:=(5:Int),sku:=s,qty:=q,past:=p:Actn }.qty,past:={ kind:=(5:Int),sku:=s,qty:=q,past:=p:Actn }.past:Actn }:Wish }.live).1,recs:=[]:Facts }.recs)],.i .i64 ((0:Int))]) z0))))))))<|sn<|rT<|qR (.tup [.agg [.sl (List.map c46 { adds:=[],gone:=(C8 { live:=live,seen:=seen,rep:=rep,lim:=lim,act:={ kind:=(5:Int),sku:={ kind:=(5:Int),sku:=s,qty:=q,past:=p:Actn }.sku,qty:={ kind:=(5:Int),sku:=s,qty:=q,past:=p:Actn }.qty,past:={ kind:=(5:Int),sku:=s,qty:=q,past:=p:Actn }.past:Actn }:Wish }.live).1,recs:=[]:Facts }.adds),.sl (List.map c3 { adds:=[],gone:=(C8 { live:=live,seen:=seen,rep:=rep,lim:=lim,act:={ kind:=(5:Int),sku:={ kind:=(5:Int),sku:=s,qty:=q,past:=p:Actn }.sku,qty:={ kind:=(5:Int),sku:=s,qty:=q,past:=p:Actn }.qty,past:={ kind:=(5:Int),sku:=s,qty:=q,past:=p:Actn }.past:Actn }:Wish }.live).1,recs:=[]:Facts }.gone.vec),.sl (List.map B1 { adds:=[],gone:=(C8 { live:=live,seen:=seen,rep:=rep,lim:=lim,act:={ kind:=(5:Int),sku:={ kind:=(5:Int),sku:=s,qty:=q,past:=p:Actn }.sku,qty:={ kind:=(5:Int),sku:=s,qty:=q,past:=p:Actn }.qty,past:={ kind:=(5:Int),sku:=s,qty:=q,past:=p:Actn }.past:Actn }:Wish }.live).1,recs:=[]:Facts }.gone.cloud),.sl (List.map c54 { adds:=[],gone:=(C8 { live:=live,seen:=seen,rep:=rep,lim:=lim,act:={ kind:=(5:Int),sku:={ kind:=(5:Int),sku:=s,qty:=q,past:=p:Actn }.sku,qty:={ kind:=(5:Int),sku:=s,qty:=q,past:=p:Actn }.qty,past:={ kind:=(5:Int),sku:=s,qty:=q,past:=p:Actn }.past:Actn }:Wish }.live).1,recs:=[]:Facts }.recs)],.i .i64 ((0:Int))]) (A7.tup (ZLe.cons (A7.eq (show AV.agg [AV.sl (List.map c46 { adds:=[],gone:=(C8 { live:=live,seen:=seen,rep:=rep,lim:=lim,act:={ kind:=(5:Int),sku:={ kind:=(5:Int),sku:=s,qty:=q,past:=p:Actn }.sku,qty:={ kind:=(5:Int),sku:=s,qty:=q,past:=p:Actn }.qty,past:={ kind:=(5:Int),sku:=s,qty:=q,past:=p:Actn }.past:Actn }:Wish }.live).1,recs:=[]:Facts }.adds),AV.sl (List.map c3 { adds:=[],gone:=(C8 { live:=live,seen:=seen,rep:=rep,lim:=lim,act:={ kind:=(5:Int),sku:={ kind:=(5:Int),sku:=s,qty:=q,past:=p:Actn }.sku,qty:={ kind:=(5:Int),sku:=s,qty:=q,past:=p:Actn }.qty,past:={ kind:=(5:Int),sku:=s,qty:=q,past:=p:Actn }.past:Actn }:Wish }.live).1,recs:=[]:Facts }.gone.vec),AV.sl (List.map B1 { adds:=[],gone:=(C8 { live:=live,seen:=seen,rep:=rep,lim:=lim,act:={ kind:=(5:Int),sku:={ kind:=(5:Int),sku:=s,qty:=q,past:=p:Actn }.sku,qty:={ kind:=(5:Int),sku:=s,qty:=q,past:=p:Actn }.qty,past:={ kind:=(5:Int),sku:=s,qty:=q,past:=p:Actn }.past:Actn }:Wish }.live).1,recs:=[]:Facts }.gone.cloud),AV.sl (List.map c54 { adds:=[],gone:=(C8 { live:=live,seen:=seen,rep:=rep,lim:=lim,act:={ kind:=(5:Int),sku:={ kind:=(5:Int),sku:=s,qty:=q,past:=p:Actn }.sku,qty:={ kind:=(5:Int),sku:=s,qty:=q,past:=p:Actn }.qty,past:={ kind:=(5:Int),sku:=s,qty:=q,past:=p:Actn }.past:Actn }:Wish }.live).1,recs:=[]:Facts }.recs)]=AV.agg [AV.sl (List.map c46 (B7 { live:=live,seen:=seen,rep:=rep,lim:=lim,act:={ kind:=(5:Int),sku:=s,qty:=q,past:=p:Actn }:Wish }).1.adds),AV.sl (List.map c3 (B7 { live:=live,seen:=seen,rep:=rep,lim:=lim,act:={ kind:=(5:Int),sku:=s,qty:=q,past:=p:Actn }:Wish }).1.gone.vec),AV.sl (List.map B1 (B7 { live:=live,seen:=seen,rep:=rep,lim:=lim,act:={ kind:=(5:Int),sku:=s,qty:=q,past:=p:Actn }:Wish }).1.gone.cloud),AV.sl (List.map c54 (B7 { live:=live,seen:=seen,rep:=rep,lim:=lim,act:={ kind:=(5:Int),sku:=s,qty:=q,past:=p:Actn }:Wish }).1.recs)]from(by rw[G9 (w:=⟨live,seen,rep,lim,⟨5,s,q,p⟩⟩) hh2 hh3 h6 h11 (Aw4 s q p),B26 (w:=⟨live,seen,rep,lim,⟨5,s,q,p⟩⟩) rfl]))) (ZLe.cons (A7.eq (show AV.i .i64 0=AV.i .i64 (B7 { live:=live,seen:=seen,rep:=rep,lim:=lim,act:={ kind:=(5:Int),sku:=s,qty:=q,past:=p:Actn }:Wish }).2 from(by rw[G9 (w:=⟨live,seen,rep,lim,⟨5,s,q,p⟩⟩) hh2 hh3 h6 h11 (Aw4 s q p),B26 (w:=⟨live,seen,rep,lim,⟨5,s,q,p⟩⟩) rfl]))) ZLe.nil)))
theorem B2e(live:List Entry)(seen:Past)(rep:Int)(lim:Limits)(s:ByteArray)(q:Int)(p:Past)(hs:live.length*40≤140737488351232)(hb:szP seen)(hp:szP p):Con Tryz.prog 15 [.sl (live.map c46),.agg (c26 seen),.i .i64 rep,.agg (c28 lim),.agg (c30 ⟨6,s,q,p⟩)] (.tup [.agg (c36 (B7 ⟨live,seen,rep,lim,⟨6,s,q,p⟩⟩).1),.i .i64 (B7 ⟨live,seen,rep,lim,⟨6,s,q,p⟩⟩).2]) :=
 by
 refine lN 0 c46 (live) Tryz.func15 fun hl_0=>sC B3 [.cell 10 36,.tmp 11] 80 Tryz.func15 ?_
 intro e0 cx
 refine sq<|rG cx [0,2,6,8,9,10] [6,8,9,10] z0<|sn<|sq<|sq<|A9 (σ':=⟨[(0,.sl (List.map c46 live)),(2,.i .i64 (rep)),(6,.ptr (6) (0) (0) (0)),(8,.ptr (8) (0) (0) (0)),(9,.ptr (9) (0) (0) (0)),(10,.ptr (10) (0) (0) (0)),(22,.b (decide (¬C3 live=0∨¬seen=A5 seen)))],[(6,⟨0,26,.var [.sl (List.map c3 seen.vec),.sl (List.map B1 seen.cloud)]⟩),(8,⟨0,28,.var [.i .i64 (lim.lines),.i .i64 (lim.count)]⟩),(9,⟨0,30,.var [.i .i64 ((6:Int)),.s ({ kind:=(6:Int),sku:=s,qty:=q,past:=p:Actn }.sku),.i .i64 ({ kind:=(6:Int),sku:=s,qty:=q,past:=p:Actn }.qty),.sl (List.map c3 { kind:=(6:Int),sku:=s,qty:=q,past:=p:Actn }.past.vec),.sl (List.map B1 { kind:=(6:Int),sku:=s,qty:=q,past:=p:Actn }.past.cloud)]⟩),(10,⟨0,36,.var [.nl,.nl,.nl,.nl]⟩)]⟩) ?_ ?_
 refine A6 (¬C3 live=0) (fun hh1=>?_) (fun hh1=>?_)
 refine rG cx [0,2,6,8,9,10,22] [6,8,9,10] (fT (M3 (live)) (tT 2 (G2 hh1:AV.b (C3 live !=0)=AV.b true) (tD 7 true (¬C3 live=0∨¬seen=A5 seen) (by simp only [eq_false hh1,tsl]) (oA 1 (.i .i64 (C3 live)) z0)))) ?_
 exact⟨rfl,by kernel_rfl⟩
 refine rG cx [0,2,6,8,9,10,22] [6,8,9,10] (fT (M3 (live)) (tN 2 (C3 live) (0:Int) (tT 3 (A0 hh1) (fT (A08 (seen) (by exact hb.1)) (tQ 6 (seen=A5 seen) (tT 7 (by first | (simp only [eq_false hh1,tsl];done) | simp_all:AV.b (decide ¬seen=A5 seen)=AV.b (decide (¬C3 live=0∨¬seen=A5 seen))) (oA 1 (.i .i64 (C3 live)) (oA 5 (.b (decide (seen=A5 seen))) z0)))))))) ?_
 exact⟨rfl,by kernel_rfl⟩
 refine sn<|dC (¬C3 live=0∨¬seen=A5 seen) (fun hh2=>?_) fun hh2=>?_
 refine sq<|rG cx [10,11] [10] z0<|sn<|rT<|nR<|qR (.tup [.agg [.nl,.nl,.nl,.nl],.i .i64 ((1:Int))]) (A7.tup (ZLe.cons (A7.agg (ZLe.cons (A7.nl' (show List.map c46 (B7 { live:=live,seen:=seen,rep:=rep,lim:=lim,act:={ kind:=(6:Int),sku:=s,qty:=q,past:=p:Actn }:Wish }).1.adds=[]from(by rw[C1 (w:=⟨live,seen,rep,lim,⟨6,s,q,p⟩⟩) hh2];rfl))) (ZLe.cons (A7.nl' (show List.map c3 (B7 { live:=live,seen:=seen,rep:=rep,lim:=lim,act:={ kind:=(6:Int),sku:=s,qty:=q,past:=p:Actn }:Wish }).1.gone.vec=[]from(by rw[C1 (w:=⟨live,seen,rep,lim,⟨6,s,q,p⟩⟩) hh2];rfl))) (ZLe.cons (A7.nl' (show List.map B1 (B7 { live:=live,seen:=seen,rep:=rep,lim:=lim,act:={ kind:=(6:Int),sku:=s,qty:=q,past:=p:Actn }:Wish }).1.gone.cloud=[]from(by rw[C1 (w:=⟨live,seen,rep,lim,⟨6,s,q,p⟩⟩) hh2];rfl))) (ZLe.cons (A7.nl' (show List.map c54 (B7 { live:=live,seen:=seen,rep:=rep,lim:=lim,act:={ kind:=(6:Int),sku:=s,qty:=q,past:=p:Actn }:Wish }).1.recs=[]from(by rw[C1 (w:=⟨live,seen,rep,lim,⟨6,s,q,p⟩⟩) hh2];rfl))) ZLe.nil))))) (ZLe.cons (A7.eq (show AV.i .i64 1=AV.i .i64 (B7 { live:=live,seen:=seen,rep:=rep,lim:=lim,act:={ kind:=(6:Int),sku:=s,qty:=q,past:=p:Actn }:Wish }).2 from(by rw[C1 (w:=⟨live,seen,rep,lim,⟨6,s,q,p⟩⟩) hh2]))) ZLe.nil)))
 refine sK<|sn<|sq<|sq<|rG cx [0,2,6,8,9,10,12] [6,8,9,10] (fT (A9u (live) (seen) (by exact hb.1)) (oA 2 (.tup [.sl (List.map c46 (E5 live seen false).1),.i .i64 ((E5 live seen false).2)]) z0)) ?_
 refine sn<|rD cx [0,2,6,8,9,10,32] [6,8,9,10] (tL 1 c46 ((E5 live seen false).1) (zB 2 ((0:Int) <(↑(E5 live seen false).1.length:Int)))) (fun hh3=>?_) fun hh3=>?_
 refine sq<|rG cx [10,11] [10] z0<|sn<|rT<|nR<|qR (.tup [.agg [.nl,.nl,.nl,.nl],.i .i64 ((1:Int))]) (A7.tup (ZLe.cons (A7.agg (ZLe.cons (A7.nl' (show List.map c46 (B7 { live:=live,seen:=seen,rep:=rep,lim:=lim,act:={ kind:=(6:Int),sku:=s,qty:=q,past:=p:Actn }:Wish }).1.adds=[]from(by rw[C2 (w:=⟨live,seen,rep,lim,⟨6,s,q,p⟩⟩) hh2 hh3];rfl))) (ZLe.cons (A7.nl' (show List.map c3 (B7 { live:=live,seen:=seen,rep:=rep,lim:=lim,act:={ kind:=(6:Int),sku:=s,qty:=q,past:=p:Actn }:Wish }).1.gone.vec=[]from(by rw[C2 (w:=⟨live,seen,rep,lim,⟨6,s,q,p⟩⟩) hh2 hh3];rfl))) (ZLe.cons (A7.nl' (show List.map B1 (B7 { live:=live,seen:=seen,rep:=rep,lim:=lim,act:={ kind:=(6:Int),sku:=s,qty:=q,past:=p:Actn }:Wish }).1.gone.cloud=[]from(by rw[C2 (w:=⟨live,seen,rep,lim,⟨6,s,q,p⟩⟩) hh2 hh3];rfl))) (ZLe.cons (A7.nl' (show List.map c54 (B7 { live:=live,seen:=seen,rep:=rep,lim:=lim,act:={ kind:=(6:Int),sku:=s,qty:=q,past:=p:Actn }:Wish }).1.recs=[]from(by rw[C2 (w:=⟨live,seen,rep,lim,⟨6,s,q,p⟩⟩) hh2 hh3];rfl))) ZLe.nil))))) (ZLe.cons (A7.eq (show AV.i .i64 1=AV.i .i64 (B7 { live:=live,seen:=seen,rep:=rep,lim:=lim,act:={ kind:=(6:Int),sku:=s,qty:=q,past:=p:Actn }:Wish }).2 from(by rw[C2 (w:=⟨live,seen,rep,lim,⟨6,s,q,p⟩⟩) hh2 hh3]))) ZLe.nil)))
 refine sK<|sn<|sq<|sq<|A9 (σ':=⟨[(0,.sl (List.map c46 live)),(2,.i .i64 (rep)),(6,.ptr (6) (0) (0) (0)),(8,.ptr (8) (0) (0) (0)),(9,.ptr (9) (0) (0) (0)),(10,.ptr (10) (0) (0) (0)),(39,.b (decide (rep <(0:Int)∨16≤rep)))],[(6,⟨0,26,.var [.sl (List.map c3 seen.vec),.sl (List.map B1 seen.cloud)]⟩),(8,⟨0,28,.var [.i .i64 (lim.lines),.i .i64 (lim.count)]⟩),(9,⟨0,30,.var [.i .i64 ((6:Int)),.s ({ kind:=(6:Int),sku:=s,qty:=q,past:=p:Actn }.sku),.i .i64 ({ kind:=(6:Int),sku:=s,qty:=q,past:=p:Actn }.qty),.sl (List.map c3 { kind:=(6:Int),sku:=s,qty:=q,past:=p:Actn }.past.vec),.sl (List.map B1 { kind:=(6:Int),sku:=s,qty:=q,past:=p:Actn }.past.cloud)]⟩),(10,⟨0,36,.var [.nl,.nl,.nl,.nl]⟩)]⟩) ?_ ?_
 refine A6 (rep <(0:Int)) (fun h_5=>?_) (fun h_5=>?_)
 refine rG cx [0,2,6,8,9,10,39] [6,8,9,10] (tT 1 (A4 h_5) (tD 5 true (rep <(0:Int)∨16≤rep) (by simp only [eq_true h_5,tsl]) z0)) ?_
 exact⟨rfl,by kernel_rfl⟩
 refine rG cx [0,2,6,8,9,10,39] [6,8,9,10] (tT 1 (A0 h_5) (tB 4 (16≤rep) (tD 5 (decide (16≤rep)) (rep <(0:Int)∨16≤rep) (by simp only [eq_false h_5,tsl]) z0))) ?_
 exact⟨rfl,by kernel_rfl⟩
 refine sn<|dC (rep <(0:Int)∨16≤rep) (fun h6=>?_) fun h6=>?_
 refine sq<|rG cx [10,11] [10] z0<|sn<|rT<|nR<|qR (.tup [.agg [.nl,.nl,.nl,.nl],.i .i64 ((3:Int))]) (A7.tup (ZLe.cons (A7.agg (ZLe.cons (A7.nl' (show List.map c46 (B7 { live:=live,seen:=seen,rep:=rep,lim:=lim,act:={ kind:=(6:Int),sku:=s,qty:=q,past:=p:Actn }:Wish }).1.adds=[]from(by rw[D2 (w:=⟨live,seen,rep,lim,⟨6,s,q,p⟩⟩) hh2 hh3 h6];rfl))) (ZLe.cons (A7.nl' (show List.map c3 (B7 { live:=live,seen:=seen,rep:=rep,lim:=lim,act:={ kind:=(6:Int),sku:=s,qty:=q,past:=p:Actn }:Wish }).1.gone.vec=[]from(by rw[D2 (w:=⟨live,seen,rep,lim,⟨6,s,q,p⟩⟩) hh2 hh3 h6];rfl))) (ZLe.cons (A7.nl' (show List.map B1 (B7 { live:=live,seen:=seen,rep:=rep,lim:=lim,act:={ kind:=(6:Int),sku:=s,qty:=q,past:=p:Actn }:Wish }).1.gone.cloud=[]from(by rw[D2 (w:=⟨live,seen,rep,lim,⟨6,s,q,p⟩⟩) hh2 hh3 h6];rfl))) (ZLe.cons (A7.nl' (show List.map c54 (B7 { live:=live,seen:=seen,rep:=rep,lim:=lim,act:={ kind:=(6:Int),sku:=s,qty:=q,past:=p:Actn }:Wish }).1.recs=[]from(by rw[D2 (w:=⟨live,seen,rep,lim,⟨6,s,q,p⟩⟩) hh2 hh3 h6];rfl))) ZLe.nil))))) (ZLe.cons (A7.eq (show AV.i .i64 3=AV.i .i64 (B7 { live:=live,seen:=seen,rep:=rep,lim:=lim,act:={ kind:=(6:Int),sku:=s,qty:=q,past:=p:Actn }:Wish }).2 from(by rw[D2 (w:=⟨live,seen,rep,lim,⟨6,s,q,p⟩⟩) hh2 hh3 h6]))) ZLe.nil)))
 refine sK<|sn<|sq<|sq<|A9 (σ':=⟨[(0,.sl (List.map c46 live)),(2,.i .i64 (rep)),(6,.ptr (6) (0) (0) (0)),(8,.ptr (8) (0) (0) (0)),(9,.ptr (9) (0) (0) (0)),(10,.ptr (10) (0) (0) (0)),(58,.b (decide (lim.lines <(1:Int)∨(1000:Int) < lim.lines∨lim.count <(1:Int)∨(1000000000:Int) < lim.count)))],[(6,⟨0,26,.var [.sl (List.map c3 seen.vec),.sl (List.map B1 seen.cloud)]⟩),(8,⟨0,28,.var [.i .i64 (lim.lines),.i .i64 (lim.count)]⟩),(9,⟨0,30,.var [.i .i64 ((6:Int)),.s ({ kind:=(6:Int),sku:=s,qty:=q,past:=p:Actn }.sku),.i .i64 ({ kind:=(6:Int),sku:=s,qty:=q,past:=p:Actn }.qty),.sl (List.map c3 { kind:=(6:Int),sku:=s,qty:=q,past:=p:Actn }.past.vec),.sl (List.map B1 { kind:=(6:Int),sku:=s,qty:=q,past:=p:Actn }.past.cloud)]⟩),(10,⟨0,36,.var [.nl,.nl,.nl,.nl]⟩)]⟩) ?_ ?_
 refine A6 (lim.lines <(1:Int)) (fun h_8=>?_) (fun h_8=>?_)
 refine rG cx [0,2,6,8,9,10,58] [6,8,9,10] (tT 2 (A4 h_8) (tD 17 true (lim.lines <(1:Int)∨(1000:Int) < lim.lines∨lim.count <(1:Int)∨(1000000000:Int) < lim.count) (by simp only [eq_true h_8,tsl]) z0)) ?_
 exact⟨rfl,by kernel_rfl⟩
 refine A6 ((1000:Int) < lim.lines) (fun h_9=>?_) (fun h_9=>?_)
 refine rG cx [0,2,6,8,9,10,58] [6,8,9,10] (tT 2 (A0 h_8) (tT 6 (A4 h_9) (tD 17 true (lim.lines <(1:Int)∨(1000:Int) < lim.lines∨lim.count <(1:Int)∨(1000000000:Int) < lim.count) (by simp only [eq_false h_8,eq_true h_9,tsl]) z0))) ?_
 exact⟨rfl,by kernel_rfl⟩
 refine A6 (lim.count <(1:Int)) (fun h_10=>?_) (fun h_10=>?_)
 refine rG cx [0,2,6,8,9,10,58] [6,8,9,10] (tT 2 (A0 h_8) (tT 6 (A0 h_9) (tT 11 (A4 h_10) (tD 17 true (lim.lines <(1:Int)∨(1000:Int) < lim.lines∨lim.count <(1:Int)∨(1000000000:Int) < lim.count) (by simp only [eq_false h_8,eq_false h_9,eq_true h_10,tsl]) z0)))) ?_
 exact⟨rfl,by kernel_rfl⟩
 refine rG cx [0,2,6,8,9,10,58] [6,8,9,10] (tT 2 (A0 h_8) (tT 6 (A0 h_9) (tT 11 (A0 h_10) (tB 16 ((1000000000:Int) < lim.count) (tD 17 (decide ((1000000000:Int) < lim.count)) (lim.lines <(1:Int)∨(1000:Int) < lim.lines∨lim.count <(1:Int)∨(1000000000:Int) < lim.count) (by simp only [eq_false h_8,eq_false h_9,eq_false h_10,tsl]) z0))))) ?_
 exact⟨rfl,by kernel_rfl⟩
 refine sn<|dC (lim.lines <(1:Int)∨(1000:Int) < lim.lines∨lim.count <(1:Int)∨(1000000000:Int) < lim.count) (fun h11=>?_) fun h11=>?_
 refine sq<|rG cx [10,11] [10] z0<|sn<|rT<|nR<|qR (.tup [.agg [.nl,.nl,.nl,.nl],.i .i64 ((2:Int))]) (A7.tup (ZLe.cons (A7.agg (ZLe.cons (A7.nl' (show List.map c46 (B7 { live:=live,seen:=seen,rep:=rep,lim:=lim,act:={ kind:=(6:Int),sku:=s,qty:=q,past:=p:Actn }:Wish }).1.adds=[]from(by rw[D3 (w:=⟨live,seen,rep,lim,⟨6,s,q,p⟩⟩) hh2 hh3 h6 h11];rfl))) (ZLe.cons (A7.nl' (show List.map c3 (B7 { live:=live,seen:=seen,rep:=rep,lim:=lim,act:={ kind:=(6:Int),sku:=s,qty:=q,past:=p:Actn }:Wish }).1.gone.vec=[]from(by rw[D3 (w:=⟨live,seen,rep,lim,⟨6,s,q,p⟩⟩) hh2 hh3 h6 h11];rfl))) (ZLe.cons (A7.nl' (show List.map B1 (B7 { live:=live,seen:=seen,rep:=rep,lim:=lim,act:={ kind:=(6:Int),sku:=s,qty:=q,past:=p:Actn }:Wish }).1.gone.cloud=[]from(by rw[D3 (w:=⟨live,seen,rep,lim,⟨6,s,q,p⟩⟩) hh2 hh3 h6 h11];rfl))) (ZLe.cons (A7.nl' (show List.map c54 (B7 { live:=live,seen:=seen,rep:=rep,lim:=lim,act:={ kind:=(6:Int),sku:=s,qty:=q,past:=p:Actn }:Wish }).1.recs=[]from(by rw[D3 (w:=⟨live,seen,rep,lim,⟨6,s,q,p⟩⟩) hh2 hh3 h6 h11];rfl))) ZLe.nil))))) (ZLe.cons (A7.eq (show AV.i .i64 2=AV.i .i64 (B7 { live:=live,seen:=seen,rep:=rep,lim:=lim,act:={ kind:=(6:Int),sku:=s,qty:=q,past:=p:Actn }:Wish }).2 from(by rw[D3 (w:=⟨live,seen,rep,lim,⟨6,s,q,p⟩⟩) hh2 hh3 h6 h11]))) ZLe.nil)))
 refine sK<|sn<|sq<|sq<|rG cx [0,2,6,8,9,10,14] [6,8,9,10] (fT (A9m ({ kind:=(6:Int),sku:={ kind:=(6:Int),sku:=s,qty:=q,past:=p:Actn }.sku,qty:={ kind:=(6:Int),sku:=s,qty:=q,past:=p:Actn }.qty,past:={ kind:=(6:Int),sku:=s,qty:=q,past:=p:Actn }.past:Actn }) (by(with_reducible assumption))) (oA 1 (.i .i64 (J5 { kind:=(6:Int),sku:={ kind:=(6:Int),sku:=s,qty:=q,past:=p:Actn }.sku,qty:={ kind:=(6:Int),sku:=s,qty:=q,past:=p:Actn }.qty,past:={ kind:=(6:Int),sku:=s,qty:=q,past:=p:Actn }.past:Actn })) z0))<|sn<|sq<|rG cx [0,2,6,8,9,10,14,63] [6,8,9,10] (tN 1 (J5 { kind:=(6:Int),sku:={ kind:=(6:Int),sku:=s,qty:=q,past:=p:Actn }.sku,qty:={ kind:=(6:Int),sku:=s,qty:=q,past:=p:Actn }.qty,past:={ kind:=(6:Int),sku:=s,qty:=q,past:=p:Actn }.past:Actn }) (0:Int) z0)<|sn<|dC (¬J5 { kind:=(6:Int),sku:={ kind:=(6:Int),sku:=s,qty:=q,past:=p:Actn }.sku,qty:={ kind:=(6:Int),sku:=s,qty:=q,past:=p:Actn }.qty,past:={ kind:=(6:Int),sku:=s,qty:=q,past:=p:Actn }.past:Actn }=(0:Int)) (fun h12=>?_) fun h12=>?_
 refine sq<|rG cx [10,11] [10] z0<|sn<|rT<|nR<|qR (.tup [.agg [.nl,.nl,.nl,.nl],.i .i64 (J5 { kind:=(6:Int),sku:={ kind:=(6:Int),sku:=s,qty:=q,past:=p:Actn }.sku,qty:={ kind:=(6:Int),sku:=s,qty:=q,past:=p:Actn }.qty,past:={ kind:=(6:Int),sku:=s,qty:=q,past:=p:Actn }.past:Actn })]) (A7.tup (ZLe.cons (A7.agg (ZLe.cons (A7.nl' (show List.map c46 (B7 { live:=live,seen:=seen,rep:=rep,lim:=lim,act:={ kind:=(6:Int),sku:=s,qty:=q,past:=p:Actn }:Wish }).1.adds=[]from(by rw[D7 (w:=⟨live,seen,rep,lim,⟨6,s,q,p⟩⟩) hh2 hh3 h6 h11 h12];rfl))) (ZLe.cons (A7.nl' (show List.map c3 (B7 { live:=live,seen:=seen,rep:=rep,lim:=lim,act:={ kind:=(6:Int),sku:=s,qty:=q,past:=p:Actn }:Wish }).1.gone.vec=[]from(by rw[D7 (w:=⟨live,seen,rep,lim,⟨6,s,q,p⟩⟩) hh2 hh3 h6 h11 h12];rfl))) (ZLe.cons (A7.nl' (show List.map B1 (B7 { live:=live,seen:=seen,rep:=rep,lim:=lim,act:={ kind:=(6:Int),sku:=s,qty:=q,past:=p:Actn }:Wish }).1.gone.cloud=[]from(by rw[D7 (w:=⟨live,seen,rep,lim,⟨6,s,q,p⟩⟩) hh2 hh3 h6 h11 h12];rfl))) (ZLe.cons (A7.nl' (show List.map c54 (B7 { live:=live,seen:=seen,rep:=rep,lim:=lim,act:={ kind:=(6:Int),sku:=s,qty:=q,past:=p:Actn }:Wish }).1.recs=[]from(by rw[D7 (w:=⟨live,seen,rep,lim,⟨6,s,q,p⟩⟩) hh2 hh3 h6 h11 h12];rfl))) ZLe.nil))))) (ZLe.cons (A7.eq (show AV.i .i64 (J5 { kind:=(6:Int),sku:={ kind:=(6:Int),sku:=s,qty:=q,past:=p:Actn }.sku,qty:={ kind:=(6:Int),sku:=s,qty:=q,past:=p:Actn }.qty,past:={ kind:=(6:Int),sku:=s,qty:=q,past:=p:Actn }.past:Actn })=AV.i .i64 (B7 { live:=live,seen:=seen,rep:=rep,lim:=lim,act:={ kind:=(6:Int),sku:=s,qty:=q,past:=p:Actn }:Wish }).2 from(by rw[D7 (w:=⟨live,seen,rep,lim,⟨6,s,q,p⟩⟩) hh2 hh3 h6 h11 h12]))) ZLe.nil)))
 refine sK<|sn<|sq<|rA cx [10,11] [10] (fT (A1i ) (fO ((0:Int)≤(6:Int)) (fR (some [AV.fn (Fn.func (159:FuncId)) [] []]) (fR 1 (fT (con159 ({ live:=live,seen:=seen,rep:=rep,lim:=lim,act:={ kind:=(6:Int),sku:={ kind:=(6:Int),sku:=s,qty:=q,past:=p:Actn }.sku,qty:={ kind:=(6:Int),sku:=s,qty:=q,past:=p:Actn }.qty,past:={ kind:=(6:Int),sku:=s,qty:=q,past:=p:Actn }.past:Actn }:Wish }) (by(with_reducible assumption))) (oA 0 (Ab3 (A1i )) (oR 3 [.fn (Fn.func (159:FuncId)) [] []] (oA 11 (.tup [.agg [.sl (List.map c46 (G5 E3 { live:=live,seen:=seen,rep:=rep,lim:=lim,act:={ kind:=(6:Int),sku:={ kind:=(6:Int),sku:=s,qty:=q,past:=p:Actn }.sku,qty:={ kind:=(6:Int),sku:=s,qty:=q,past:=p:Actn }.qty,past:={ kind:=(6:Int),sku:=s,qty:=q,past:=p:Actn }.past:Actn }:Wish }.act.past).adds),.sl (List.map c3 (G5 E3 { live:=live,seen:=seen,rep:=rep,lim:=lim,act:={ kind:=(6:Int),sku:={ kind:=(6:Int),sku:=s,qty:=q,past:=p:Actn }.sku,qty:={ kind:=(6:Int),sku:=s,qty:=q,past:=p:Actn }.qty,past:={ kind:=(6:Int),sku:=s,qty:=q,past:=p:Actn }.past:Actn }:Wish }.act.past).gone.vec),.sl (List.map B1 (G5 E3 { live:=live,seen:=seen,rep:=rep,lim:=lim,act:={ kind:=(6:Int),sku:={ kind:=(6:Int),sku:=s,qty:=q,past:=p:Actn }.sku,qty:={ kind:=(6:Int),sku:=s,qty:=q,past:=p:Actn }.qty,past:={ kind:=(6:Int),sku:=s,qty:=q,past:=p:Actn }.past:Actn }:Wish }.act.past).gone.cloud),.sl (List.map c54 (G5 E3 { live:=live,seen:=seen,rep:=rep,lim:=lim,act:={ kind:=(6:Int),sku:={ kind:=(6:Int),sku:=s,qty:=q,past:=p:Actn }.sku,qty:={ kind:=(6:Int),sku:=s,qty:=q,past:=p:Actn }.qty,past:={ kind:=(6:Int),sku:=s,qty:=q,past:=p:Actn }.past:Actn }:Wish }.act.past).recs)],.i .i64 ((0:Int))]) z0))))))))<|sn<|rT<|qR (.tup [.agg [.sl (List.map c46 (G5 E3 { live:=live,seen:=seen,rep:=rep,lim:=lim,act:={ kind:=(6:Int),sku:={ kind:=(6:Int),sku:=s,qty:=q,past:=p:Actn }.sku,qty:={ kind:=(6:Int),sku:=s,qty:=q,past:=p:Actn }.qty,past:={ kind:=(6:Int),sku:=s,qty:=q,past:=p:Actn }.past:Actn }:Wish }.act.past).adds),.sl (List.map c3 (G5 E3 { live:=live,seen:=seen,rep:=rep,lim:=lim,act:={ kind:=(6:Int),sku:={ kind:=(6:Int),sku:=s,qty:=q,past:=p:Actn }.sku,qty:={ kind:=(6:Int),sku:=s,qty:=q,past:=p:Actn }.qty,past:={ kind:=(6:Int),sku:=s,qty:=q,past:=p:Actn }.past:Actn }:Wish }.act.past).gone.vec),.sl (List.map B1 (G5 E3 { live:=live,seen:=seen,rep:=rep,lim:=lim,act:={ kind:=(6:Int),sku:={ kind:=(6:Int),sku:=s,qty:=q,past:=p:Actn }.sku,qty:={ kind:=(6:Int),sku:=s,qty:=q,past:=p:Actn }.qty,past:={ kind:=(6:Int),sku:=s,qty:=q,past:=p:Actn }.past:Actn }:Wish }.act.past).gone.cloud),.sl (List.map c54 (G5 E3 { live:=live,seen:=seen,rep:=rep,lim:=lim,act:={ kind:=(6:Int),sku:={ kind:=(6:Int),sku:=s,qty:=q,past:=p:Actn }.sku,qty:={ kind:=(6:Int),sku:=s,qty:=q,past:=p:Actn }.qty,past:={ kind:=(6:Int),sku:=s,qty:=q,past:=p:Actn }.past:Actn }:Wish }.act.past).recs)],.i .i64 ((0:Int))]) (A7.tup (ZLe.cons (A7.eq (show AV.agg [AV.sl (List.map c46 (G5 E3 { live:=live,seen:=seen,rep:=rep,lim:=lim,act:={ kind:=(6:Int),sku:={ kind:=(6:Int),sku:=s,qty:=q,past:=p:Actn }.sku,qty:={ kind:=(6:Int),sku:=s,qty:=q,past:=p:Actn }.qty,past:={ kind:=(6:Int),sku:=s,qty:=q,past:=p:Actn }.past:Actn }:Wish }.act.past).adds),AV.sl (List.map c3 (G5 E3 { live:=live,seen:=seen,rep:=rep,lim:=lim,act:={ kind:=(6:Int),sku:={ kind:=(6:Int),sku:=s,qty:=q,past:=p:Actn }.sku,qty:={ kind:=(6:Int),sku:=s,qty:=q,past:=p:Actn }.qty,past:={ kind:=(6:Int),sku:=s,qty:=q,past:=p:Actn }.past:Actn }:Wish }.act.past).gone.vec),AV.sl (List.map B1 (G5 E3 { live:=live,seen:=seen,rep:=rep,lim:=lim,act:={ kind:=(6:Int),sku:={ kind:=(6:Int),sku:=s,qty:=q,past:=p:Actn }.sku,qty:={ kind:=(6:Int),sku:=s,qty:=q,past:=p:Actn }.qty,past:={ kind:=(6:Int),sku:=s,qty:=q,past:=p:Actn }.past:Actn }:Wish }.act.past).gone.cloud),AV.sl (List.map c54 (G5 E3 { live:=live,seen:=seen,rep:=rep,lim:=lim,act:={ kind:=(6:Int),sku:={ kind:=(6:Int),sku:=s,qty:=q,past:=p:Actn }.sku,qty:={ kind:=(6:Int),sku:=s,qty:=q,past:=p:Actn }.qty,past:={ kind:=(6:Int),sku:=s,qty:=q,past:=p:Actn }.past:Actn }:Wish }.act.past).recs)]=AV.agg [AV.sl (List.map c46 (B7 { live:=live,seen:=seen,rep:=rep,lim:=lim,act:={ kind:=(6:Int),sku:=s,qty:=q,past:=p:Actn }:Wish }).1.adds),AV.sl (List.map c3 (B7 { live:=live,seen:=seen,rep:=rep,lim:=lim,act:={ kind:=(6:Int),sku:=s,qty:=q,past:=p:Actn }:Wish }).1.gone.vec),AV.sl (List.map B1 (B7 { live:=live,seen:=seen,rep:=rep,lim:=lim,act:={ kind:=(6:Int),sku:=s,qty:=q,past:=p:Actn }:Wish }).1.gone.cloud),AV.sl (List.map c54 (B7 { live:=live,seen:=seen,rep:=rep,lim:=lim,act:={ kind:=(6:Int),sku:=s,qty:=q,past:=p:Actn }:Wish }).1.recs)]from(by rw[G9 (w:=⟨live,seen,rep,lim,⟨6,s,q,p⟩⟩) hh2 hh3 h6 h11 h12,B27 (w:=⟨live,seen,rep,lim,⟨6,s,q,p⟩⟩) rfl]))) (ZLe.cons (A7.eq (show AV.i .i64 0=AV.i .i64 (B7 { live:=live,seen:=seen,rep:=rep,lim:=lim,act:={ kind:=(6:Int),sku:=s,qty:=q,past:=p:Actn }:Wish }).2 from(by rw[G9 (w:=⟨live,seen,rep,lim,⟨6,s,q,p⟩⟩) hh2 hh3 h6 h11 h12,B27 (w:=⟨live,seen,rep,lim,⟨6,s,q,p⟩⟩) rfl]))) ZLe.nil)))
theorem Af9{a:Actn}(h:J5 a=0):a.kind=1∨a.kind=2∨a.kind=3∨a.kind=4∨a.kind=5∨a.kind=6:=by
 unfold J5 at h
 split at h
 ·omega
 ·omega
noncomputable def C9(live:List Entry)(seen:Past)(rep:Int)(lim:Limits)(a:Actn):Facts×Int:=B7 ⟨live,seen,rep,lim,a⟩
theorem Aw5(live:List Entry)(seen:Past)(rep:Int)(lim:Limits)(a:Actn)(hs:live.length*40≤140737488351232)(hb:szP seen)(hp:szP a.past):Con Tryz.prog 15 [.sl (live.map c46),.agg (c26 seen),.i .i64 rep,.agg (c28 lim),.agg (c30 a)] (.tup [.agg (c36 (C9 live seen rep lim a).1),.i .i64 (C9 live seen rep lim a).2]):=by
 by_cases h:J5 a=0
 ·have h:=Af9 h
  obtain⟨k,s,q,p⟩:=a
  rcases h with h | h | h | h | h | h <;> cases h
  ·exact B29 live seen rep lim s q p hs hb hp
  ·exact B2a live seen rep lim s q p hs hb hp
  ·exact B2b live seen rep lim s q p hs hb hp
  ·exact B2c live seen rep lim s q p hs hb hp
  ·exact B2d live seen rep lim s q p hs hb hp
  ·exact B2e live seen rep lim s q p hs hb hp
 ·exact B28 live seen rep lim a hs hb hp h
end Go.Proofs.YtphcaholhacnpaaGreat
namespace Go.Proofs.YtphcaholhacnpaaGreat
open Go.E
set_option maxRecDepth 100000
set_option maxHeartbeats 4000000
def selB(s:ByteArray)(r:Int)(e:Entry):Bool:=decide ((s=E3∨e.sku=s)∧(r < 0∨e.dot.rep=r))
def Aw6(s:ByteArray)(r:Int)(e:Entry):Bool:=decide (e.sku=s∧(r < 0∨e.dot.rep=r))
def dotS(es:List Entry)(s:ByteArray)(r:Int):Past:=H9 (ofT ((es.filter (selB s r)).map fun e=>e.dot))
end Go.Proofs.YtphcaholhacnpaaGreat
namespace Go.Proofs.YtphcaholhacnpaaGreat
open Go.E
set_option maxRecDepth 100000
set_option maxHeartbeats 4000000
theorem B5z{e:Entry}(h:S5 e=0):J4 e.dot=true:=(Q4.1 h).1
theorem A6d{es:List Entry}(h:C3 es=0){p:Entry→Bool}{d:Dot}:G7 (H9 (ofT ((es.filter p).map fun e=>e.dot))) d=true↔∃ e∈es,p e=true∧e.dot=d:=by
 rw[B38]
 constructor
 ·rintro⟨_,h2⟩
  obtain⟨e,he,rfl⟩:=List.mem_map.1 h2
  exact⟨e,(List.mem_filter.1 he).1,(List.mem_filter.1 he).2,rfl⟩
 ·rintro⟨e,he,hp,rfl⟩
  exact⟨B5z (A3e h e he),List.mem_map.2 ⟨e,List.mem_filter.2 ⟨he,hp⟩,rfl⟩⟩
theorem Aw7{live:List Entry}{seen:Past}(h:C3 live=0)(hn:seen=A5 seen):C5 (As0 (dotS live E3 (-1)) seen)=0↔¬ 0 <((E5 live seen false).1.length:Int):=by
 rw[A1s h hn,A0v]
 constructor
 ·intro k c
  obtain⟨e,he⟩:=List.exists_mem_of_length_pos (l:=live.filter fun e=>G7 seen e.dot == false) (by simp only at c;omega)
  have h2:=List.mem_filter.1 he
  have h3:=k e.dot
  rw[A9f]at h3
  have h4:G7 (dotS live E3 (-1)) e.dot=true:=(A6d h).2 ⟨e,h2.1,by unfold selB;simp,rfl⟩
  rw[h4]at h3
  have h5:G7 seen e.dot=false:=by simpa using h2.2
  rw[h5]at h3
  cases h3
 ·intro k d
  rw[A9f]
  cases h1:G7 (dotS live E3 (-1)) d with
  | false=>rfl
  | true =>
   obtain⟨e,he,_,rfl⟩:=(A6d h).1 h1
   cases h2:G7 seen e.dot with
   | true=>rfl
   | false =>
    refine absurd ?_ k
    have:e∈live.filter fun e=>G7 seen e.dot == false:=List.mem_filter.2 ⟨he,by rw[h2];rfl⟩
    have:=List.length_pos_of_mem this
    simp only
    omega
theorem A6e{a:Actn}(h:¬ ¬ J5 a=0)(k:a.kind≤4):F5 a.sku=true:=by
 have h:=Classical.not_not.1 h
 unfold J5 at h
 split at h
 ·omega
 ·split at h
  ·omega
  ·split at h
   ·omega
   ·rename_i c
    cases g:F5 a.sku with
    | true=>rfl
    | false=>exact absurd ⟨k,g⟩ c
theorem B3v{a:Actn}(h:¬ ¬ J5 a=0)(k:a.kind=1∨a.kind=2):1≤a.qty∧a.qty≤1000000:=by
 obtain⟨x,s,q,p⟩:=a
 exact Aw3 h k
theorem B3w{live:List Entry}{s:ByteArray}(h:C3 live=0)(g:F5 s=true):(ofV live s).1=live.filter (Aw6 s (-1)):=by
 rw[Af2 h g]
 exact congrArg (fun p=>live.filter p) (funext fun e=>by unfold Aw6;simp)
theorem Aw8{live:List Entry}{s:ByteArray}{r:Int}(h:C3 live=0)(g:F5 s=true)(hr:¬(r < 0∨16≤r)):(I1 live r s).1=live.filter (Aw6 s r):=by
 rw[A69 h hr g]
 refine congrArg (fun p=>live.filter p) (funext fun e=>?_)
 unfold Aw6
 exact decide_eq_decide.2 ⟨fun k=>⟨k.1,.inr k.2⟩,fun k=>⟨k.1,k.2.elim (fun c=>absurd (.inl c) hr) id⟩⟩
theorem A6f{live:List Entry}(h:C3 live=0)(p:Entry→Bool):C3 (live.filter p)=0:=(A0z _).2 (Av7 ((A0z _).1 h) List.filter_sublist)
end Go.Proofs.YtphcaholhacnpaaGreat
namespace Go.Proofs.YtphcaholhacnpaaGreat
open Go.E
set_option maxRecDepth 100000
set_option maxHeartbeats 4000000
theorem B60{p:Past}(h:p=A5 p):p.cloud.length≤8000000000:=by
 rw[h]
 exact(A0a _).1
end Go.Proofs.YtphcaholhacnpaaGreat
namespace Go.Proofs.YtphcaholhacnpaaGreat
open Go.E
set_option maxRecDepth 100000
set_option maxHeartbeats 4000000
theorem B2f{f:Facts}(h:evE f=0):okF f=true∧f.adds.length≤1∧f.recs.length≤1:=by
 unfold evE at h
 split at h
 ·omega
 ·rename_i h0
  have h0:okF f=true:=by cases k:okF f <;> simp_all
  refine⟨h0,?_⟩
  split at h
  ·omega
  ·split at h
   ·omega
   ·split at h
    ·omega
    ·omega
theorem Aw9{f:Facts}(h:okF f=true):C3 f.adds=0∧f.gone=A5 f.gone∧W6 f.recs=0:=by
 rw[Ae8,decide_eq_true_iff]at h
 exact h
theorem Ax0{α β:Type}[Inhabited α]{l:List α}(g:α→β)(h:¬ l.length=0):(l.map g)[Int.toNat 0]?=some (g l[0]!):=by
 cases l with
 | nil=>simp at h
 | cons e es=>rfl
end Go.Proofs.YtphcaholhacnpaaGreat
namespace Go.Proofs.YtphcaholhacnpaaGreat
open Go.E
set_option maxRecDepth 100000
set_option maxHeartbeats 4000000
theorem B61(a b:List Entry):Con Tryz.prog 85 [.sl (a.map c46),.sl (b.map c46)] (.b (decide (a=b))) :=
 by
 refine lN 0 c46 (a) Tryz.func85 fun hl_0=>lN 1 c46 (b) Tryz.func85 fun hl_1=>sC B3 [.tmp 4] 26 Tryz.func85 ?_
 intro e0 cx
 refine sq<|rG cx [0,1] [] z0<|sn<|sq<|sq<|rG cx [0,1,10] [] (tL 1 c46 a (tL 3 c46 b (tN 4 (↑a.length:Int) (↑b.length:Int) z0)))<|sn<|dC (¬(↑a.length:Int)=(↑b.length:Int)) (fun h0=>?_) fun h0=>?_
 refine sq<|rG cx [4] [] z0<|sn<|rT<|nR<|qR (.b (false)) (.eq ?g0);rotate_left
 refine sK<|sn<|sq<|sq<|rG cx [0,1,5] [] z0<|sn<|bL 0<|sL (X:=Int) (fun x=>⟨[(0,.sl (List.map c46 a)),(1,.sl (List.map c46 b)),(5,.i .i64 (x))],[]⟩) (fun x ↦ dec30 a x) (fun x ↦ B4j a b x) [0,1,5] [] ((0:Int)) (show B4j a b (0:Int)from ?g1) ?_;rotate_left
 intro i1 h_2
 obtain⟨hh3,hh4,hh5⟩:0≤i1∧i1≤(↑a.length:Int)∧∀(j:Nat),(↑j:Int) < i1→a[j]! = b[j]!:=h_2
 refine sq<|rD cx [0,1,5,14] [] (tL 2 c46 a (zB 3 (i1 <(↑a.length:Int)))) (fun h6=>?_) fun h6=>?_
 refine sK<|sn<|sq<|bL 1<|sq<|rA cx [0,1,5,25] [] (fA (0≤i1) (fG c46 a i1.toNat (fR 4 (fN 4 4 (fA (0≤i1) (fG c46 b i1.toNat (fR 4 (fN 4 4 (fT (A2k (eq46 a[i1.toNat]! b[i1.toNat]!)) (oR 2 (c46 a[i1.toNat]!) (oR 6 (c46 b[i1.toNat]!) (oA 8 (.b (decide ¬a[i1.toNat]! = b[i1.toNat]!)) z0))))))))))))<|sn<|dC (¬a[i1.toNat]! = b[i1.toNat]!) (fun h7=>?_) fun h7=>?_
 refine sq<|rG cx [4] [] z0<|sn<|rT<|bR<|nR<|nR<|bR<|nR<|qR (.b (false)) (.eq ?g2);rotate_left
 refine sK<|bN<|sn<|rG cx [0,1,5] [] (tW 1 (i1+1) z0)<|sn<|nX (i1+1) (show((↑a.length:Int)-(i1+1)).toNat <((↑a.length:Int)-i1).toNat from(by omega)) (show B4j a b (i1+1)from ?g3);rotate_left
 refine eX 0<|nE<|nE<|bH<|sn<|sq<|rG cx [4] [] z0<|sn<|rT<|qR (.b (true)) (.eq ?g4);rotate_left
 revert h0;rotate_left
 revert h0;rotate_left
 revert h0 i1 hh3 hh4 hh5 h6 h7;rotate_left
 revert h0 i1 hh3 hh4 hh5 h6 h7;rotate_left
 revert h0 i1 hh3 hh4 hh5 h6;rotate_left
 case g1=>exact(fun h=>⟨by omega,by omega,fun j hj=>by omega⟩)
 case' g4=>refine(fun h i h1 h2 h3 h4=>?_)
 case' g3=>refine(fun h i h1 h2 h3 h4 h5=>⟨by omega,by omega,fun j hj=>?_⟩)
 case' g2=>refine(fun h i h1 h2 h3 h4 h5=>?_)
 case' g0=>refine(fun h=>?_)
 ·congr 1;symm;rw[decide_eq_false_iff_not];rintro rfl;exact h rfl
 ·congr 1;symm;rw[decide_eq_false_iff_not];rintro rfl;exact h5 rfl
 ·by_cases e:j=i.toNat
  ·subst e;exact Classical.not_not.1 h5
  ·exact h3 j (by omega)
 ·congr 1;symm;rw[decide_eq_true_iff];exact B4k (Classical.not_not.1 h) fun j hj=>h3 j (by omega)
end Go.Proofs.YtphcaholhacnpaaGreat
namespace Go.Proofs.YtphcaholhacnpaaGreat
open Go.E
set_option maxRecDepth 100000
set_option maxHeartbeats 4000000
theorem A12{f:Facts}:okF f=true↔C3 f.adds=0∧f.gone=A5 f.gone∧W6 f.recs=0:=by rw[Ae8,decide_eq_true_iff]
end Go.Proofs.YtphcaholhacnpaaGreat
namespace Go.Proofs.YtphcaholhacnpaaGreat
open Go.E
set_option maxRecDepth 100000
set_option maxHeartbeats 4000000
theorem Ax1(r:Record):(⟨r.sku,r.past⟩:Record)=r:=rfl
end Go.Proofs.YtphcaholhacnpaaGreat
namespace Go.Proofs.YtphcaholhacnpaaGreat
open Go.E
set_option maxRecDepth 100000
set_option maxHeartbeats 4000000
def B62(a b:Facts)(i:Int)(x1:List Entry)(x2:List Int)(x3:List Span)(x4:List Record)(y1:List Entry)(y2:List Int)(y3:List Span)(y4:List Record):Prop:=x4=a.recs∧y4=b.recs∧0≤i∧i≤a.recs.length∧∀ k:Nat,(k:Int) < i→a.recs[k]! = b.recs[k]!
def decFx(a:Facts)(i:Int)(x1:List Entry)(x2:List Int)(x3:List Span)(x4:List Record)(y1:List Entry)(y2:List Int)(y3:List Span)(y4:List Record):Nat:=(a.recs.length-i).toNat
theorem B2g(a b:Facts)(hb:szF a)(hl:a.recs.length≤4611686018427387904):Con Tryz.prog 16 [.agg (c36 a),.agg (c36 b)] (.b (decide (a=b))) :=
 by
 have LN:¬(¬ a.adds=b.adds∨¬ a.gone=b.gone∨¬(a.recs.length:Int)=b.recs.length)→a.recs.length=b.recs.length:=fun h=>by have:=Classical.not_not.1 fun k=>h (.inr (.inr k));omega
 have GT:∀(l:List Record) (i:Int),0≤i→i < l.length→(l.map c54)[i.toNat]?=some (c54 l[i.toNat]!):=fun l i h0 h=>by
  rw[List.getElem?_map,List.getElem?_eq_getElem (by omega),getElem!_pos l i.toNat (by omega)];rfl
 refine sC B3 [.tmp 4] 65 Tryz.func16 ?_
 intro e0 cx
 refine sq<|rG cx [2,3] [2,3] z0<|sn<|sq<|sq<|A9 (σ':=⟨[(2,.ptr (2) (0) (0) (0)),(3,.ptr (3) (0) (0) (0)),(28,.b (decide (¬a.adds=b.adds∨¬a.gone=b.gone∨¬(↑a.recs.length:Int)=(↑b.recs.length:Int))))],[(2,⟨0,36,.var [.sl (List.map c46 a.adds),.sl (List.map c3 a.gone.vec),.sl (List.map B1 a.gone.cloud),.sl (List.map c54 a.recs)]⟩),(3,⟨0,36,.var [.sl (List.map c46 b.adds),.sl (List.map c3 b.gone.vec),.sl (List.map B1 b.gone.cloud),.sl (List.map c54 b.recs)]⟩)]⟩) ?_ ?_
 refine A6 (¬a.adds=b.adds) (fun h1=>?_) (fun h1=>?_)
 refine rg (A:=_∧_∧(AV.b true=AV.b (decide (¬a.adds=b.adds∨¬a.gone=b.gone∨¬(↑a.recs.length:Int)=(↑b.recs.length:Int))))) cx [(4,{ val:=some (.b (decide (a.adds=b.adds))),tell:=some (.b (false)) }),(22,{ tell:=some (.b (decide (¬a.adds=b.adds∨¬a.gone=b.gone∨¬(↑a.recs.length:Int)=(↑b.recs.length:Int)))) })] [2,3,28] [2,3] ⟨(A0 h1),(B61 (a.adds) (b.adds)),(by simp only [eq_false h1,tsl])⟩ ?_
 exact⟨rfl,by kernel_rfl⟩
 refine A6 (¬a.gone=b.gone) (fun h2=>?_) (fun h2=>?_)
 refine rg (A:=_∧((AV.b !decide (a.adds=b.adds))=AV.b (decide ¬a.adds=b.adds))∧_∧_∧_∧(AV.b true=AV.b (decide (¬a.adds=b.adds∨¬a.gone=b.gone∨¬(↑a.recs.length:Int)=(↑b.recs.length:Int))))) cx [(4,{ val:=some (.b (decide (a.adds=b.adds))) }),(5,{ tell:=some (.b (decide ¬a.adds=b.adds)) }),(6,{ tell:=some (.b (false)) }),(11,{ val:=some (.b (decide (a.gone=b.gone))),tell:=some (.b (false)) }),(22,{ tell:=some (.b (decide (¬a.adds=b.adds∨¬a.gone=b.gone∨¬(↑a.recs.length:Int)=(↑b.recs.length:Int)))) })] [2,3,28] [2,3] ⟨(B61 (a.adds) (b.adds)),(U2),(A0 h1),(A0 h2),(B14 (a.gone) (b.gone) (by exact hb.1.2) (by have:=hb.1.1;omega)),(by first | (simp only [eq_false h1,eq_false h2,tsl];done) | simp_all)⟩ ?_
 exact⟨rfl,by kernel_rfl⟩
 refine rG cx [2,3,28] [2,3] (fT (B61 (a.adds) (b.adds)) (tQ 5 (a.adds=b.adds) (tT 6 (A0 h1) (fT (B14 (a.gone) (b.gone) (by exact hb.1.2) (by have:=hb.1.1;omega)) (tQ 12 (a.gone=b.gone) (tT 13 (A0 h2) (tL 17 c54 a.recs (tL 20 c54 b.recs (tN 21 (↑a.recs.length:Int) (↑b.recs.length:Int) (tT 22 (by first | (simp only [eq_false h1,eq_false h2,tsl];done) | simp_all:AV.b (decide ¬(↑a.recs.length:Int)=(↑b.recs.length:Int))=AV.b (decide (¬a.adds=b.adds∨¬a.gone=b.gone∨¬(↑a.recs.length:Int)=(↑b.recs.length:Int)))) (oA 4 (.b (decide (a.adds=b.adds))) (oA 11 (.b (decide (a.gone=b.gone))) z0)))))))))))) ?_
 exact⟨rfl,by kernel_rfl⟩
 refine sn<|dC (¬a.adds=b.adds∨¬a.gone=b.gone∨¬(↑a.recs.length:Int)=(↑b.recs.length:Int)) (fun h3=>?_) fun h3=>?_
 refine sq<|rG cx [4] [] z0<|sn<|rT<|nR<|qR (.b (false)) (.eq ?g4);rotate_left
 refine sK<|sn<|sq<|sq<|rG cx [2,3,5] [2,3] z0<|sn<|bL 0<|sL (X:=Int×List Entry×List Int×List Span×List Record×List Entry×List Int×List Span×List Record) (fun x=>⟨[(2,.ptr (2) (0) (0) (0)),(3,.ptr (3) (0) (0) (0)),(5,.i .i64 (x.1))],[(2,⟨0,36,.var [.sl (List.map c46 x.2.1),.sl (List.map c3 x.2.2.1),.sl (List.map B1 x.2.2.2.1),.sl (List.map c54 x.2.2.2.2.1)]⟩),(3,⟨0,36,.var [.sl (List.map c46 x.2.2.2.2.2.1),.sl (List.map c3 x.2.2.2.2.2.2.1),.sl (List.map B1 x.2.2.2.2.2.2.2.1),.sl (List.map c54 x.2.2.2.2.2.2.2.2)]⟩)]⟩) (fun x ↦ decFx a x.1 x.2.1 x.2.2.1 x.2.2.2.1 x.2.2.2.2.1 x.2.2.2.2.2.1 x.2.2.2.2.2.2.1 x.2.2.2.2.2.2.2.1 x.2.2.2.2.2.2.2.2) (fun x ↦ B62 a b x.1 x.2.1 x.2.2.1 x.2.2.2.1 x.2.2.2.2.1 x.2.2.2.2.2.1 x.2.2.2.2.2.2.1 x.2.2.2.2.2.2.2.1 x.2.2.2.2.2.2.2.2) [2,3,5] [2,3] (((0:Int),a.adds,a.gone.vec,a.gone.cloud,a.recs,b.adds,b.gone.vec,b.gone.cloud,b.recs)) (show B62 a b (0:Int) a.adds a.gone.vec a.gone.cloud a.recs b.adds b.gone.vec b.gone.cloud b.recs from(by exact⟨rfl,rfl,by omega,by omega,fun k hk=>by omega⟩)) ?_
 rintro⟨i4,x5,x6,x7,x8,y9,y10,y11,y12⟩ h_13
 obtain⟨h14,h15,h16,h17,h18⟩:x8=a.recs∧y12=b.recs∧0≤i4∧i4≤(↑a.recs.length:Int)∧∀(k:Nat),(↑k:Int) < i4→a.recs[k]! = b.recs[k]!:=h_13
 refine sq<|rD cx [2,3,5,33] [2,3] (tL 3 c54 x8 (zB 4 (i4 <(↑x8.length:Int)))) (fun h19=>?_) fun h19=>?_
 refine sK<|sn<|sq<|bL 1<|sq<|A9 (σ':=⟨[(2,.ptr (2) (0) (0) (0)),(3,.ptr (3) (0) (0) (0)),(5,.i .i64 (i4)),(64,.b (decide (¬x8[i4.toNat]!.sku=y12[i4.toNat]!.sku∨¬x8[i4.toNat]!.past=y12[i4.toNat]!.past)))],[(2,⟨0,36,.var [.sl (List.map c46 x5),.sl (List.map c3 x6),.sl (List.map B1 x7),.sl (List.map c54 x8)]⟩),(3,⟨0,36,.var [.sl (List.map c46 y9),.sl (List.map c3 y10),.sl (List.map B1 y11),.sl (List.map c54 y12)]⟩)]⟩) ?_ ?_
 refine A6 (¬x8[i4.toNat]!.sku=y12[i4.toNat]!.sku) (fun h21=>?_) (fun h21=>?_)
 refine rA cx [2,3,5,64] [2,3] (fA (0≤i4) (fG c54 x8 i4.toNat (fR 3 (fA (0≤i4) (fP ((List.map c54 y12)[i4.toNat]?=some (c54 y12[i4.toNat]!)) ?g6 (fR 3 (tT 12 (A7i h21:(AV.b !x8[i4.toNat]!.sku.toList == y12[i4.toNat]!.sku.toList)=AV.b true) (tD 28 true (¬x8[i4.toNat]!.sku=y12[i4.toNat]!.sku∨¬x8[i4.toNat]!.past=y12[i4.toNat]!.past) (by simp only [eq_false h21,tsl]) (oR 3 (c54 x8[i4.toNat]!) (oR 9 (c54 y12[i4.toNat]!) z0)))))))))) ?_;rotate_left
 exact⟨rfl,by kernel_rfl⟩
 refine rA cx [2,3,5,64] [2,3] (fA (0≤i4) (fG c54 x8 i4.toNat (fR 3 (fA (0≤i4) (fP ((List.map c54 y12)[i4.toNat]?=some (c54 y12[i4.toNat]!)) ?g7 (fR 3 (tT 12 (Ab1:(AV.b !x8[i4.toNat]!.sku.toList == y12[i4.toNat]!.sku.toList)=AV.b (decide ¬x8[i4.toNat]!.sku=y12[i4.toNat]!.sku)) (tT 13 (A0 h21) (fA (0≤i4) (fG c54 x8 i4.toNat (fR 3 (fN 2 2 (fA (0≤i4) (fP ((List.map c54 y12)[i4.toNat]?=some (c54 y12[i4.toNat]!)) ?g8 (fR 3 (fN 2 2 (fT (B14 (x8[i4.toNat]!.past) (y12[i4.toNat]!.past) ?g9 ?g10) (tQ 27 (x8[i4.toNat]!.past=y12[i4.toNat]!.past) (tT 28 (by first | (simp only [eq_false h21,tsl];done) | simp_all:AV.b (decide ¬x8[i4.toNat]!.past=y12[i4.toNat]!.past)=AV.b (decide (¬x8[i4.toNat]!.sku=y12[i4.toNat]!.sku∨¬x8[i4.toNat]!.past=y12[i4.toNat]!.past))) (oR 3 (c54 x8[i4.toNat]!) (oR 9 (c54 y12[i4.toNat]!) (oR 17 (c54 x8[i4.toNat]!) (oR 23 (c54 y12[i4.toNat]!) (oA 26 (.b (decide (x8[i4.toNat]!.past=y12[i4.toNat]!.past))) z0)))))))))))))))))))))))) ?_;rotate_left 4
 exact⟨rfl,by kernel_rfl⟩
 refine sn<|dC (¬x8[i4.toNat]!.sku=y12[i4.toNat]!.sku∨¬x8[i4.toNat]!.past=y12[i4.toNat]!.past) (fun h22=>?_) fun h22=>?_
 refine sq<|rG cx [4] [] z0<|sn<|rT<|bR<|nR<|nR<|bR<|nR<|qR (.b (false)) (.eq ?g11);rotate_left
 refine sK<|bN<|sn<|rG cx [2,3,5] [2,3] (tW 1 (i4+1) z0)<|sn<|nX ((i4+1,x5,x6,x7,x8,y9,y10,y11,y12)) (show((↑a.recs.length:Int)-(i4+1)).toNat <((↑a.recs.length:Int)-i4).toNat from ?g12) (show B62 a b (i4+1) x5 x6 x7 x8 y9 y10 y11 y12 from ?g13);rotate_left 2
 refine eX 0<|nE<|nE<|bH<|sn<|sq<|rG cx [4] [] z0<|sn<|rT<|qR (.b (true)) (.eq ?g14);rotate_left
 case g4 =>
  refine congrArg AV.b (decide_eq_false fun k=>?_).symm
  subst k
  rcases h3 with h3 | h3 | h3 <;> exact h3 rfl
 case g6=>revert h3 i4 x5 x6 x7 x8 y9 y10 y11 y12 h14 h15 h16 h17 h18 h19 h21;intro n i x1 x2 x3 x4 y1 y2 y3 y4 e1 e2 k0 k1 k2 h4;intros;have:=LN n;rw[e1]at h4;rw[e2];exact GT _ _ k0 (by omega)
 case g7=>revert h3 i4 x5 x6 x7 x8 y9 y10 y11 y12 h14 h15 h16 h17 h18 h19 h21;intro n i x1 x2 x3 x4 y1 y2 y3 y4 e1 e2 k0 k1 k2 h4;intros;have:=LN n;rw[e1]at h4;rw[e2];exact GT _ _ k0 (by omega)
 case g8=>revert h3 i4 x5 x6 x7 x8 y9 y10 y11 y12 h14 h15 h16 h17 h18 h19 h21;intro n i x1 x2 x3 x4 y1 y2 y3 y4 e1 e2 k0 k1 k2 h4;intros;have:=LN n;rw[e1]at h4;rw[e2];exact GT _ _ k0 (by omega)
 case g9=>revert h3 i4 x5 x6 x7 x8 y9 y10 y11 y12 h14 h15 h16 h17 h18 h19 h21;intro n i x1 x2 x3 x4 y1 y2 y3 y4 e1 e2 k0 k1 k2 h4;intros;rw[e1]at h4 ⊢;exact(Ae7 hb.2 k0 h4).2
 case g10=>revert h3 i4 x5 x6 x7 x8 y9 y10 y11 y12 h14 h15 h16 h17 h18 h19 h21;intro n i x1 x2 x3 x4 y1 y2 y3 y4 e1 e2 k0 k1 k2 h4;intros;rw[e1]at h4 ⊢;have:=(Ae7 hb.2 k0 h4).1;omega
 case g11 =>
  rw[h14,h15]at h22
  refine congrArg AV.b (decide_eq_false fun k=>?_).symm
  subst k
  rcases h22 with h | h <;> exact h rfl
 case g12=>revert h3 i4 x5 x6 x7 x8 y9 y10 y11 y12 h14 h15 h16 h17 h18 h19 h22;intro n i x1 x2 x3 x4 y1 y2 y3 y4 e1 e2 k0 k1 k2 h4;intros;rw[e1]at h4;omega
 case g13 =>
  have:=LN h3
  rw[h14,h15]at h22
  rw[h14]at h19
  refine⟨h14,h15,by omega,by omega,fun j hj=>?_⟩
  by_cases e:j=i4.toNat
  ·rw[e]
   have z1:a.recs[i4.toNat]!.sku=b.recs[i4.toNat]!.sku:=Classical.byContradiction fun k=>h22 (.inl k)
   have z2:a.recs[i4.toNat]!.past=b.recs[i4.toNat]!.past:=Classical.byContradiction fun k=>h22 (.inr k)
   rw[← Ax1 a.recs[i4.toNat]!,← Ax1 b.recs[i4.toNat]!,z1,z2]
  ·exact h18 j (by omega)
 case g14 =>
  have hl:=LN h3
  rw[h14]at h19
  refine congrArg AV.b (decide_eq_true ?_).symm
  have z1:=Classical.not_not.1 fun k=>h3 (.inl k)
  have z2:=Classical.not_not.1 fun k=>h3 (.inr (.inl k))
  have z3:a.recs=b.recs:=U7 hl fun j hj=>h18 j (by omega)
  obtain⟨p,q,r⟩:=a
  obtain⟨p',q',r'⟩:=b
  simp only at z1 z2 z3
  rw[z1,z2,z3]
theorem con13 :Con Tryz.prog 13 [] (.b true) :=
 by
 refine sC B3 [.tmp 0] 43 Tryz.func13 ?_
 intro e0 cx
 refine sq<|rG cx [] [] z0<|sn<|sq<|rG cx [1] [8] z0<|sn<|sq<|rG cx [2,3] [2] (fP (Con Tryz.prog (15:Nat) [AV.sl (List.map c46 [{ dot:={ rep:=(0:Int),num:=(1:Int):Dot },sku:={ data:=#[(65:UInt8)]:ByteArray },qty:=(5:Int):Entry },{ dot:={ rep:=(1:Int),num:=(2:Int):Dot },sku:={ data:=#[(65:UInt8)]:ByteArray },qty:=(7:Int):Entry }]),AV.agg [AV.sl (List.map c3 [(3:Int),(3:Int)]),AV.nl],AV.i .i64 (0:Int),AV.agg [AV.i .i64 (2:Int),AV.i .i64 (4:Int)],AV.agg [AV.i .i64 (1:Int),AV.s { data:=#[(65:UInt8)]:ByteArray },AV.i .i64 (9:Int),AV.nl,AV.nl]] (AV.tup [AV.agg [AV.sl (List.map c46 (B7 { live:=[{ dot:={ rep:=(0:Int),num:=(1:Int):Dot },sku:={ data:=#[(65:UInt8)]:ByteArray },qty:=(5:Int):Entry },{ dot:={ rep:=(1:Int),num:=(2:Int):Dot },sku:={ data:=#[(65:UInt8)]:ByteArray },qty:=(7:Int):Entry }],seen:={ vec:=[(3:Int),(3:Int)],cloud:=[]:Past },rep:=(0:Int),lim:={ lines:=(2:Int),count:=(4:Int):Limits },act:={ kind:=(1:Int),sku:={ data:=#[(65:UInt8)]:ByteArray },qty:=(9:Int),past:={ vec:=[],cloud:=[]:Past }:Actn }:Wish }).1.adds),AV.sl (List.map c3 (B7 { live:=[{ dot:={ rep:=(0:Int),num:=(1:Int):Dot },sku:={ data:=#[(65:UInt8)]:ByteArray },qty:=(5:Int):Entry },{ dot:={ rep:=(1:Int),num:=(2:Int):Dot },sku:={ data:=#[(65:UInt8)]:ByteArray },qty:=(7:Int):Entry }],seen:={ vec:=[(3:Int),(3:Int)],cloud:=[]:Past },rep:=(0:Int),lim:={ lines:=(2:Int),count:=(4:Int):Limits },act:={ kind:=(1:Int),sku:={ data:=#[(65:UInt8)]:ByteArray },qty:=(9:Int),past:={ vec:=[],cloud:=[]:Past }:Actn }:Wish }).1.gone.vec),AV.sl (List.map B1 (B7 { live:=[{ dot:={ rep:=(0:Int),num:=(1:Int):Dot },sku:={ data:=#[(65:UInt8)]:ByteArray },qty:=(5:Int):Entry },{ dot:={ rep:=(1:Int),num:=(2:Int):Dot },sku:={ data:=#[(65:UInt8)]:ByteArray },qty:=(7:Int):Entry }],seen:={ vec:=[(3:Int),(3:Int)],cloud:=[]:Past },rep:=(0:Int),lim:={ lines:=(2:Int),count:=(4:Int):Limits },act:={ kind:=(1:Int),sku:={ data:=#[(65:UInt8)]:ByteArray },qty:=(9:Int),past:={ vec:=[],cloud:=[]:Past }:Actn }:Wish }).1.gone.cloud),AV.sl (List.map c54 (B7 { live:=[{ dot:={ rep:=(0:Int),num:=(1:Int):Dot },sku:={ data:=#[(65:UInt8)]:ByteArray },qty:=(5:Int):Entry },{ dot:={ rep:=(1:Int),num:=(2:Int):Dot },sku:={ data:=#[(65:UInt8)]:ByteArray },qty:=(7:Int):Entry }],seen:={ vec:=[(3:Int),(3:Int)],cloud:=[]:Past },rep:=(0:Int),lim:={ lines:=(2:Int),count:=(4:Int):Limits },act:={ kind:=(1:Int),sku:={ data:=#[(65:UInt8)]:ByteArray },qty:=(9:Int),past:={ vec:=[],cloud:=[]:Past }:Actn }:Wish }).1.recs)],AV.i .i64 (0:Int)])) (Con.le (cast (by kernel_rfl) (Aw5 ([{ dot:={ rep:=(0:Int),num:=(1:Int):Dot },sku:={ data:=#[(65:UInt8)]:ByteArray },qty:=(5:Int):Entry },{ dot:={ rep:=(1:Int),num:=(2:Int):Dot },sku:={ data:=#[(65:UInt8)]:ByteArray },qty:=(7:Int):Entry }]) ({ vec:=[(3:Int),(3:Int)],cloud:=[]:Past }) ((0:Int)) ({ lines:=(2:Int),count:=(4:Int):Limits }) ({ kind:=(1:Int),sku:={ data:=#[(65:UInt8)]:ByteArray },qty:=(9:Int),past:={ vec:=[],cloud:=[]:Past }:Actn }) (by(simp only [List.length_append,List.length_cons,List.length_nil];omega)) ?g0 ?g1):Con Tryz.prog (15:FuncId) [AV.sl (List.map c46 [{ dot:={ rep:=(0:Int),num:=(1:Int):Dot },sku:={ data:=#[(65:UInt8)]:ByteArray },qty:=(5:Int):Entry },{ dot:={ rep:=(1:Int),num:=(2:Int):Dot },sku:={ data:=#[(65:UInt8)]:ByteArray },qty:=(7:Int):Entry }]),AV.agg (c26 { vec:=[(3:Int),(3:Int)],cloud:=[]:Past }),AV.i .i64 (0:Int),AV.agg (c28 { lines:=(2:Int),count:=(4:Int):Limits }),AV.agg (c30 { kind:=(1:Int),sku:={ data:=#[(65:UInt8)]:ByteArray },qty:=(9:Int),past:={ vec:=[],cloud:=[]:Past }:Actn })] (AV.tup [AV.agg [AV.sl (List.map c46 (B7 { live:=[{ dot:={ rep:=(0:Int),num:=(1:Int):Dot },sku:={ data:=#[(65:UInt8)]:ByteArray },qty:=(5:Int):Entry },{ dot:={ rep:=(1:Int),num:=(2:Int):Dot },sku:={ data:=#[(65:UInt8)]:ByteArray },qty:=(7:Int):Entry }],seen:={ vec:=[(3:Int),(3:Int)],cloud:=[]:Past },rep:=(0:Int),lim:={ lines:=(2:Int),count:=(4:Int):Limits },act:={ kind:=(1:Int),sku:={ data:=#[(65:UInt8)]:ByteArray },qty:=(9:Int),past:={ vec:=[],cloud:=[]:Past }:Actn }:Wish }).1.adds),AV.sl (List.map c3 (B7 { live:=[{ dot:={ rep:=(0:Int),num:=(1:Int):Dot },sku:={ data:=#[(65:UInt8)]:ByteArray },qty:=(5:Int):Entry },{ dot:={ rep:=(1:Int),num:=(2:Int):Dot },sku:={ data:=#[(65:UInt8)]:ByteArray },qty:=(7:Int):Entry }],seen:={ vec:=[(3:Int),(3:Int)],cloud:=[]:Past },rep:=(0:Int),lim:={ lines:=(2:Int),count:=(4:Int):Limits },act:={ kind:=(1:Int),sku:={ data:=#[(65:UInt8)]:ByteArray },qty:=(9:Int),past:={ vec:=[],cloud:=[]:Past }:Actn }:Wish }).1.gone.vec),AV.sl (List.map B1 (B7 { live:=[{ dot:={ rep:=(0:Int),num:=(1:Int):Dot },sku:={ data:=#[(65:UInt8)]:ByteArray },qty:=(5:Int):Entry },{ dot:={ rep:=(1:Int),num:=(2:Int):Dot },sku:={ data:=#[(65:UInt8)]:ByteArray },qty:=(7:Int):Entry }],seen:={ vec:=[(3:Int),(3:Int)],cloud:=[]:Past },rep:=(0:Int),lim:={ lines:=(2:Int),count:=(4:Int):Limits },act:={ kind:=(1:Int),sku:={ data:=#[(65:UInt8)]:ByteArray },qty:=(9:Int),past:={ vec:=[],cloud:=[]:Past }:Actn }:Wish }).1.gone.cloud),AV.sl (List.map c54 (B7 { live:=[{ dot:={ rep:=(0:Int),num:=(1:Int):Dot },sku:={ data:=#[(65:UInt8)]:ByteArray },qty:=(5:Int):Entry },{ dot:={ rep:=(1:Int),num:=(2:Int):Dot },sku:={ data:=#[(65:UInt8)]:ByteArray },qty:=(7:Int):Entry }],seen:={ vec:=[(3:Int),(3:Int)],cloud:=[]:Past },rep:=(0:Int),lim:={ lines:=(2:Int),count:=(4:Int):Limits },act:={ kind:=(1:Int),sku:={ data:=#[(65:UInt8)]:ByteArray },qty:=(9:Int),past:={ vec:=[],cloud:=[]:Past }:Actn }:Wish }).1.recs)],AV.i .i64 (0:Int)])) (ZLe.cons (A7.refl _) (ZLe.cons (A7.agg (ZLe.cons (A7.refl _) (ZLe.cons A7.nl ZLe.nil))) (ZLe.cons (A7.refl _) (ZLe.cons (A7.refl _) (ZLe.cons (A7.agg (ZLe.cons (A7.refl _) (ZLe.cons (A7.refl _) (ZLe.cons (A7.refl _) (ZLe.cons A7.nl (ZLe.cons A7.nl ZLe.nil)))))) ZLe.nil)))))) (oA 5 (.tup [.agg [.sl (List.map c46 (B7 { live:=[{ dot:={ rep:=(0:Int),num:=(1:Int):Dot },sku:={ data:=#[(65:UInt8)]:ByteArray },qty:=(5:Int):Entry },{ dot:={ rep:=(1:Int),num:=(2:Int):Dot },sku:={ data:=#[(65:UInt8)]:ByteArray },qty:=(7:Int):Entry }],seen:={ vec:=[(3:Int),(3:Int)],cloud:=[]:Past },rep:=(0:Int),lim:={ lines:=(2:Int),count:=(4:Int):Limits },act:={ kind:=(1:Int),sku:={ data:=#[(65:UInt8)]:ByteArray },qty:=(9:Int),past:={ vec:=[],cloud:=[]:Past }:Actn }:Wish }).1.adds),.sl (List.map c3 (B7 { live:=[{ dot:={ rep:=(0:Int),num:=(1:Int):Dot },sku:={ data:=#[(65:UInt8)]:ByteArray },qty:=(5:Int):Entry },{ dot:={ rep:=(1:Int),num:=(2:Int):Dot },sku:={ data:=#[(65:UInt8)]:ByteArray },qty:=(7:Int):Entry }],seen:={ vec:=[(3:Int),(3:Int)],cloud:=[]:Past },rep:=(0:Int),lim:={ lines:=(2:Int),count:=(4:Int):Limits },act:={ kind:=(1:Int),sku:={ data:=#[(65:UInt8)]:ByteArray },qty:=(9:Int),past:={ vec:=[],cloud:=[]:Past }:Actn }:Wish }).1.gone.vec),.sl (List.map B1 (B7 { live:=[{ dot:={ rep:=(0:Int),num:=(1:Int):Dot },sku:={ data:=#[(65:UInt8)]:ByteArray },qty:=(5:Int):Entry },{ dot:={ rep:=(1:Int),num:=(2:Int):Dot },sku:={ data:=#[(65:UInt8)]:ByteArray },qty:=(7:Int):Entry }],seen:={ vec:=[(3:Int),(3:Int)],cloud:=[]:Past },rep:=(0:Int),lim:={ lines:=(2:Int),count:=(4:Int):Limits },act:={ kind:=(1:Int),sku:={ data:=#[(65:UInt8)]:ByteArray },qty:=(9:Int),past:={ vec:=[],cloud:=[]:Past }:Actn }:Wish }).1.gone.cloud),.sl (List.map c54 (B7 { live:=[{ dot:={ rep:=(0:Int),num:=(1:Int):Dot },sku:={ data:=#[(65:UInt8)]:ByteArray },qty:=(5:Int):Entry },{ dot:={ rep:=(1:Int),num:=(2:Int):Dot },sku:={ data:=#[(65:UInt8)]:ByteArray },qty:=(7:Int):Entry }],seen:={ vec:=[(3:Int),(3:Int)],cloud:=[]:Past },rep:=(0:Int),lim:={ lines:=(2:Int),count:=(4:Int):Limits },act:={ kind:=(1:Int),sku:={ data:=#[(65:UInt8)]:ByteArray },qty:=(9:Int),past:={ vec:=[],cloud:=[]:Past }:Actn }:Wish }).1.recs)],.i .i64 ((0:Int))]) z0)) ?_;rotate_left 2
 refine sn<|sq<|rG cx [0] [] (fO ((0:Int)≤(0:Int)) (fR (some (c46 { dot:=(T5 { live:=[{ dot:={ rep:=(0:Int),num:=(1:Int):Dot },sku:={ data:=#[(65:UInt8)]:ByteArray },qty:=(5:Int):Entry },{ dot:={ rep:=(1:Int),num:=(2:Int):Dot },sku:={ data:=#[(65:UInt8)]:ByteArray },qty:=(7:Int):Entry }],seen:={ vec:=[(3:Int),(3:Int)],cloud:=[]:Past },rep:=(0:Int),lim:={ lines:=(2:Int),count:=(4:Int):Limits },act:={ kind:=(1:Int),sku:={ data:=#[(65:UInt8)]:ByteArray },qty:=(9:Int),past:={ vec:=[],cloud:=[]:Past }:Actn }:Wish }.seen { live:=[{ dot:={ rep:=(0:Int),num:=(1:Int):Dot },sku:={ data:=#[(65:UInt8)]:ByteArray },qty:=(5:Int):Entry },{ dot:={ rep:=(1:Int),num:=(2:Int):Dot },sku:={ data:=#[(65:UInt8)]:ByteArray },qty:=(7:Int):Entry }],seen:={ vec:=[(3:Int),(3:Int)],cloud:=[]:Past },rep:=(0:Int),lim:={ lines:=(2:Int),count:=(4:Int):Limits },act:={ kind:=(1:Int),sku:={ data:=#[(65:UInt8)]:ByteArray },qty:=(9:Int),past:={ vec:=[],cloud:=[]:Past }:Actn }:Wish }.rep { live:=[{ dot:={ rep:=(0:Int),num:=(1:Int):Dot },sku:={ data:=#[(65:UInt8)]:ByteArray },qty:=(5:Int):Entry },{ dot:={ rep:=(1:Int),num:=(2:Int):Dot },sku:={ data:=#[(65:UInt8)]:ByteArray },qty:=(7:Int):Entry }],seen:={ vec:=[(3:Int),(3:Int)],cloud:=[]:Past },rep:=(0:Int),lim:={ lines:=(2:Int),count:=(4:Int):Limits },act:={ kind:=(1:Int),sku:={ data:=#[(65:UInt8)]:ByteArray },qty:=(9:Int),past:={ vec:=[],cloud:=[]:Past }:Actn }:Wish }.lim.count).1,sku:={ live:=[{ dot:={ rep:=(0:Int),num:=(1:Int):Dot },sku:={ data:=#[(65:UInt8)]:ByteArray },qty:=(5:Int):Entry },{ dot:={ rep:=(1:Int),num:=(2:Int):Dot },sku:={ data:=#[(65:UInt8)]:ByteArray },qty:=(7:Int):Entry }],seen:={ vec:=[(3:Int),(3:Int)],cloud:=[]:Past },rep:=(0:Int),lim:={ lines:=(2:Int),count:=(4:Int):Limits },act:={ kind:=(1:Int),sku:={ data:=#[(65:UInt8)]:ByteArray },qty:=(9:Int),past:={ vec:=[],cloud:=[]:Past }:Actn }:Wish }.act.sku,qty:={ live:=[{ dot:={ rep:=(0:Int),num:=(1:Int):Dot },sku:={ data:=#[(65:UInt8)]:ByteArray },qty:=(5:Int):Entry },{ dot:={ rep:=(1:Int),num:=(2:Int):Dot },sku:={ data:=#[(65:UInt8)]:ByteArray },qty:=(7:Int):Entry }],seen:={ vec:=[(3:Int),(3:Int)],cloud:=[]:Past },rep:=(0:Int),lim:={ lines:=(2:Int),count:=(4:Int):Limits },act:={ kind:=(1:Int),sku:={ data:=#[(65:UInt8)]:ByteArray },qty:=(9:Int),past:={ vec:=[],cloud:=[]:Past }:Actn }:Wish }.act.qty:Entry })) (fR 4 (fO ((0:Int)≤(0:Int)) (fR (some (c46 { dot:=(T5 { live:=[{ dot:={ rep:=(0:Int),num:=(1:Int):Dot },sku:={ data:=#[(65:UInt8)]:ByteArray },qty:=(5:Int):Entry },{ dot:={ rep:=(1:Int),num:=(2:Int):Dot },sku:={ data:=#[(65:UInt8)]:ByteArray },qty:=(7:Int):Entry }],seen:={ vec:=[(3:Int),(3:Int)],cloud:=[]:Past },rep:=(0:Int),lim:={ lines:=(2:Int),count:=(4:Int):Limits },act:={ kind:=(1:Int),sku:={ data:=#[(65:UInt8)]:ByteArray },qty:=(9:Int),past:={ vec:=[],cloud:=[]:Past }:Actn }:Wish }.seen { live:=[{ dot:={ rep:=(0:Int),num:=(1:Int):Dot },sku:={ data:=#[(65:UInt8)]:ByteArray },qty:=(5:Int):Entry },{ dot:={ rep:=(1:Int),num:=(2:Int):Dot },sku:={ data:=#[(65:UInt8)]:ByteArray },qty:=(7:Int):Entry }],seen:={ vec:=[(3:Int),(3:Int)],cloud:=[]:Past },rep:=(0:Int),lim:={ lines:=(2:Int),count:=(4:Int):Limits },act:={ kind:=(1:Int),sku:={ data:=#[(65:UInt8)]:ByteArray },qty:=(9:Int),past:={ vec:=[],cloud:=[]:Past }:Actn }:Wish }.rep { live:=[{ dot:={ rep:=(0:Int),num:=(1:Int):Dot },sku:={ data:=#[(65:UInt8)]:ByteArray },qty:=(5:Int):Entry },{ dot:={ rep:=(1:Int),num:=(2:Int):Dot },sku:={ data:=#[(65:UInt8)]:ByteArray },qty:=(7:Int):Entry }],seen:={ vec:=[(3:Int),(3:Int)],cloud:=[]:Past },rep:=(0:Int),lim:={ lines:=(2:Int),count:=(4:Int):Limits },act:={ kind:=(1:Int),sku:={ data:=#[(65:UInt8)]:ByteArray },qty:=(9:Int),past:={ vec:=[],cloud:=[]:Past }:Actn }:Wish }.lim.count).1,sku:={ live:=[{ dot:={ rep:=(0:Int),num:=(1:Int):Dot },sku:={ data:=#[(65:UInt8)]:ByteArray },qty:=(5:Int):Entry },{ dot:={ rep:=(1:Int),num:=(2:Int):Dot },sku:={ data:=#[(65:UInt8)]:ByteArray },qty:=(7:Int):Entry }],seen:={ vec:=[(3:Int),(3:Int)],cloud:=[]:Past },rep:=(0:Int),lim:={ lines:=(2:Int),count:=(4:Int):Limits },act:={ kind:=(1:Int),sku:={ data:=#[(65:UInt8)]:ByteArray },qty:=(9:Int),past:={ vec:=[],cloud:=[]:Past }:Actn }:Wish }.act.sku,qty:={ live:=[{ dot:={ rep:=(0:Int),num:=(1:Int):Dot },sku:={ data:=#[(65:UInt8)]:ByteArray },qty:=(5:Int):Entry },{ dot:={ rep:=(1:Int),num:=(2:Int):Dot },sku:={ data:=#[(65:UInt8)]:ByteArray },qty:=(7:Int):Entry }],seen:={ vec:=[(3:Int),(3:Int)],cloud:=[]:Past },rep:=(0:Int),lim:={ lines:=(2:Int),count:=(4:Int):Limits },act:={ kind:=(1:Int),sku:={ data:=#[(65:UInt8)]:ByteArray },qty:=(9:Int),past:={ vec:=[],cloud:=[]:Past }:Actn }:Wish }.act.qty:Entry })) (fR 4 (oR 11 (c46 { dot:=(T5 { live:=[{ dot:={ rep:=(0:Int),num:=(1:Int):Dot },sku:={ data:=#[(65:UInt8)]:ByteArray },qty:=(5:Int):Entry },{ dot:={ rep:=(1:Int),num:=(2:Int):Dot },sku:={ data:=#[(65:UInt8)]:ByteArray },qty:=(7:Int):Entry }],seen:={ vec:=[(3:Int),(3:Int)],cloud:=[]:Past },rep:=(0:Int),lim:={ lines:=(2:Int),count:=(4:Int):Limits },act:={ kind:=(1:Int),sku:={ data:=#[(65:UInt8)]:ByteArray },qty:=(9:Int),past:={ vec:=[],cloud:=[]:Past }:Actn }:Wish }.seen { live:=[{ dot:={ rep:=(0:Int),num:=(1:Int):Dot },sku:={ data:=#[(65:UInt8)]:ByteArray },qty:=(5:Int):Entry },{ dot:={ rep:=(1:Int),num:=(2:Int):Dot },sku:={ data:=#[(65:UInt8)]:ByteArray },qty:=(7:Int):Entry }],seen:={ vec:=[(3:Int),(3:Int)],cloud:=[]:Past },rep:=(0:Int),lim:={ lines:=(2:Int),count:=(4:Int):Limits },act:={ kind:=(1:Int),sku:={ data:=#[(65:UInt8)]:ByteArray },qty:=(9:Int),past:={ vec:=[],cloud:=[]:Past }:Actn }:Wish }.rep { live:=[{ dot:={ rep:=(0:Int),num:=(1:Int):Dot },sku:={ data:=#[(65:UInt8)]:ByteArray },qty:=(5:Int):Entry },{ dot:={ rep:=(1:Int),num:=(2:Int):Dot },sku:={ data:=#[(65:UInt8)]:ByteArray },qty:=(7:Int):Entry }],seen:={ vec:=[(3:Int),(3:Int)],cloud:=[]:Past },rep:=(0:Int),lim:={ lines:=(2:Int),count:=(4:Int):Limits },act:={ kind:=(1:Int),sku:={ data:=#[(65:UInt8)]:ByteArray },qty:=(9:Int),past:={ vec:=[],cloud:=[]:Past }:Actn }:Wish }.lim.count).1,sku:={ live:=[{ dot:={ rep:=(0:Int),num:=(1:Int):Dot },sku:={ data:=#[(65:UInt8)]:ByteArray },qty:=(5:Int):Entry },{ dot:={ rep:=(1:Int),num:=(2:Int):Dot },sku:={ data:=#[(65:UInt8)]:ByteArray },qty:=(7:Int):Entry }],seen:={ vec:=[(3:Int),(3:Int)],cloud:=[]:Past },rep:=(0:Int),lim:={ lines:=(2:Int),count:=(4:Int):Limits },act:={ kind:=(1:Int),sku:={ data:=#[(65:UInt8)]:ByteArray },qty:=(9:Int),past:={ vec:=[],cloud:=[]:Past }:Actn }:Wish }.act.sku,qty:={ live:=[{ dot:={ rep:=(0:Int),num:=(1:Int):Dot },sku:={ data:=#[(65:UInt8)]:ByteArray },qty:=(5:Int):Entry },{ dot:={ rep:=(1:Int),num:=(2:Int):Dot },sku:={ data:=#[(65:UInt8)]:ByteArray },qty:=(7:Int):Entry }],seen:={ vec:=[(3:Int),(3:Int)],cloud:=[]:Past },rep:=(0:Int),lim:={ lines:=(2:Int),count:=(4:Int):Limits },act:={ kind:=(1:Int),sku:={ data:=#[(65:UInt8)]:ByteArray },qty:=(9:Int),past:={ vec:=[],cloud:=[]:Past }:Actn }:Wish }.act.qty:Entry }) (oR 19 (c46 { dot:=(T5 { live:=[{ dot:={ rep:=(0:Int),num:=(1:Int):Dot },sku:={ data:=#[(65:UInt8)]:ByteArray },qty:=(5:Int):Entry },{ dot:={ rep:=(1:Int),num:=(2:Int):Dot },sku:={ data:=#[(65:UInt8)]:ByteArray },qty:=(7:Int):Entry }],seen:={ vec:=[(3:Int),(3:Int)],cloud:=[]:Past },rep:=(0:Int),lim:={ lines:=(2:Int),count:=(4:Int):Limits },act:={ kind:=(1:Int),sku:={ data:=#[(65:UInt8)]:ByteArray },qty:=(9:Int),past:={ vec:=[],cloud:=[]:Past }:Actn }:Wish }.seen { live:=[{ dot:={ rep:=(0:Int),num:=(1:Int):Dot },sku:={ data:=#[(65:UInt8)]:ByteArray },qty:=(5:Int):Entry },{ dot:={ rep:=(1:Int),num:=(2:Int):Dot },sku:={ data:=#[(65:UInt8)]:ByteArray },qty:=(7:Int):Entry }],seen:={ vec:=[(3:Int),(3:Int)],cloud:=[]:Past },rep:=(0:Int),lim:={ lines:=(2:Int),count:=(4:Int):Limits },act:={ kind:=(1:Int),sku:={ data:=#[(65:UInt8)]:ByteArray },qty:=(9:Int),past:={ vec:=[],cloud:=[]:Past }:Actn }:Wish }.rep { live:=[{ dot:={ rep:=(0:Int),num:=(1:Int):Dot },sku:={ data:=#[(65:UInt8)]:ByteArray },qty:=(5:Int):Entry },{ dot:={ rep:=(1:Int),num:=(2:Int):Dot },sku:={ data:=#[(65:UInt8)]:ByteArray },qty:=(7:Int):Entry }],seen:={ vec:=[(3:Int),(3:Int)],cloud:=[]:Past },rep:=(0:Int),lim:={ lines:=(2:Int),count:=(4:Int):Limits },act:={ kind:=(1:Int),sku:={ data:=#[(65:UInt8)]:ByteArray },qty:=(9:Int),past:={ vec:=[],cloud:=[]:Past }:Actn }:Wish }.lim.count).1,sku:={ live:=[{ dot:={ rep:=(0:Int),num:=(1:Int):Dot },sku:={ data:=#[(65:UInt8)]:ByteArray },qty:=(5:Int):Entry },{ dot:={ rep:=(1:Int),num:=(2:Int):Dot },sku:={ data:=#[(65:UInt8)]:ByteArray },qty:=(7:Int):Entry }],seen:={ vec:=[(3:Int),(3:Int)],cloud:=[]:Past },rep:=(0:Int),lim:={ lines:=(2:Int),count:=(4:Int):Limits },act:={ kind:=(1:Int),sku:={ data:=#[(65:UInt8)]:ByteArray },qty:=(9:Int),past:={ vec:=[],cloud:=[]:Past }:Actn }:Wish }.act.sku,qty:={ live:=[{ dot:={ rep:=(0:Int),num:=(1:Int):Dot },sku:={ data:=#[(65:UInt8)]:ByteArray },qty:=(5:Int):Entry },{ dot:={ rep:=(1:Int),num:=(2:Int):Dot },sku:={ data:=#[(65:UInt8)]:ByteArray },qty:=(7:Int):Entry }],seen:={ vec:=[(3:Int),(3:Int)],cloud:=[]:Past },rep:=(0:Int),lim:={ lines:=(2:Int),count:=(4:Int):Limits },act:={ kind:=(1:Int),sku:={ data:=#[(65:UInt8)]:ByteArray },qty:=(9:Int),past:={ vec:=[],cloud:=[]:Past }:Actn }:Wish }.act.qty:Entry }) z0)))))))) ?_
 refine sn<|rT ?_
 exact Y2 (r:=.b (true)) (obl:=[]) (by kernel_rfl) trivial (A7.refl _)
 case g0=>exact⟨by decide,by decide⟩
 case g1=>exact⟨by decide,by decide⟩
end Go.Proofs.YtphcaholhacnpaaGreat
namespace Go.Proofs.YtphcaholhacnpaaGreat
open Go.E
set_option maxRecDepth 100000
set_option maxHeartbeats 4000000
theorem A3i{p:Past}{d:Dot}:G7 p d=true↔J4 d=true∧inR (A3 [p] d.rep.toNat) d.num:=by
 rw[← O6 p d]
 exact P2 _ d
theorem B3x{r n:Int}(h:¬(r < 0∨16≤r))(h1:1≤n)(h2:n≤1000000000):J4 ⟨r,n⟩=true:=by
 unfold J4
 rw[decide_eq_true_iff]
 simp only
 omega
theorem Ax2{p:Past}{r:Int}(h:¬(r < 0∨16≤r)){n:Int}(hn:F0 p r < n):¬ G7 p ⟨r,n⟩=true:=by
 intro k
 have k1:=A3i.1 k
 have k2:=k1.1
 unfold J4 at k2
 rw[decide_eq_true_iff]at k2
 simp only at k2
 unfold F0 at hn
 rw[if_neg h]at hn
 rcases U8 (A3 [p] r.toNat)with⟨_,a⟩ | ⟨_,_,_,a⟩
 ·exact a n (by omega) (by omega) k1.2
 ·have:=a n (by omega) (by omega) k1.2
  omega
def shpD(w:Wish)(f:Facts):Prop:=f=default∨(∃ es,f=⟨[],(C8 es).1,[]⟩) ∨
 (∃ s,(s=E3∨F5 s=true)∧¬ C5 w.act.past=0∧f=⟨[],⟨[],[]⟩,[⟨s,A5 w.act.past⟩]⟩) ∨
 (∃ q old,F5 w.act.sku=true∧1≤q∧q≤1000000∧¬(w.rep < 0∨16≤w.rep)∧F0 w.seen w.rep < 1000000000∧(∀ d,G7 (C8 old).1 d=true→G7 w.seen d=true)∧f=⟨[⟨⟨w.rep,F0 w.seen w.rep+1⟩,w.act.sku,q⟩],(C8 old).1,[]⟩)
theorem A1d{w:Wish}{f:Facts}(h:shpD w f):szF f∧f.recs.length≤1:=by
 have hd:=fun es=>Aw0 es
 have hn:szP ⟨[],[]⟩:=⟨by decide,by decide⟩
 have hdz:∀ es,szP (C8 es).1:=fun es=>by have:=hd es;exact⟨by omega,by omega⟩
 have hq0:szQ []:=fun r hr=>by cases hr
 rcases h with rfl | ⟨es,rfl⟩ | ⟨s,hs,hz,rfl⟩ | ⟨q,old,_,_,_,_,_,_,rfl⟩
 ·exact⟨⟨hn,hq0⟩,by decide⟩
 ·exact⟨⟨hdz es,hq0⟩,Nat.zero_le _⟩
 ·refine⟨⟨hn,fun r hr=>?_⟩,Nat.le_refl _⟩
  rw[List.mem_singleton.1 hr]
  have:=A0a (A3 [w.act.past])
  exact⟨by show(H9 (A3 [w.act.past])).cloud.length*16≤_;omega,by show(H9 (A3 [w.act.past])).vec.length≤_;omega⟩
 ·exact⟨⟨hdz old,hq0⟩,Nat.zero_le _⟩
theorem B2h{live:List Entry}{s:ByteArray}{r:Int}(h:C3 live=0):A0o (live.filter (Aw6 s r))≤A0o (live.filter (Aw6 s (-1))):=by
 have hq:∀ e∈live,1≤e.qty:=fun e he=>(A9r (A3e h e he)).1
 clear h
 induction live with
 | nil=>exact Int.le_refl _
 | cons e l ih =>
  have ih:=ih fun x hx=>hq x (List.mem_cons_of_mem _ hx)
  have:=hq e (by simp)
  have k:Aw6 s r e=true→Aw6 s (-1) e=true:=fun c=>by
   unfold Aw6 at c ⊢
   rw[decide_eq_true_iff]at c ⊢
   exact⟨c.1,.inl (by omega)⟩
  rw[List.filter_cons,List.filter_cons]
  by_cases a:Aw6 s r e=true
  ·rw[if_pos a,if_pos (k a)];simp only [A0o];omega
  ·rw[if_neg a]
   by_cases b:Aw6 s (-1) e=true
   ·rw[if_pos b];simp only [A0o];omega
   ·rw[if_neg b];exact ih
theorem Ax3{w:Wish}{q:Int}{old:List Entry}(h3:¬(w.rep < 0∨16≤w.rep))(hn:w.seen=A5 w.seen)(g:F5 w.act.sku=true)(h1:1≤q)(h2:q≤1000000)(hd:∀ d,G7 (C8 old).1 d=true→G7 w.seen d=true):shpD w (J9 w q old).1:=by
 have e:T5 w.seen w.rep w.lim.count=H8 w.seen w.rep w.lim.count:=by unfold T5;rw[if_neg fun k=>k hn]
 by_cases c:min w.lim.count 1000000000≤F0 w.seen w.rep
 ·have e2:H8 w.seen w.rep w.lim.count=(default,9):=by unfold H8;rw[if_neg h3,if_pos c]
  unfold J9
  rw[e,e2,if_pos (by decide)]
  exact .inl rfl
 ·have e2:H8 w.seen w.rep w.lim.count=(⟨w.rep,F0 w.seen w.rep+1⟩,0):=by unfold H8;rw[if_neg h3,if_neg c]
  unfold J9
  rw[e,e2,if_neg (by simp)]
  have:=A5z w.seen w.rep
  by_cases z:F0 w.seen w.rep < 1000000000
  ·exact .inr (.inr (.inr ⟨q,old,g,h1,h2,h3,z,hd,rfl⟩))
  ·omega
theorem Ax4{live:List Entry}{seen:Past}(h:C3 live=0)(hn:seen=A5 seen)(hs:¬ 0 <((E5 live seen false).1.length:Int))(p:Entry→Bool):∀ d,G7 (C8 (live.filter p)).1 d=true→G7 seen d=true:=fun d k=>by
 rw[A1r (A6f h p)]at k
 obtain⟨e,he,_,rfl⟩:=(A6d h).1 k
 have z:=(A0v _).1 ((Aw7 h hn).2 hs) e.dot
 rw[A9f]at z
 have h4:G7 (dotS live E3 (-1)) e.dot=true:=(A6d h).2 ⟨e,he,by unfold selB;simp,rfl⟩
 rw[h4]at z
 cases c:G7 seen e.dot with
 | true=>rfl
 | false=>rw[c]at z;cases z
theorem Ax5{w:Wish}{s:ByteArray}(hs:s=E3∨F5 s=true):shpD w (G5 s w.act.past):=by
 unfold G5
 by_cases c:C5 w.act.past=0
 ·rw[if_pos c];exact .inl rfl
 ·rw[if_neg c];exact .inr (.inr (.inl ⟨s,hs,c,rfl⟩))
theorem V1(w:Wish):shpD w (B7 w).1:=by
 by_cases h1:¬ C3 w.live=0∨¬ w.seen=A5 w.seen
 ·rw[C1 h1];exact .inl rfl
 by_cases h2:0 <((E5 w.live w.seen false).1.length:Int)
 ·rw[C2 h1 h2];exact .inl rfl
 by_cases h3:w.rep < 0∨16≤w.rep
 ·rw[D2 h1 h2 h3];exact .inl rfl
 by_cases h4:w.lim.lines < 1∨1000 < w.lim.lines∨w.lim.count < 1∨1000000000 < w.lim.count
 ·rw[D3 h1 h2 h3 h4];exact .inl rfl
 by_cases h5:¬ J5 w.act=0
 ·rw[D7 h1 h2 h3 h4 h5];exact .inl rfl
 rw[G9 h1 h2 h3 h4 h5]
 have hl:=Classical.not_not.1 fun k=>h1 (.inl k)
 have hn:=Classical.not_not.1 fun k=>h1 (.inr k)
 have hd:=Ax4 hl hn h2
 rcases Af9 (Classical.not_not.1 h5)with k | k | k | k | k | k
 ·have g:=A6e h5 (by omega)
  have q:=B3v h5 (.inl k)
  rw[B24 k]
  unfold S8
  by_cases c:A11 w=true
  ·rw[if_pos c];exact .inl rfl
  ·rw[if_neg c,B3w hl g];exact Ax3 h3 hn g q.1 q.2 (hd _)
 ·have g:=A6e h5 (by omega)
  have q:=B3v h5 (.inr k)
  rw[B5x k]
  unfold N6
  by_cases c:A11 w=true
  ·rw[if_pos c];exact .inl rfl
  ·rw[if_neg c]
   by_cases c2:1000000 <(P4 (ofV w.live w.act.sku).1).1+w.act.qty
   ·rw[if_pos c2];exact .inl rfl
   ·rw[if_neg c2]
    have z:=A0j (I1 w.live w.rep w.act.sku).1
    have y:(P4 (I1 w.live w.rep w.act.sku).1).1≤(P4 (ofV w.live w.act.sku).1).1:=by
     rw[Aw8 hl g h3,B3w hl g,A3g (A6f hl _),A3g (A6f hl _)]
     exact B2h hl
    rw[Aw8 hl g h3]at z y ⊢
    exact Ax3 h3 hn g (by omega) (by omega) (hd _)
 ·rw[B5y k]
  unfold T3
  by_cases c:((ofV w.live w.act.sku).1.length:Int)=0
  ·rw[if_pos c];exact .inl rfl
  ·rw[if_neg c];exact .inr (.inl ⟨_,rfl⟩)
 ·rw[B25 k];exact Ax5 (.inr (A6e h5 (by omega)))
 ·rw[B26 k];exact .inr (.inl ⟨_,rfl⟩)
 ·rw[B27 k];exact Ax5 (.inl rfl)
end Go.Proofs.YtphcaholhacnpaaGreat
namespace Go.Proofs.YtphcaholhacnpaaGreat
open Go.E
set_option maxRecDepth 100000
set_option maxHeartbeats 4000000
def A13(r:Nat)(lo n:Int):List Dot:=(List.range n.toNat).map fun k:Nat=>⟨(r:Int),lo+(k:Int)⟩
def Y9(r:Nat)(l:List Run):List Dot:=l.flatMap fun x=>A13 r x.lo (x.hi-x.lo+1)
def V2(U:Nat→List Run):Nat→List Dot
 | 0=>[]
 | n+1=>V2 U n++Y9 n (U n)
def N7(p:Past):List Dot:=V2 (B5 (A3 [p])) 16
theorem Ag0(p:Past):∃ x:List Dot×Bool,x=if((N7 p).length:Int)≤300 then(N7 p,true)else((N7 p).take 300,false):=⟨_,rfl⟩
noncomputable def B9(p:Past):List Dot×Bool:=Classical.choose (Ag0 p)
theorem Ag1(p:Past):B9 p=if((N7 p).length:Int)≤300 then(N7 p,true)else((N7 p).take 300,false):=Classical.choose_spec (Ag0 p)
def B6k(U:Nat→List Run)(r:Int)(l:List Dot):Prop:=l=V2 U r.toNat
def B6l(U:Nat→List Run)(r k:Int)(l:List Dot):Prop:=l=V2 U r.toNat++Y9 r.toNat ((U r.toNat).take (k / 2).toNat)
def B63(U:Nat→List Run)(r k n:Int)(l:List Dot):Prop:=l=V2 U r.toNat++Y9 r.toNat ((U r.toNat).take (k / 2).toNat)++A13 r.toNat (U r.toNat)[(k / 2).toNat]!.lo (n-(U r.toNat)[(k / 2).toNat]!.lo)
def B64(U:Nat→List Run)(r:Int)(S:Nat→List Int)(l:List Dot):Prop:=S=tnS U∧0≤r∧r≤16∧B6k U r l∧(l.length:Int)≤300
def decDa(r:Int)(S:Nat→List Int)(l:List Dot):Nat:=(16-r).toNat
def B65(U:Nat→List Run)(r k:Int)(S:Nat→List Int)(l:List Dot):Prop:=S=tnS U∧0≤k∧k≤2*(U r.toNat).length∧2*(k / 2)=k∧B6l U r k l∧(l.length:Int)≤300
def decDb(U:Nat→List Run)(r k:Int)(S:Nat→List Int)(l:List Dot):Nat:=(2*(U r.toNat).length-k).toNat
def B66(U:Nat→List Run)(r k n:Int)(S:Nat→List Int)(l:List Dot):Prop:=S=tnS U∧(U r.toNat)[(k / 2).toNat]!.lo≤n∧n≤(U r.toNat)[(k / 2).toNat]!.hi+1∧B63 U r k n l∧(l.length:Int)≤300
def decDc(U:Nat→List Run)(r k n:Int)(S:Nat→List Int)(l:List Dot):Nat:=((U r.toNat)[(k / 2).toNat]!.hi+1-n).toNat
theorem A0k{r:Nat}{lo n:Int}(h:0≤n):A13 r lo (n+1)=A13 r lo n++[⟨r,lo+n⟩]:=by
 unfold A13
 rw[show(n+1).toNat=n.toNat+1 by omega,List.range_succ,List.map_append]
 rw[List.map_cons,List.map_nil,show((n.toNat:Nat):Int)=n by omega]
theorem Ax6(r:Nat)(lo:Int):A13 r lo 0=[]:=rfl
theorem Ag2{r:Nat}{lo:Int}:∀(k:Nat) (n:Int),0≤n→∃ rest,A13 r lo (n+k)=A13 r lo n++rest
 | 0,n,_=>⟨[],by rw[List.append_nil,show n+((0:Nat):Int)=n by omega]⟩
 | k+1,n,h=>by
  obtain⟨rest,e⟩:=Ag2 (r:=r) (lo:=lo) k n h
  refine⟨rest++[⟨r,lo+(n+k)⟩],?_⟩
  rw[show n+((k+1:Nat):Int)=(n+k)+1 by omega,A0k (by omega),e,List.append_assoc]
theorem A3j{r:Nat}{l:List Run}{j:Nat}(h:j < l.length):Y9 r (l.take (j+1))=Y9 r (l.take j)++A13 r l[j]!.lo (l[j]!.hi-l[j]!.lo+1):=by
 unfold Y9
 rw[List.take_add_one,List.flatMap_append,List.getElem?_eq_getElem h,getElem!_pos l j h]
 simp
theorem Ag3{r:Nat}{l:List Run}:∀ k j:Nat,j+k≤l.length→∃ rest,Y9 r (l.take (j+k))=Y9 r (l.take j)++rest
 | 0,j,_=>⟨[],by simp⟩
 | k+1,j,h=>by
  obtain⟨rest,e⟩:=Ag3 (r:=r) (l:=l) k j (by omega)
  exact⟨rest++_,by rw[← Nat.add_assoc,A3j (by omega),e,List.append_assoc]⟩
theorem Ag4(U:Nat→List Run):∀ k n:Nat,∃ rest,V2 U (n+k)=V2 U n++rest
 | 0,n=>⟨[],by simp⟩
 | k+1,n=>by
  obtain⟨rest,e⟩:=Ag4 U k n
  exact⟨rest++_,by rw[← Nat.add_assoc,V2,e,List.append_assoc]⟩
theorem B3y{U:Nat→List Run}{r k n:Int}{l:List Dot}(h0:0≤r)(h1:r < 16)(k0:0≤k)(k1:k+1 < 2*(U r.toNat).length)(ke:2*(k / 2)=k)(n0:(U r.toNat)[(k / 2).toNat]!.lo≤n)(n1:n <(U r.toNat)[(k / 2).toNat]!.hi+1)(h:B63 U r k n l):∃ x rest,V2 U 16=l++x :: rest:=by
 unfold B63 at h
 have hj:(k / 2).toNat <(U r.toNat).length:=by omega
 obtain⟨r1,e1⟩:=Ag4 U (16-(r.toNat+1)) (r.toNat+1)
 rw[show r.toNat+1+(16-(r.toNat+1))=16 by omega]at e1
 obtain⟨r2,e2⟩:=Ag3 (r:=r.toNat) (l:=U r.toNat) ((U r.toNat).length-((k / 2).toNat+1)) ((k / 2).toNat+1) (by omega)
 rw[show(k / 2).toNat+1+((U r.toNat).length-((k / 2).toNat+1))=(U r.toNat).length by omega,List.take_length,A3j hj]at e2
 generalize hx:(U r.toNat)[(k / 2).toNat]! = x at *
 obtain⟨r3,e3⟩:=Ag2 (r:=r.toNat) (lo:=x.lo) (x.hi-n).toNat (n-x.lo+1) (by omega)
 rw[show n-x.lo+1+((x.hi-n).toNat:Int)=x.hi-x.lo+1 by omega,A0k (n:=n-x.lo) (by omega)]at e3
 rw[e3]at e2
 refine⟨⟨(r.toNat:Nat),x.lo+(n-x.lo)⟩,r3++(r2++r1),?_⟩
 rw[e1,V2,e2,h]
 simp only [List.append_assoc,List.cons_append,List.nil_append]
theorem S9{U:Nat→List Run}{r k:Int}(k0:0≤k)(ke:2*(k / 2)=k)(h:k+1 < 2*(U r.toNat).length):(tnS U r.toNat)[k.toNat]! =(U r.toNat)[(k / 2).toNat]!.lo∧(tnS U r.toNat)[(k+1).toNat]! =(U r.toNat)[(k / 2).toNat]!.hi+1:=by
 have:=A1q (l:=U r.toNat) (j:=(k / 2).toNat) (by omega)
 unfold tnS
 rw[show k.toNat=2*(k / 2).toNat by omega,show(k+1).toNat=2*(k / 2).toNat+1 by omega]
 exact this
theorem con19(p:Past)(hb:p.cloud.length*16≤140737488350000):Con Tryz.prog 19 [.agg (c26 p),.i .i64 300] (.tup [.sl ((B9 p).1.map c44),.b (B9 p).2]) :=
 by
 have hl:∀ r,(B5 (A3 [p]) r).length≤500000000:=fun r=>W3 (E2 _)
 have hr:∀(r:Nat) (k:Int),0≤k→k+1 < 2*(B5 (A3 [p]) r).length→1≤(B5 (A3 [p]) r)[(k / 2).toNat]!.lo∧(B5 (A3 [p]) r)[(k / 2).toNat]!.lo≤(B5 (A3 [p]) r)[(k / 2).toNat]!.hi∧(B5 (A3 [p]) r)[(k / 2).toNat]!.hi≤1000000000 :=
  fun r k h0 h1=>(E2 _).2 _ (E1 (by have h2:k+1 < 2*(nrm (A3 [p] r)).length:=h1;omega))
 have ht:∀ r,(tnS (B5 (A3 [p])) r).length=2*(B5 (A3 [p]) r).length:=fun r=>A0b _
 have hP:N7 p=V2 (B5 (A3 [p])) 16:=rfl
 have hN:B9 p=if((N7 p).length:Int)≤300 then(N7 p,true)else((N7 p).take 300,false):=Ag1 p
 rw[hP]at hN
 clear hP
 refine sC B3 [.tmp 4,.tmp 5] 61 Tryz.func19 ?_
 intro e0 cx
 refine sq<|rG cx [1,2] [2] z0<|sn<|sq<|rG cx [1,2] [2] z0<|sn<|sq<|rG cx [1,6] [6] (fT (B1m (p) (by(with_reducible assumption))) (oA 1 (.agg (F9 c3 16 (tnS (B5 (A3 [p]))))) z0))<|sn<|sq<|rG cx [1,6,7] [6] z0<|sn<|sq<|sq<|rG cx [1,6,7,8] [6] z0<|sn<|bL 0<|G1 7 1007 44 2 (σ':=⟨[(1,.i .i64 ((300:Int))),(6,.ptr (6) (0) (0) (0)),(7,.own 1007 0),(8,.i .i64 ((0:Int)))],[(6,⟨0,144,.var [.sl (List.map c3 (tnS (B5 (A3 [p])) (0))),.sl (List.map c3 (tnS (B5 (A3 [p])) (1))),.sl (List.map c3 (tnS (B5 (A3 [p])) (2))),.sl (List.map c3 (tnS (B5 (A3 [p])) (3))),.sl (List.map c3 (tnS (B5 (A3 [p])) (4))),.sl (List.map c3 (tnS (B5 (A3 [p])) (5))),.sl (List.map c3 (tnS (B5 (A3 [p])) (6))),.sl (List.map c3 (tnS (B5 (A3 [p])) (7))),.sl (List.map c3 (tnS (B5 (A3 [p])) (8))),.sl (List.map c3 (tnS (B5 (A3 [p])) (9))),.sl (List.map c3 (tnS (B5 (A3 [p])) (10))),.sl (List.map c3 (tnS (B5 (A3 [p])) (11))),.sl (List.map c3 (tnS (B5 (A3 [p])) (12))),.sl (List.map c3 (tnS (B5 (A3 [p])) (13))),.sl (List.map c3 (tnS (B5 (A3 [p])) (14))),.sl (List.map c3 (tnS (B5 (A3 [p])) (15)))]⟩),(1007,⟨0,44,.row 2 (List.map c44 [])⟩)]⟩) (by kernel_rfl)<|I9 6 ⟨0,144,.var [.sl (List.map c3 (tnS (B5 (A3 [p])) (0))),.sl (List.map c3 (tnS (B5 (A3 [p])) (1))),.sl (List.map c3 (tnS (B5 (A3 [p])) (2))),.sl (List.map c3 (tnS (B5 (A3 [p])) (3))),.sl (List.map c3 (tnS (B5 (A3 [p])) (4))),.sl (List.map c3 (tnS (B5 (A3 [p])) (5))),.sl (List.map c3 (tnS (B5 (A3 [p])) (6))),.sl (List.map c3 (tnS (B5 (A3 [p])) (7))),.sl (List.map c3 (tnS (B5 (A3 [p])) (8))),.sl (List.map c3 (tnS (B5 (A3 [p])) (9))),.sl (List.map c3 (tnS (B5 (A3 [p])) (10))),.sl (List.map c3 (tnS (B5 (A3 [p])) (11))),.sl (List.map c3 (tnS (B5 (A3 [p])) (12))),.sl (List.map c3 (tnS (B5 (A3 [p])) (13))),.sl (List.map c3 (tnS (B5 (A3 [p])) (14))),.sl (List.map c3 (tnS (B5 (A3 [p])) (15)))]⟩ [.sl (List.map c3 (tnS (B5 (A3 [p])) (0))),.sl (List.map c3 (tnS (B5 (A3 [p])) (1))),.sl (List.map c3 (tnS (B5 (A3 [p])) (2))),.sl (List.map c3 (tnS (B5 (A3 [p])) (3))),.sl (List.map c3 (tnS (B5 (A3 [p])) (4))),.sl (List.map c3 (tnS (B5 (A3 [p])) (5))),.sl (List.map c3 (tnS (B5 (A3 [p])) (6))),.sl (List.map c3 (tnS (B5 (A3 [p])) (7))),.sl (List.map c3 (tnS (B5 (A3 [p])) (8))),.sl (List.map c3 (tnS (B5 (A3 [p])) (9))),.sl (List.map c3 (tnS (B5 (A3 [p])) (10))),.sl (List.map c3 (tnS (B5 (A3 [p])) (11))),.sl (List.map c3 (tnS (B5 (A3 [p])) (12))),.sl (List.map c3 (tnS (B5 (A3 [p])) (13))),.sl (List.map c3 (tnS (B5 (A3 [p])) (14))),.sl (List.map c3 (tnS (B5 (A3 [p])) (15)))] (F9 c3 16 (tnS (B5 (A3 [p])))) (σ':=⟨[(1,.i .i64 ((300:Int))),(6,.ptr (6) (0) (0) (0)),(7,.own 1007 0),(8,.i .i64 ((0:Int)))],[(6,⟨0,144,.arr (F9 c3 16 (tnS (B5 (A3 [p]))))⟩),(1007,⟨0,44,.row 2 (List.map c44 [])⟩)]⟩) (by kernel_rfl) (by kernel_rfl) (by kernel_rfl) (by kernel_rfl) (ZLe.of_eq (by kernel_rfl)) (by kernel_rfl) ?_
 refine sL (X:=Int×(Nat→List Int)×List Dot) (fun x=>⟨[(1,.i .i64 ((300:Int))),(6,.ptr (6) (0) (0) (0)),(7,.own 1007 0),(8,.i .i64 (x.1))],[(6,⟨0,144,.arr (F9 c3 16 x.2.1)⟩),(1007,⟨0,44,.row 2 (List.map c44 x.2.2)⟩)]⟩) (fun x ↦ decDa x.1 x.2.1 x.2.2) (fun x ↦ B64 (B5 (A3 [p])) x.1 x.2.1 x.2.2) [1,6,7,8] [6,1007] (((0:Int),tnS (B5 (A3 [p])),[])) (show B64 (B5 (A3 [p])) (0:Int) (tnS (B5 (A3 [p]))) []from ?g0) ?_;rotate_left
 rintro⟨r0,S1,l2⟩ h_3
 obtain⟨hh4,hh5,h6,h7,h8⟩:S1=tnS (B5 (A3 [p]))∧0≤r0∧r0≤16∧B6k (B5 (A3 [p])) r0 l2∧(↑l2.length:Int)≤300:=h_3
 refine sq<|rD cx [1,6,7,8,17] [6,1007] (zB 1 (r0 <(16:Int))) (fun h9=>?_) fun h9=>?_
 refine sK<|sn<|sq<|bL 1<|sq<|rG cx [1,6,7,8,9] [6,1007] z0<|sn<|bL 2<|sL (X:=Int×(Nat→List Int)×List Dot) (fun x=>⟨[(1,.i .i64 ((300:Int))),(6,.ptr (6) (0) (0) (0)),(7,.own 1007 0),(8,.i .i64 (r0)),(9,.i .i64 (x.1))],[(6,⟨0,144,.arr (F9 c3 16 x.2.1)⟩),(1007,⟨0,44,.row 2 (List.map c44 x.2.2)⟩)]⟩) (fun x ↦ decDb (B5 (A3 [p])) r0 x.1 x.2.1 x.2.2) (fun x ↦ B65 (B5 (A3 [p])) r0 x.1 x.2.1 x.2.2) [1,6,7,8,9] [6,1007] (((0:Int),S1,l2)) (show B65 (B5 (A3 [p])) r0 (0:Int) S1 l2 from ?g1) ?_;rotate_left
 rintro⟨k10,S11,l12⟩ h_13
 obtain⟨h14,h15,h16,h17,h18,h19⟩:S11=tnS (B5 (A3 [p]))∧0≤k10∧k10≤(2:Int)*(↑(B5 (A3 [p]) r0.toNat).length:Int)∧(2:Int)*(k10 / (2:Int))=k10∧B6l (B5 (A3 [p])) r0 k10 l12∧(↑l12.length:Int)≤300:=h_13
 refine sq<|sq<|rG cx [1,6,7,8,9,27] [6,1007] (tT 1 (B4 (by omega) ?g2:AV.i .i64 (IntKind.i64.wrap (k10+1))=AV.i .i64 (k10+1)) (fA (0≤r0) (fO (r0 <(↑(16:Nat):Int)) (fP ((F9 c3 16 S11)[r0.toNat*(1:Nat)+0]?=some (AV.sl (List.map c3 (S11 r0.toNat)))) (by((try simp only [Nat.mul_one,Nat.add_zero,Nat.zero_add]);with_reducible refine E4 ?_;omega)) (tL 6 c3 (S11 r0.toNat) (tB 7 (k10+1 <(↑(S11 r0.toNat).length:Int)) (oR 5 [.sl (List.map c3 (S11 r0.toNat))] z0))))))) ?_;rotate_left
 refine sn<|dC (k10+1 <(↑(S11 r0.toNat).length:Int)) (fun h20=>?_) fun h20=>?_
 refine sK<|sn<|sq<|bL 3<|sq<|rG cx [1,6,7,8,9,10] [6,1007] (fA (0≤r0) (fO (r0 <(↑(16:Nat):Int)) (fP ((F9 c3 16 S11)[r0.toNat*(1:Nat)+0]?=some (AV.sl (List.map c3 (S11 r0.toNat)))) (by((try simp only [Nat.mul_one,Nat.add_zero,Nat.zero_add]);with_reducible refine E4 ?_;omega)) (fA (0≤k10) (fG c3 (S11 r0.toNat) k10.toNat (fR 1 (oR 3 [.sl (List.map c3 (S11 r0.toNat))] (oR 5 (c3 (S11 r0.toNat)[k10.toNat]!) z0)))))))) ?_
 refine sn<|bL 4<|sL (X:=Int×(Nat→List Int)×List Dot) (fun x=>⟨[(1,.i .i64 ((300:Int))),(6,.ptr (6) (0) (0) (0)),(7,.own 1007 0),(8,.i .i64 (r0)),(9,.i .i64 (k10)),(10,.i .i64 (x.1))],[(6,⟨0,144,.arr (F9 c3 16 x.2.1)⟩),(1007,⟨0,44,.row 2 (List.map c44 x.2.2)⟩)]⟩) (fun x ↦ decDc (B5 (A3 [p])) r0 k10 x.1 x.2.1 x.2.2) (fun x ↦ B66 (B5 (A3 [p])) r0 k10 x.1 x.2.1 x.2.2) [1,6,7,8,9,10] [6,1007] (((S11 r0.toNat)[k10.toNat]!,S11,l12)) (show B66 (B5 (A3 [p])) r0 k10 (S11 r0.toNat)[k10.toNat]! S11 l12 from ?g3) ?_;rotate_left
 rintro⟨n21,S22,l23⟩ h_24
 obtain⟨h25,h26,h27,h28,h29⟩:S22=tnS (B5 (A3 [p]))∧(B5 (A3 [p]) r0.toNat)[(k10 / (2:Int)).toNat]!.lo≤n21∧n21≤(B5 (A3 [p]) r0.toNat)[(k10 / (2:Int)).toNat]!.hi+1∧B63 (B5 (A3 [p])) r0 k10 n21 l23∧(↑l23.length:Int)≤300:=h_24
 refine sq<|sq<|rG cx [1,6,7,8,9,10,46] [6,1007] (fA (0≤r0) (fO (r0 <(↑(16:Nat):Int)) (fP ((F9 c3 16 S22)[r0.toNat*(1:Nat)+0]?=some (AV.sl (List.map c3 (S22 r0.toNat)))) (by((try simp only [Nat.mul_one,Nat.add_zero,Nat.zero_add]);with_reducible refine E4 ?_;omega)) (tT 6 (B4 (by omega) ?g4:AV.i .i64 (IntKind.i64.wrap (k10+1))=AV.i .i64 (k10+1)) (fO (0≤k10+1) (fP ((List.map c3 (S22 r0.toNat))[(k10+1).toNat]?=some (c3 (S22 r0.toNat)[(k10+1).toNat]!)) ?g5 (fR 1 (tB 9 (n21 <(S22 r0.toNat)[(k10+1).toNat]!) (oR 4 [.sl (List.map c3 (S22 r0.toNat))] (oR 7 (c3 (S22 r0.toNat)[(k10+1).toNat]!) z0)))))))))) ?_;rotate_left 2
 refine sn<|dC (n21 <(S22 r0.toNat)[(k10+1).toNat]!) (fun h30=>?_) fun h30=>?_
 refine sK<|sn<|sq<|bL 5<|sq<|rD cx [1,6,7,8,9,10,52] [6,1007] (tL 1 c44 l23 (zB 3 ((↑l23.length:Int)=300))) (fun h31=>?_) fun h31=>?_
 refine sq<|rG cx [4,5] [1007] z0<|sn<|rT<|nR<|bR<|nR<|nR<|bR<|bR<|nR<|nR<|bR<|bR<|nR<|nR<|bR<|nR<|qR (.tup [.sl (List.map c44 l23),.b (false)]) (A7.tup (ZLe.cons (A7.eq (show AV.sl (List.map c44 l23)=AV.sl (List.map c44 (B9 p).1)from ?g7)) (ZLe.cons (A7.eq (show AV.b false=AV.b (B9 p).2 from ?g6)) ZLe.nil)));rotate_left 2
 refine sK<|sn<|rG cx [1,6,7,8,9,10] [6,1007] (fR 44 (fR 2 (fR 2 (fX c44 [{ rep:=r0,num:=n21:Dot }] 2 (fS c44 l23 c44 [{ rep:=r0,num:=n21:Dot }] (fP (((List.map c44 l23).length+(List.map c44 [{ rep:=r0,num:=n21:Dot }]).length)*(16:Nat)≤(140737488355328:Nat)) (by(simp only [Go.maxLen,List.length_map,List.length_append,List.length_cons,List.length_nil];omega)) (fM c44 l23 [{ rep:=r0,num:=n21:Dot }] (oV 5 { rows:=some (List.map c44 (l23++[{ rep:=r0,num:=n21:Dot }])) } z0))))))))<|bN<|sn<|rG cx [1,6,7,8,9,10] [6,1007] (tT 1 (B4 ?g8 ?g9:AV.i .i64 (IntKind.i64.wrap (n21+1))=AV.i .i64 (n21+1)) z0) ?_;rotate_left 2
 refine sn<|nX ((n21+1,S22,l23++[{ rep:=r0,num:=n21:Dot }])) (show((B5 (A3 [p]) r0.toNat)[(k10 / (2:Int)).toNat]!.hi+1-(n21+1)).toNat <((B5 (A3 [p]) r0.toNat)[(k10 / (2:Int)).toNat]!.hi+1-n21).toNat from ?g10) (show B66 (B5 (A3 [p])) r0 k10 (n21+1) S22 (l23++[{ rep:=r0,num:=n21:Dot }])from ?g11);rotate_left 2
 refine eX 4<|nE<|nE<|bH<|bN<|sn<|rG cx [1,6,7,8,9] [6,1007] (tT 1 (B4 (by omega) ?g12:AV.i .i64 (IntKind.i64.wrap (k10+2))=AV.i .i64 (k10+2)) z0) ?_;rotate_left
 refine sn<|nX ((k10+2,S22,l23)) (show((2:Int)*(↑(B5 (A3 [p]) r0.toNat).length:Int)-(k10+2)).toNat <((2:Int)*(↑(B5 (A3 [p]) r0.toNat).length:Int)-k10).toNat from ?g13) (show B65 (B5 (A3 [p])) r0 (k10+2) S22 l23 from ?g14);rotate_left 2
 refine eX 2<|nE<|nE<|bH<|bN<|sn<|rG cx [1,6,7,8] [6,1007] (tW 1 (r0+1) z0)<|sn<|nX ((r0+1,S11,l12)) (show(16-(r0+1)).toNat <(16-r0).toNat from(by omega)) (show B64 (B5 (A3 [p])) (r0+1) S11 l12 from ?g15);rotate_left
 refine eX 0<|nE<|nE<|bH<|sn<|sq<|rG cx [4,5] [1007] z0<|sn<|rT<|qR (.tup [.sl (List.map c44 l2),.b (true)]) (A7.tup (ZLe.cons (A7.eq (show AV.sl (List.map c44 l2)=AV.sl (List.map c44 (B9 p).1)from ?g17)) (ZLe.cons (A7.eq (show AV.b true=AV.b (B9 p).2 from ?g16)) ZLe.nil)));rotate_left 2
 rotate_left
 revert r0 S1 l2 hh4 hh5 h6 h7 h8 h9;rotate_left
 revert r0 S1 l2 hh4 hh5 h6 h7 h8 h9 k10 S11 l12 h14 h15 h16 h17 h18 h19;rotate_left
 revert r0 S1 l2 hh4 hh5 h6 h7 h8 h9 k10 S11 l12 h14 h15 h16 h17 h18 h19 h20;rotate_left
 revert r0 S1 l2 hh4 hh5 h6 h7 h8 h9 k10 S11 l12 h14 h15 h16 h17 h18 h19 h20 n21 S22 l23 h25 h26 h27 h28 h29;rotate_left
 revert r0 S1 l2 hh4 hh5 h6 h7 h8 h9 k10 S11 l12 h14 h15 h16 h17 h18 h19 h20 n21 S22 l23 h25 h26 h27 h28 h29;rotate_left
 revert r0 S1 l2 hh4 hh5 h6 h7 h8 h9 k10 S11 l12 h14 h15 h16 h17 h18 h19 h20 n21 S22 l23 h25 h26 h27 h28 h29 h30 h31;rotate_left
 revert r0 S1 l2 hh4 hh5 h6 h7 h8 h9 k10 S11 l12 h14 h15 h16 h17 h18 h19 h20 n21 S22 l23 h25 h26 h27 h28 h29 h30 h31;rotate_left
 revert r0 S1 l2 hh4 hh5 h6 h7 h8 h9 k10 S11 l12 h14 h15 h16 h17 h18 h19 h20 n21 S22 l23 h25 h26 h27 h28 h29 h30 h31;rotate_left
 revert r0 S1 l2 hh4 hh5 h6 h7 h8 h9 k10 S11 l12 h14 h15 h16 h17 h18 h19 h20 n21 S22 l23 h25 h26 h27 h28 h29 h30 h31;rotate_left
 revert r0 S1 l2 hh4 hh5 h6 h7 h8 h9 k10 S11 l12 h14 h15 h16 h17 h18 h19 h20 n21 S22 l23 h25 h26 h27 h28 h29 h30 h31;rotate_left
 revert r0 S1 l2 hh4 hh5 h6 h7 h8 h9 k10 S11 l12 h14 h15 h16 h17 h18 h19 h20 n21 S22 l23 h25 h26 h27 h28 h29 h30 h31;rotate_left
 revert r0 S1 l2 hh4 hh5 h6 h7 h8 h9 k10 S11 l12 h14 h15 h16 h17 h18 h19 h20 n21 S22 l23 h25 h26 h27 h28 h29 h30;rotate_left
 revert r0 S1 l2 hh4 hh5 h6 h7 h8 h9 k10 S11 l12 h14 h15 h16 h17 h18 h19 h20 n21 S22 l23 h25 h26 h27 h28 h29 h30;rotate_left
 revert r0 S1 l2 hh4 hh5 h6 h7 h8 h9 k10 S11 l12 h14 h15 h16 h17 h18 h19 h20 n21 S22 l23 h25 h26 h27 h28 h29 h30;rotate_left
 revert r0 S1 l2 hh4 hh5 h6 h7 h8 h9 k10 S11 l12 h14 h15 h16 h17 h18 h19 h20;rotate_left
 revert r0 S1 l2 hh4 hh5 h6 h7 h8 h9;rotate_left
 revert r0 S1 l2 hh4 hh5 h6 h7 h8 h9;rotate_left
 all_goals generalize B5 (A3 [p])=U at *
 case g0=>exact⟨rfl,by omega,by omega,rfl,by simp⟩
 case g1=>intro r S l h0 h1 h2 h3 h4 h5;exact⟨h0,by omega,by omega,by omega,by unfold B6l B6k at *;rw[h3];simp [Y9],h4⟩
 case g2=>intro r S l h0 h1 h2 h3 h4 h5 k R m k0 k1 k2 k3 k4 k5;have:=hl r.toNat;omega
 case g3 =>
  intro r S l h0 h1 h2 h3 h4 h5 k R m k0 k1 k2 k3 k4 k5 k6
  subst k0;rw[ht]at k6
  have t:=S9 (U:=U) (r:=r) k1 k3 (by omega)
  have q:=hr r.toNat k k1 (by omega)
  rw[t.1]
  refine⟨rfl,by omega,by omega,?_,k5⟩
  unfold B63 B6l at *
  rw[k4,Int.sub_self,Ax6,List.append_nil]
 case g4=>intro r S l h0 h1 h2 h3 h4 h5 k R m k0 k1 k2 k3 k4 k5 k6 n T q m0 m1 m2 m3 m4;subst k0 m0;rw[ht]at k6;have t:=S9 (U:=U) (r:=r) k1 k3 (by omega);have b:=hr r.toNat k k1 (by omega);have:=hl r.toNat;omega
 case g5=>intro r S l h0 h1 h2 h3 h4 h5 k R m k0 k1 k2 k3 k4 k5 k6 n T q m0 m1 m2 m3 m4;subst k0 m0;rw[ht]at k6;have t:=S9 (U:=U) (r:=r) k1 k3 (by omega);have b:=hr r.toNat k k1 (by omega);rw[List.getElem?_map,List.getElem?_eq_getElem (by rw[ht];omega),getElem!_pos (tnS U r.toNat) (k+1).toNat (by rw[ht];omega)];rfl
 case g6 =>
  intro r S l h0 h1 h2 h3 h4 h5 k R m k0 k1 k2 k3 k4 k5 k6 n T q m0 m1 m2 m3 m4 m5 m6
  subst k0 m0;rw[ht]at k6;have t:=S9 (U:=U) (r:=r) k1 k3 (by omega);have b:=hr r.toNat k k1 (by omega)
  rw[t.2]at m5
  obtain⟨x,rest,e⟩:=B3y h1 h5 k1 (by omega) k3 m1 m5 m3
  rw[hN,if_neg]
  rw[e]
  simp only [List.length_append,List.length_cons]
  omega
 case g7 =>
  intro r S l h0 h1 h2 h3 h4 h5 k R m k0 k1 k2 k3 k4 k5 k6 n T q m0 m1 m2 m3 m4 m5 m6
  subst k0 m0;rw[ht]at k6;have t:=S9 (U:=U) (r:=r) k1 k3 (by omega);have b:=hr r.toNat k k1 (by omega)
  rw[t.2]at m5
  obtain⟨x,rest,e⟩:=B3y h1 h5 k1 (by omega) k3 m1 m5 m3
  rw[hN,if_neg,e,List.take_append_of_le_length (by omega),List.take_of_length_le (by omega)]
  rw[e]
  simp only [List.length_append,List.length_cons]
  omega
 case g8=>intro r S l h0 h1 h2 h3 h4 h5 k R m k0 k1 k2 k3 k4 k5 k6 n T q m0 m1 m2 m3 m4 m5 m6;subst k0 m0;rw[ht]at k6;have t:=S9 (U:=U) (r:=r) k1 k3 (by omega);have b:=hr r.toNat k k1 (by omega);omega
 case g9=>intro r S l h0 h1 h2 h3 h4 h5 k R m k0 k1 k2 k3 k4 k5 k6 n T q m0 m1 m2 m3 m4 m5 m6;subst k0 m0;rw[ht]at k6;have t:=S9 (U:=U) (r:=r) k1 k3 (by omega);have b:=hr r.toNat k k1 (by omega);omega
 case g10=>intro r S l h0 h1 h2 h3 h4 h5 k R m k0 k1 k2 k3 k4 k5 k6 n T q m0 m1 m2 m3 m4 m5 m6;subst k0 m0;rw[ht]at k6;have t:=S9 (U:=U) (r:=r) k1 k3 (by omega);have b:=hr r.toNat k k1 (by omega);rw[t.2]at m5;omega
 case g11 =>
  intro r S l h0 h1 h2 h3 h4 h5 k R m k0 k1 k2 k3 k4 k5 k6 n T q m0 m1 m2 m3 m4 m5 m6
  subst k0 m0;rw[ht]at k6;have t:=S9 (U:=U) (r:=r) k1 k3 (by omega);have b:=hr r.toNat k k1 (by omega)
  rw[t.2]at m5
  refine⟨rfl,by omega,by omega,?_,by rw[List.length_append,List.length_singleton];omega⟩
  unfold B63 at *
  rw[show n+1-(U r.toNat)[(k / 2).toNat]!.lo=n-(U r.toNat)[(k / 2).toNat]!.lo+1 by omega,A0k (by omega),m3,List.append_assoc,show((r.toNat:Nat):Int)=r by omega,show(U r.toNat)[(k / 2).toNat]!.lo+(n-(U r.toNat)[(k / 2).toNat]!.lo)=n by omega]
 case g12=>intro r S l h0 h1 h2 h3 h4 h5 k R m k0 k1 k2 k3 k4 k5 k6 n T q m0 m1 m2 m3 m4 m5;subst k0 m0;rw[ht]at k6;have t:=S9 (U:=U) (r:=r) k1 k3 (by omega);have b:=hr r.toNat k k1 (by omega);have:=hl r.toNat;omega
 case g13=>intro r S l h0 h1 h2 h3 h4 h5 k R m k0 k1 k2 k3 k4 k5 k6 n T q m0 m1 m2 m3 m4 m5;subst k0 m0;rw[ht]at k6;have t:=S9 (U:=U) (r:=r) k1 k3 (by omega);have b:=hr r.toNat k k1 (by omega);omega
 case g14 =>
  intro r S l h0 h1 h2 h3 h4 h5 k R m k0 k1 k2 k3 k4 k5 k6 n T q m0 m1 m2 m3 m4 m5
  subst k0 m0;rw[ht]at k6;have t:=S9 (U:=U) (r:=r) k1 k3 (by omega);have b:=hr r.toNat k k1 (by omega)
  rw[t.2]at m5
  refine⟨rfl,by omega,by omega,by omega,?_,m4⟩
  unfold B63 B6l at *
  rw[show((k+2) / 2).toNat=(k / 2).toNat+1 by omega,A3j (by omega),m3,show n-(U r.toNat)[(k / 2).toNat]!.lo=(U r.toNat)[(k / 2).toNat]!.hi-(U r.toNat)[(k / 2).toNat]!.lo+1 by omega,List.append_assoc]
 case g15 =>
  intro r S l h0 h1 h2 h3 h4 h5 k R m k0 k1 k2 k3 k4 k5 k6
  subst k0;rw[ht]at k6
  refine⟨rfl,by omega,by omega,?_,k5⟩
  unfold B6l at k4
  unfold B6k
  rw[show(r+1).toNat=r.toNat+1 by omega,V2,k4,List.take_of_length_le (by omega)]
 case g16 =>
  intro r S l h0 h1 h2 h3 h4 h5
  unfold B6k at h3
  rw[hN,if_pos]
  rw[show r.toNat=16 by omega]at h3
  rw[← h3];exact h4
 case g17 =>
  intro r S l h0 h1 h2 h3 h4 h5
  unfold B6k at h3
  rw[show r.toNat=16 by omega]at h3
  rw[hN,← h3,if_pos h4]
end Go.Proofs.YtphcaholhacnpaaGreat
namespace Go.Proofs.YtphcaholhacnpaaGreat
open Go.E
set_option maxRecDepth 100000
set_option maxHeartbeats 4000000
theorem A6g{r:Nat}{lo n:Int}{d:Dot}:d∈A13 r lo n↔d.rep=r∧lo≤d.num∧d.num < lo+n:=by
 unfold A13
 rw[List.mem_map]
 constructor
 ·rintro⟨k,hk,rfl⟩
  have:=List.mem_range.1 hk
  exact⟨rfl,by show lo≤lo+(k:Int);omega,by show lo+(k:Int) < lo+n;omega⟩
 ·rintro⟨h1,h2,h3⟩
  refine⟨(d.num-lo).toNat,List.mem_range.2 (by omega),?_⟩
  cases d
  simp only at *
  congr 1
  ·exact h1.symm
  ·omega
theorem A6h{r:Nat}{l:List Run}{d:Dot}:d∈Y9 r l↔d.rep=r∧inR l d.num:=by
 unfold Y9
 rw[List.mem_flatMap]
 unfold inR
 constructor
 ·rintro⟨x,hx,h⟩
  have:=A6g.1 h
  exact⟨this.1,x,hx,by omega,by omega⟩
 ·rintro⟨h1,x,hx,h2,h3⟩
  exact⟨x,hx,A6g.2 ⟨h1,h2,by omega⟩⟩
theorem A3k{U:Nat→List Run}{d:Dot}:∀ n:Nat,d∈V2 U n↔0≤d.rep∧d.rep < n∧inR (U d.rep.toNat) d.num
 | 0=>by simp [V2];intro h h2;omega
 | n+1=>by
  rw[V2,List.mem_append,A3k n,A6h]
  constructor
  ·rintro(⟨h1,h2,h3⟩ | ⟨h1,h2⟩)
   ·exact⟨h1,by omega,h3⟩
   ·rw[show d.rep.toNat=n by omega]
    exact⟨by omega,by omega,h2⟩
  ·rintro⟨h1,h2,h3⟩
   by_cases c:d.rep=n
   ·rw[show d.rep.toNat=n by omega]at h3
    exact .inr ⟨c,h3⟩
   ·exact .inl ⟨h1,by omega,h3⟩
theorem A3l{p:Past}{d:Dot}:d∈N7 p↔G7 p d=true:=by
 unfold N7
 rw[A3k,A3i]
 unfold B5
 rw[O3]
 unfold J4
 rw[decide_eq_true_iff]
 constructor
 ·rintro⟨h1,h2,h3,h4,h5⟩
  exact⟨by omega,h5⟩
 ·rintro⟨h1,h2⟩
  exact⟨by omega,by omega,by omega,by omega,h2⟩
def upD(l:List Dot):Prop:=l.Pairwise fun a b=>dLt a b=true
theorem Ax7{r:Nat}{lo:Int}:∀ n:Nat,upD (A13 r lo n)
 | 0=>List.Pairwise.nil
 | n+1=>by
  rw[show((n+1:Nat):Int)=(n:Int)+1 by omega,A0k (by omega)]
  refine List.pairwise_append.2 ⟨Ax7 n,List.pairwise_singleton _ _,fun a ha b hb=>?_⟩
  rw[List.mem_singleton.1 hb,A6b]
  have:=A6g.1 ha
  simp only
  omega
theorem Ax8{r:Nat}:∀ {l:List Run},S7 l→upD (Y9 r l)
 | [],_=>List.Pairwise.nil
 | x :: l,h=>by
  have hx:=h.2 x (by simp)
  have e:Y9 r (x :: l)=A13 r x.lo (x.hi-x.lo+1)++Y9 r l:=by unfold Y9;rw[List.flatMap_cons]
  rw[e]
  refine List.pairwise_append.2 ⟨?_,Ax8 (J7 h),fun a ha b hb=>?_⟩
  ·have:=Ax7 (r:=r) (lo:=x.lo) (x.hi-x.lo+1).toNat
   rwa [show(((x.hi-x.lo+1).toNat:Nat):Int)=x.hi-x.lo+1 by omega]at this
  ·have h1:=A6g.1 ha
   obtain⟨h2,h3⟩:=A6h.1 hb
   have:=A5t h h3
   rw[A6b]
   omega
theorem Ag5{U:Nat→List Run}(h:∀ r,S7 (U r)):∀ n:Nat,upD (V2 U n)
 | 0=>List.Pairwise.nil
 | n+1=>by
  rw[V2]
  refine List.pairwise_append.2 ⟨Ag5 h n,Ax8 (h n),fun a ha b hb=>?_⟩
  have h1:=(A3k n).1 ha
  have h2:=A6h.1 hb
  rw[A6b]
  omega
theorem B2i(p:Past):upD (N7 p):=Ag5 (fun r=>E2 _) 16
noncomputable def Z0(f:Facts):Actn:=if(f.adds.length:Int)=1 then⟨1,f.adds[0]!.sku,f.adds[0]!.qty,⟨[],[]⟩⟩else if(f.recs.length:Int)=1∧f.recs[0]!.sku=E3 then⟨6,E3,0,f.recs[0]!.past⟩else if(f.recs.length:Int)=1 then⟨4,f.recs[0]!.sku,0,f.recs[0]!.past⟩else⟨5,E3,0,⟨[],[]⟩⟩
noncomputable def A6i(f:Facts):ByteArray:=if(f.adds.length:Int)=1 then f.adds[0]!.sku else⟨#[65]⟩
def A0l(d:List Dot)(s:ByteArray):List Entry:=(List.range d.length).map fun i:Nat=>(⟨d[i]!,s,1+(i:Int)⟩:Entry)
theorem A8g(d:List Dot)(s:ByteArray):(A0l d s).length=d.length:=by unfold A0l;rw[List.length_map,List.length_range]
theorem Ag6{d:List Dot}{s:ByteArray}{i:Nat}(h:i < d.length):(A0l d s)[i]?=some ⟨d[i]!,s,1+(i:Int)⟩:=by
 unfold A0l
 rw[List.getElem?_map,List.getElem?_range h]
 rfl
theorem Al1{d:List Dot}{s:ByteArray}{i:Int}(h0:0≤i)(h:i < d.length):(A0l d s).take i.toNat++[⟨d[i.toNat]!,s,1+i⟩]=(A0l d s).take (i+1).toNat:=by
 rw[show(i+1).toNat=i.toNat+1 by omega,List.take_add_one,Ag6 (by omega),show((i.toNat:Nat):Int)=i by omega]
 rfl
theorem A4r(d:List Dot)(s:ByteArray):(A0l d s).map (fun e=>e.dot)=d:=by
 apply List.ext_getElem?
 intro i
 rw[List.getElem?_map]
 by_cases h:i < d.length
 ·rw[Ag6 h,List.getElem?_eq_getElem h,getElem!_pos d i h]
  rfl
 ·rw[List.getElem?_eq_none (by rw[A8g];omega),List.getElem?_eq_none (by omega)]
  rfl
theorem A3m{d:List Dot}{s:ByteArray}{e:Entry}(h:e∈A0l d s):e.dot∈d∧e.sku=s∧1≤e.qty∧e.qty≤d.length:=by
 unfold A0l at h
 obtain⟨i,hi,rfl⟩:=List.mem_map.1 h
 have hi:=List.mem_range.1 hi
 refine⟨?_,rfl,by simp only;omega,by simp only;omega⟩
 show d[i]!∈d
 rw[getElem!_pos d i hi]
 exact List.getElem_mem hi
theorem Ag7{p:Past}{s:ByteArray}(g:F5 s=true)(h:(N7 p).length≤300):C3 (A0l (N7 p) s)=0:=by
 refine(A0z _).2 ⟨fun e he=>?_,?_⟩
 ·obtain⟨h1,h2,h3,h4⟩:=A3m he
  exact Q4.2 ⟨(A3i.1 (A3l.1 h1)).1,by rw[h2];exact g,h3,by omega⟩
 ·have:=B2i p
  rw[← A4r (N7 p) s]at this
  exact List.pairwise_map.1 this
theorem Al2{p:Past}{s:ByteArray}(g:F5 s=true)(h:(N7 p).length≤300)(hn:p=A5 p):(C8 (A0l (N7 p) s)).1=p:=by
 rw[A1r (Ag7 g h),A4r]
 refine Ad2 (Ad1 _).symm hn fun d=>?_
 rw[Bool.eq_iff_iff,B38,A3l]
 exact⟨fun h=>h.2,fun h=>⟨(A3i.1 h).1,h⟩⟩
theorem good_A:F5 ⟨#[65]⟩=true:=by decide +kernel
theorem A8h{f:Facts}(h:evE f=0):okF f=true:=(B2f h).1
theorem Ax9{f:Facts}(h:evE f=0):F5 (A6i f)=true:=by
 unfold A6i
 split
 ·rename_i c
  have hm:f.adds[0]!∈f.adds:=E1 (by omega)
  exact(Q4.1 (((A0z _).1 (Aw9 (A8h h)).1).1 _ hm)).2.1
 ·exact good_A
def Ay7(l:List Entry)(seen:Past)(r:Int)(a:Actn):Wish:=⟨l,seen,r,⟨1,1000000000⟩,a⟩
theorem A6j{l:List Entry}{seen:Past}{r:Int}{a:Actn}(hl:C3 l=0)(hn:seen=A5 seen)(hin:∀ e∈l,G7 seen e.dot=true)(hr:¬(r < 0∨16≤r))(q:¬ ¬ J5 a=0):B7 (Ay7 l seen r a)=Y8 (Ay7 l seen r a):=by
 have side:¬ 0 <((E5 l seen false).1.length:Int):=by
  rw[A1s hl hn]
  have:l.filter (fun e=>G7 seen e.dot == false)=[]:=by
   refine List.filter_eq_nil_iff.2 fun e he=>?_
   rw[hin e he]
   decide
  simp only
  rw[this]
  decide
 exact G9 (w:=Ay7 l seen r a) (fun k=>k.elim (fun k=>k hl) fun k=>k hn) side hr (fun k=>by
  rcases k with k | k | k | k
  ·exact absurd (show(1:Int) < 1 from k) (by decide)
  ·exact absurd (show(1000:Int) < 1 from k) (by decide)
  ·exact absurd (show(1000000000:Int) < 1 from k) (by decide)
  ·exact absurd (show(1000000000:Int) < 1000000000 from k) (by decide)) q
theorem mk_set{x:Entry}{g:Past}{l:List Entry}{seen:Past}{r:Int}(hx:S5 x=0)(hl:C3 l=0)(hp:(C8 l).1=g)(hall:∀ e∈l,e.sku=x.sku)(hin:∀ e∈l,G7 seen e.dot=true)(hn:seen=A5 seen)(hr:¬(r < 0∨16≤r))(r1:r=x.dot.rep)(r2:F0 seen r=x.dot.num-1) :
  B7 (Ay7 l seen r ⟨1,x.sku,x.qty,⟨[],[]⟩⟩)=(⟨[x],g,[]⟩,0):=by
 have hx:=Q4.1 hx
 have dr:1≤x.dot.num∧x.dot.num≤1000000000:=by
  have:=hx.1
  unfold J4 at this
  rw[decide_eq_true_iff]at this
  omega
 have aE:J5 (⟨1,x.sku,x.qty,⟨[],[]⟩⟩:Actn)=0:=by
  unfold J5
  rw[if_neg (by simp only;omega),if_neg (by simp only;omega),if_neg (by rw[hx.2.1];simp),if_neg (by have:=hx.2.2;simp only;omega)]
 rw[A6j hl hn hin hr (Classical.not_not.2 aE),B24 rfl]
 have hof:(ofV l x.sku).1=l:=by
  rw[Af2 hl hx.2.1]
  exact List.filter_eq_self.2 fun e he=>decide_eq_true (hall e he)
 have full:¬ A11 (Ay7 l seen r ⟨1,x.sku,x.qty,⟨[],[]⟩⟩)=true:=by
  unfold A11
  rw[decide_eq_true_iff]
  show ¬(((ofV l x.sku).1.length:Int)≤0∧1≤((K9 l).1.length:Int))
  rw[hof,A36 hl]
  have:=Ak6 l
  simp only
  omega
 have nx:T5 seen r 1000000000=(x.dot,0):=by
  unfold T5 H8
  rw[if_neg (fun q=>q hn),if_neg hr,if_neg (by omega),r2,show x.dot.num-1+1=x.dot.num by omega,r1]
 unfold S8
 rw[if_neg full]
 show J9 (Ay7 l seen r ⟨1,x.sku,x.qty,⟨[],[]⟩⟩) x.qty (ofV l x.sku).1=_
 rw[hof]
 unfold J9
 show(if ¬(T5 seen r 1000000000).2=0 then((default:Facts),(T5 seen r 1000000000).2)else((⟨[⟨(T5 seen r 1000000000).1,x.sku,x.qty⟩],(C8 l).1,[]⟩:Facts),(0:Int)))=_
 rw[nx,if_neg (fun q=>q rfl),hp]
theorem mk_to{s:ByteArray}{p:Past}{l:List Entry}{seen:Past}{r:Int}(gs:F5 s=true)(hpn:p=A5 p)(hz:¬ C5 p=0)(hl:C3 l=0)(hin:∀ e∈l,G7 seen e.dot=true)(hn:seen=A5 seen)(hr:¬(r < 0∨16≤r)) :
  B7 (Ay7 l seen r ⟨4,s,0,p⟩)=(⟨[],⟨[],[]⟩,[⟨s,p⟩]⟩,0):=by
 have aE:J5 (⟨4,s,0,p⟩:Actn)=0:=by
  unfold J5
  rw[if_neg (by simp only;omega),if_neg (fun q=>q.2 hpn),if_neg (by rw[gs];simp),if_neg (by simp only;omega)]
 rw[A6j hl hn hin hr (Classical.not_not.2 aE),B25 rfl]
 show(G5 s p,(0:Int))=_
 unfold G5
 rw[if_neg hz,← hpn]
theorem mk_cto{p:Past}{l:List Entry}{seen:Past}{r:Int}(hpn:p=A5 p)(hz:¬ C5 p=0)(hl:C3 l=0)(hin:∀ e∈l,G7 seen e.dot=true)(hn:seen=A5 seen)(hr:¬(r < 0∨16≤r)) :
  B7 (Ay7 l seen r ⟨6,E3,0,p⟩)=(⟨[],⟨[],[]⟩,[⟨E3,p⟩]⟩,0):=by
 have aE:J5 (⟨6,E3,0,p⟩:Actn)=0:=by
  unfold J5
  rw[if_neg (by simp only;omega),if_neg (fun q=>q.2 hpn),if_neg (by simp only;omega),if_neg (by simp only;omega)]
 rw[A6j hl hn hin hr (Classical.not_not.2 aE),B27 rfl]
 show(G5 E3 p,(0:Int))=_
 unfold G5
 rw[if_neg hz,← hpn]
theorem mk_clr{g:Past}{l:List Entry}{seen:Past}{r:Int}(hl:C3 l=0)(hp:(C8 l).1=g)(hin:∀ e∈l,G7 seen e.dot=true)(hn:seen=A5 seen)(hr:¬(r < 0∨16≤r)) :
  B7 (Ay7 l seen r ⟨5,E3,0,⟨[],[]⟩⟩)=(⟨[],g,[]⟩,0):=by
 have aE:J5 (⟨5,E3,0,⟨[],[]⟩⟩:Actn)=0:=by
  unfold J5
  rw[if_neg (by simp only;omega),if_neg (by simp only;omega),if_neg (by simp only;omega),if_neg (by simp only;omega)]
 rw[A6j hl hn hin hr (Classical.not_not.2 aE),B26 rfl]
 show((⟨[],(C8 l).1,[]⟩:Facts),(0:Int))=_
 rw[hp]
theorem Ag8{f:Facts}(h:evE f=0):(f.adds.length=1∧f.adds=[f.adds[0]!]∧f.recs=[]∧F0 f.gone f.adds[0]!.dot.rep < f.adds[0]!.dot.num)∨(f.adds=[]∧f.recs.length=1∧f.recs=[f.recs[0]!]∧f.gone=⟨[],[]⟩)∨(f.adds=[]∧f.recs=[]):=by
 have ok:=A12.1 (A8h h)
 have ev:=h
 unfold evE at ev
 rw[if_neg (by rw[A8h h];decide)]at ev
 by_cases c:f.adds.length=1∧f.recs.length=0
 ·rw[if_pos c]at ev
  refine .inl ⟨c.1,?_,List.eq_nil_of_length_eq_zero c.2,?_⟩
  ·match hq:f.adds,c.1 with
   | [z],_=>rfl
  ·split at ev
   ·assumption
   ·omega
 rw[if_neg c]at ev
 by_cases c2:f.adds.length=0∧f.recs.length=0
 ·exact .inr (.inr ⟨List.eq_nil_of_length_eq_zero c2.1,List.eq_nil_of_length_eq_zero c2.2⟩)
 rw[if_neg c2]at ev
 by_cases c3:f.adds.length=0∧f.recs.length=1∧C5 f.gone=0
 ·refine .inr (.inl ⟨List.eq_nil_of_length_eq_zero c3.1,c3.2.1,?_,(Ak2 ok.2.1).1 c3.2.2⟩)
  match hq:f.recs,c3.2.1 with
  | [z],_=>rfl
 ·rw[if_neg c3]at ev;omega
theorem B67{f:Facts}{seen:Past}{r:Int}{l:List Entry}(h:evE f=0)(hl:C3 l=0)(hp:(C8 l).1=f.gone)(hall:∀ e∈l,e.sku=A6i f)(hin:∀ e∈l,G7 seen e.dot=true)(hn:seen=A5 seen)(hr:¬(r < 0∨16≤r))
  (ha:f.adds.length=1→r=f.adds[0]!.dot.rep∧F0 seen r=f.adds[0]!.dot.num-1):B7 (Ay7 l seen r (Z0 f))=(f,0):=by
 have ok:=A12.1 (A8h h)
 obtain⟨fa,fg,fr⟩:=f
 rcases Ag8 h with⟨c,e1,e2,_⟩ | ⟨e1,c,e2,e3⟩ | ⟨e1,e2⟩
 ·simp only at c e1 e2 ok hp ha
  have hm:fa[0]!∈fa:=E1 (by omega)
  have eA:Z0 ⟨fa,fg,fr⟩=⟨1,fa[0]!.sku,fa[0]!.qty,⟨[],[]⟩⟩:=by unfold Z0;rw[if_pos (by simp only;omega)]
  have eS:A6i ⟨fa,fg,fr⟩=fa[0]!.sku:=by unfold A6i;rw[if_pos (by simp only;omega)]
  rw[eA]
  have:=mk_set (((A0z _).1 ok.1).1 _ hm) hl hp (fun e he=>by rw[hall e he,eS]) hin hn hr (ha c).1 (ha c).2
  rw[this,← e1,e2]
 ·simp only at c e1 e2 e3 ok hp
  have hm:fr[0]!∈fr:=E1 (by omega)
  have hx:=ck_ok.1 (((B1s _).1 ok.2.2).1 _ hm)
  have ca:¬(fa.length:Int)=1:=by rw[e1];decide
  have e4:(⟨fr[0]!.sku,fr[0]!.past⟩:Record)=fr[0]!:=rfl
  by_cases s:fr[0]!.sku=E3
  ·have eA:Z0 ⟨fa,fg,fr⟩=⟨6,E3,0,fr[0]!.past⟩:=by unfold Z0;rw[if_neg ca,if_pos ⟨by simp only;omega,s⟩]
   rw[eA,mk_cto hx.2.1 hx.2.2 hl hin hn hr,← s,e4,← e2,e1,e3]
  ·have eA:Z0 ⟨fa,fg,fr⟩=⟨4,fr[0]!.sku,0,fr[0]!.past⟩:=by unfold Z0;rw[if_neg ca,if_neg (fun q=>s q.2),if_pos (by simp only;omega)]
   rw[eA,mk_to (hx.1.resolve_left s) hx.2.1 hx.2.2 hl hin hn hr,e4,← e2,e1,e3]
 ·simp only at e1 e2 ok hp
  subst e1 e2
  have eA:Z0 ⟨[],fg,[]⟩=⟨5,E3,0,⟨[],[]⟩⟩:=by unfold Z0;simp
  rw[eA,mk_clr hl hp hin hn hr]
def A6n(x:Entry):Past:=⟨(List.replicate (x.dot.rep+1).toNat 0).set x.dot.rep.toNat (x.dot.num-1),[]⟩
theorem Ay0{x:Entry}(hx:J4 x.dot=true)(d:Dot):G7 (A6n x) d=true↔J4 d=true∧d.rep=x.dot.rep∧d.num≤x.dot.num-1:=by
 have dr:0≤x.dot.rep∧x.dot.rep < 16∧1≤x.dot.num∧x.dot.num≤1000000000:=by
  unfold J4 at hx
  rw[decide_eq_true_iff]at hx
  omega
 have hl:(A6n x).vec.length=(x.dot.rep+1).toNat:=by unfold A6n;rw[List.length_set,List.length_replicate]
 have at':∀ k:Nat,k <(x.dot.rep+1).toNat→(A6n x).vec[k]! = if x.dot.rep.toNat=k then x.dot.num-1 else 0:=fun k hk=>by
  rw[getElem!_pos _ k (by rw[hl];exact hk)]
  unfold A6n
  rw[List.getElem_set,List.getElem_replicate]
 unfold G7
 rw[Bool.and_eq_true,Bool.or_eq_true,decide_eq_true_iff,hl]
 have nc:¬((A6n x).cloud.any fun s=>A5p s d)=true:=by unfold A6n;simp
 constructor
 ·rintro⟨h1,h2 | h2⟩
  ·have hd:=h1
   unfold J4 at hd
   rw[decide_eq_true_iff]at hd
   have e:=at' d.rep.toNat (by omega)
   rw[e]at h2
   by_cases c:x.dot.rep.toNat=d.rep.toNat
   ·rw[if_pos c]at h2;exact⟨h1,by omega,h2.2⟩
   ·rw[if_neg c]at h2;omega
  ·exact absurd h2 nc
 ·rintro⟨h1,h2,h3⟩
  refine⟨h1,.inl ⟨by omega,?_⟩⟩
  rw[at' _ (by omega),if_pos (by omega)]
  exact h3
theorem B2j{p:Past}{r:Int}(h:¬(r < 0∨16≤r))(k:1≤F0 p r):G7 p ⟨r,F0 p r⟩=true:=by
 have e:F0 p r=X8 (A3 [p] r.toNat):=by unfold F0;rw[if_neg h]
 rcases U8 (A3 [p] r.toNat)with⟨a,_⟩ | ⟨a,b,c,_⟩
 ·omega
 ·exact A3i.2 ⟨B3x h k (by rw[e];exact b),by rw[e];exact c⟩
theorem B68{p:Past}{r n:Int}(h:¬(r < 0∨16≤r))(h1:∀ m,G7 p ⟨r,m⟩=true→m≤n)(h0:0≤n)(h2:n=0∨G7 p ⟨r,n⟩=true):F0 p r=n:=by
 have k:=A5z p r
 have le:F0 p r≤n:=by
  by_cases c:1≤F0 p r
  ·exact h1 _ (B2j h c)
  ·omega
 rcases h2 with h2 | h2
 ·omega
 ·refine Int.le_antisymm le (Int.not_lt.1 fun c=>Ax2 h c h2)
theorem B2k{x:Entry}{g:Past}(hx:J4 x.dot=true)(hg:F0 g x.dot.rep < x.dot.num):F0 (T0 [g,A6n x]) x.dot.rep=x.dot.num-1:=by
 have dr:0≤x.dot.rep∧x.dot.rep < 16∧1≤x.dot.num∧x.dot.num≤1000000000:=by
  have:=hx
  unfold J4 at this
  rw[decide_eq_true_iff]at this
  omega
 have hr:¬(x.dot.rep < 0∨16≤x.dot.rep):=by omega
 refine B68 hr (fun m hm=>?_) (by omega) ?_
 ·rw[A5u]at hm
  simp only [List.any_cons,List.any_nil,Bool.or_false,Bool.or_eq_true]at hm
  rcases hm with hm | hm
  ·have:=Int.not_lt.1 fun c:F0 g x.dot.rep < m=>Ax2 hr c hm
   omega
  ·exact((Ay0 hx _).1 hm).2.2
 ·by_cases c:x.dot.num-1=0
  ·exact .inl c
  ·refine .inr ?_
   rw[A5u]
   simp only [List.any_cons,List.any_nil,Bool.or_false,Bool.or_eq_true]
   exact .inr ((Ay0 hx _).2 ⟨B3x hr (by omega) (by omega),rfl,Int.le_refl _⟩)
end Go.Proofs.YtphcaholhacnpaaGreat
namespace Go.Proofs.YtphcaholhacnpaaGreat
open Go.E
set_option maxRecDepth 100000
set_option maxHeartbeats 4000000
def RecB:Type:={r:Record // r.past=A5 r.past}
theorem B2l:(⟨E3,⟨[],[]⟩⟩:Record).past=A5 (⟨E3,⟨[],[]⟩⟩:Record).past:=A7z.symm
instance:Inhabited RecB:=⟨⟨⟨E3,⟨[],[]⟩⟩,B2l⟩⟩
end Go.Proofs.YtphcaholhacnpaaGreat
namespace Go.Proofs.YtphcaholhacnpaaGreat
open Go.E
set_option maxRecDepth 100000
set_option maxHeartbeats 4000000
theorem B69{a b:List (List AV)}(hl:a.length=b.length)(h:∀(j:Nat) (x y:List AV),a[j]?=some x→b[j]?=some y→ZLe x y):A7 (.sl a) (.sl b):=fun S w v hv=>by
 cases hv with
 | sl _ A cap sz u hc hm hn hsz hA h1 h2 =>
  rw[hl]
  refine .sl b A cap sz u (by omega) (by omega) hn (fun r hr=>?_) (fun k=>?_) h1 (fun j q r x hj hq=>?_)
  ·obtain⟨j,hj,rfl⟩:=List.mem_iff_getElem.1 hr
   have k:j < a.length:=by omega
   rw[←(h j a[j] b[j] (List.getElem?_eq_getElem k) (List.getElem?_eq_getElem hj)).1]
   exact hsz _ (List.getElem_mem k)
  ·obtain⟨ad,e,hs,hc'⟩:=hA (by omega)
   exact⟨ad,e,hs,fun j q hj=>hc' j q (by omega)⟩
  ·have k:j < a.length:=by
    have:=List.getElem?_eq_some_iff.1 hj
    obtain⟨h',_⟩:=this
    omega
   have z:=h j a[j] r (List.getElem?_eq_getElem k) hj
   have kq:q < a[j].length:=by
    have:=List.getElem?_eq_some_iff.1 hq
    obtain⟨h',_⟩:=this
    rw[z.1]
    exact h'
   exact z.2 q _ x (List.getElem?_eq_getElem kq) hq S w _ (h2 j q _ _ (List.getElem?_eq_getElem k) (List.getElem?_eq_getElem kq))
end Go.Proofs.YtphcaholhacnpaaGreat
namespace Go.Proofs.YtphcaholhacnpaaGreat
open Go.E
set_option maxRecDepth 100000
set_option maxHeartbeats 4000000
theorem A1u{p:Past}(h:p=A5 p):szP p:=by
 have k:=A0a (A3 [p])
 rw[h]
 exact⟨by show(H9 (A3 [p])).cloud.length*16≤_;omega,by show(H9 (A3 [p])).vec.length≤_;omega⟩
end Go.Proofs.YtphcaholhacnpaaGreat
namespace Go.Proofs.YtphcaholhacnpaaGreat
open Go.E
set_option maxRecDepth 100000
set_option maxHeartbeats 4000000
def B6m(f:Facts)(x1:List Entry)(x2:List Int)(x3:List Span)(x4:List Record):Prop:=x1=f.adds∧x2=f.gone.vec∧x3=f.gone.cloud∧x4=f.recs
end Go.Proofs.YtphcaholhacnpaaGreat
