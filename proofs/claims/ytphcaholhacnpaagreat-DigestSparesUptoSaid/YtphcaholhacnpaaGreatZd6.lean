/- Sd: the document's digests. Conditions: sizes. Se: the laws of digests. Conditions: sizes. EN: from a law's contract to its row: 'for every input it answers true, and the input reads as it did'. Conditions: none named, none written. Wx: what is handed in, by its types. Conditions: none. Wy: what is handed in, by its types (acts, facts). Conditions: none. Qk: what is handed in, small (facts). Conditions: none. Qm: what is handed in, small (states, digests). Conditions: none. Qj: facts of the program that every row asks for, each by itself. Conditions: none. -/
import Derived.Below
import Derived.OwnWalk
import Derived.WalkKit
import Derived.KernelRfl
import Derived.Laws.MakeOwn
import Derived.Laws.OwnMore
import Derived.Laws.Slices
import Derived.Laws.CopyOwn
import Derived.Laws.AppendOwnNone
import Derived.Laws.Rows
import Derived.Orders
import Derived.Test.YtphcaholhacnpaaGreatProg
import Derived.DataReads
import Derived.ChangeOld
import Derived.DataElems
import Derived.SizedLaws
import Derived.ChangeKeysEq
import Derived.Sort.LotA
import Derived.Shelf.SlSortFuncK.RowK2
import Derived.Shelf.SlSortCmp.NoneTotal
import Derived.Lib.Walk
import Derived.Shelf.SlLaysE0
import Derived.Shelf.RegionOpenPlain
import Derived.Deep.LoopGhost
import Derived.Lib.SliceRun
import Derived.Lib.Bytealg
import Derived.Calls
import Derived.Shelf.SlSortFuncK.SWK
import Derived.Deep.Cut
import Derived.Deep.CutRange
import Derived.Deep.DeepCutAuto
import Derived.Lib.ReflectliteSwap
import Derived.Laws.Externs
import Derived.Lib.ReflectliteSlice
import Derived.Lib.AppendZeros
import Derived.BigQuiet
import Derived.Shelf.SlSortFuncK.WholeK
import Derived.Shelf.GgSortFunc.Tiny
import Derived.Maps.RangeRun
import Derived.ProofKit
import Derived.JoinedCond
import Derived.Deep.CondSized
import Derived.Test.YtphcaholhacnpaaGreatRows
import Derived.Test.YtphcaholhacnpaaGreatZd5
set_option linter.unusedVariables false
set_option linter.unusedSimpArgs false
namespace Go.Proofs.YtphcaholhacnpaaGreat
open Go.E
set_option maxRecDepth 100000
set_option maxHeartbeats 4000000
def szL(f:Facts):Prop:=f.adds.length*40≤140737488351232∧f.recs.length*64≤140737488350000
theorem A5c{f:Facts}(h:okF f=true):Y5 [C6 f.adds,f.gone]*16≤140737488350000:=A8m (Q9 _) (D9.1 h).2.1
def Bi2(f:Facts)(d:Dig)(i:Int)(o:List Entry):Prop:=o=A8t ((B8 f).take i.toNat) d
def B72(f:Facts)(d:Dig)(i:Int)(x1:List Entry)(x2:List Int)(x3:List Span)(x4:List Record)(v1:List Int)(c1:List Span)(v2:List Int)(c2:List Span)(o:List Entry):Prop:=(x1=f.adds∧x2=f.gone.vec∧x3=f.gone.cloud∧x4=f.recs)∧(v1=d.heard.vec∧c1=d.heard.cloud∧v2=d.live.vec∧c2=d.live.cloud)∧0≤i∧i≤(B8 f).length∧(o.length:Int)≤i∧Bi2 f d i o
noncomputable def decLk(f:Facts)(i:Int)(x1:List Entry)(x2:List Int)(x3:List Span)(x4:List Record)(v1:List Int)(c1:List Span)(v2:List Int)(c2:List Span)(o:List Entry):Nat:=((B8 f).length-i).toNat
theorem A5d(f:Facts):(B8 f).length≤f.adds.length:=Nat.le_trans (List.length_filter_le _ _) (List.length_filter_le _ _)
theorem B36{f:Facts}{d:Dig}{i:Int}{o:List Entry}(h0:0≤i)(hi:i <(B8 f).length)(ho:Bi2 f d i o) :
  A8t ((B8 f).take (i+1).toNat) d=o++if C8 d.heard (B8 f)[i.toNat]!.dot=true then[]else[(B8 f)[i.toNat]!]:=by
 unfold Bi2 A8t at *
 rw[← D3 h0 hi,List.filter_append,ho]
 congr 1
 generalize (B8 f)[i.toNat]! = x
 split
 ·rename_i h;simp [List.filter_cons,h]
 ·rename_i h
  have h:C8 d.heard x.dot=false:=by simpa using h
  simp [List.filter_cons,h]
theorem X0{p:Past}(h:p=A3 p):szP p:=by
 have k:=N2 (A6 [p])
 rw[h]
 exact⟨by show(E4 (A6 [p])).cloud.length*16≤_;omega,by show(E4 (A6 [p])).vec.length≤_;omega⟩
theorem A0z{f:Facts}(h:okF f=true):szF f:=⟨X0 (D9.1 h).2.1,fun r hr=>X0 (A2k (D9.1 h).2.2 r hr)⟩
theorem B37(es:List Entry)(d:Dig):(A8t es d).length≤es.length:=List.length_filter_le _ _
theorem Bi3{d:Dig}(h:¬ H8 d=0):H8 d=1:=by
 unfold H8 at *
 split at h
 ·exact absurd rfl h
 ·rename_i k;rw[if_neg k]
theorem B73(d:Dig)(hb:szD d):Con Tryz.prog 54 [.agg (c84 d)] (.b (decide (H8 d=0))) :=
 by
 refine sC A9 [.tmp 2] 18 Tryz.func54 ?_
 intro e0 cx
 refine sq<|rG cx [1] [1] z0<|sn<|sq<|B3 (σ':=⟨[(2,.b (decide (d.heard=A3 d.heard∧d.live=A3 d.live∧B5 (A7 d.live d.heard)=0)))],[]⟩) ?_ ?_
 refine A5 (d.heard=A3 d.heard) (fun h1=>?_) (fun h1=>?_)
 refine A5 (d.live=A3 d.live) (fun h2=>?_) (fun h2=>?_)
 refine rg (A:=_∧_∧_∧_∧_∧(AV.b (decide (B5 (A7 d.live d.heard)=0))=AV.b (decide (d.heard=A3 d.heard∧d.live=A3 d.live∧B5 (A7 d.live d.heard)=0)))) cx [(2,{ val:=some (.b (decide (d.heard=A3 d.heard))),tell:=some (.b (true)) }),(6,{ val:=some (.b (decide (d.live=A3 d.live))),tell:=some (.b (true)) }),(13,{ val:=some (.b (decide (B5 (A7 d.live d.heard)=0))) }),(15,{ tell:=some (.b (decide (d.heard=A3 d.heard∧d.live=A3 d.live∧B5 (A7 d.live d.heard)=0))) })] [2] [] ⟨(A4 h1),(A2i (d.heard) ?g0 ?g1),(A4 h2),(A2i (d.live) ?g2 ?g3),(B24 (d.live) (d.heard) ?g4 ?g5),(by simp only [eq_true h1,eq_true h2,tsl])⟩ ?_;rotate_left 6
 exact⟨rfl,by kernel_rfl⟩
 refine rg (A:=_∧_∧_∧_∧(AV.b false=AV.b (decide (d.heard=A3 d.heard∧d.live=A3 d.live∧B5 (A7 d.live d.heard)=0)))) cx [(2,{ val:=some (.b (decide (d.heard=A3 d.heard))),tell:=some (.b (true)) }),(6,{ val:=some (.b (decide (d.live=A3 d.live))),tell:=some (.b (false)) }),(15,{ tell:=some (.b (decide (d.heard=A3 d.heard∧d.live=A3 d.live∧B5 (A7 d.live d.heard)=0))) })] [2] [] ⟨(A4 h1),(A2i (d.heard) ?g6 ?g7),(A0 h2),(A2i (d.live) ?g8 ?g9),(by simp only [eq_true h1,eq_false h2,tsl])⟩ ?_;rotate_left 4
 exact⟨rfl,by kernel_rfl⟩
 refine rg (A:=_∧_∧(AV.b false=AV.b (decide (d.heard=A3 d.heard∧d.live=A3 d.live∧B5 (A7 d.live d.heard)=0)))) cx [(2,{ val:=some (.b (decide (d.heard=A3 d.heard))),tell:=some (.b (false)) }),(15,{ tell:=some (.b (decide (d.heard=A3 d.heard∧d.live=A3 d.live∧B5 (A7 d.live d.heard)=0))) })] [2] [] ⟨(A0 h1),(A2i (d.heard) ?g10 ?g11),(by simp only [eq_false h1,tsl])⟩ ?_;rotate_left 2
 exact⟨rfl,by kernel_rfl⟩
 refine sn<|rT<|qR (.b (decide (d.heard=A3 d.heard∧d.live=A3 d.live∧B5 (A7 d.live d.heard)=0))) (.eq ?g12);rotate_left
 revert h1 h2;rotate_left
 revert h1 h2;rotate_left
 revert h1 h2;rotate_left
 revert h1 h2;rotate_left
 revert h1 h2;rotate_left
 revert h1 h2;rotate_left
 revert h1 h2;rotate_left
 revert h1 h2;rotate_left
 revert h1 h2;rotate_left
 revert h1 h2;rotate_left
 revert h1;rotate_left
 revert h1;rotate_left
 rotate_left
 case g12 =>
  refine congrArg AV.b (decide_eq_decide.2 ⟨fun h=>?_,Ad1⟩)
  unfold H8
  rw[if_pos h]
 all_goals (intros;first | exact hb.1.1 | exact hb.1.2 | exact hb.2.1 | exact hb.2.2)
theorem Bi4(a b:Dig)(ha:szD a):Con Tryz.prog 37 [.agg (c84 a),.agg (c84 b)] (.b (decide (a=b))) :=
 by
 have h1:=ha.1.1
 have h2:=ha.1.2
 have h3:=ha.2.1
 have h4:=ha.2.2
 refine sC A9 [.tmp 4] 17 Tryz.func37 ?_
 intro e0 cx
 refine sq<|rG cx [2,3] [2,3] z0<|sn<|sq<|B3 (σ':=⟨[(4,.b (decide (a.heard=b.heard∧a.live=b.live)))],[]⟩) ?_ ?_
 refine A5 (a.heard=b.heard) (fun hh1=>?_) (fun hh1=>?_)
 refine rg (A:=_∧_∧_∧(AV.b (decide (a.live=b.live))=AV.b (decide (a.heard=b.heard∧a.live=b.live)))) cx [(4,{ val:=some (.b (decide (a.heard=b.heard))),tell:=some (.b (true)) }),(10,{ val:=some (.b (decide (a.live=b.live))) }),(12,{ tell:=some (.b (decide (a.heard=b.heard∧a.live=b.live))) })] [4] [] ⟨(A4 hh1),(Ah1 (a.heard) (b.heard) ?g0 ?g1),(Ah1 (a.live) (b.live) ?g2 ?g3),(by simp only [eq_true hh1,tsl])⟩ ?_;rotate_left 4
 exact⟨rfl,by kernel_rfl⟩
 refine rg (A:=_∧_∧(AV.b false=AV.b (decide (a.heard=b.heard∧a.live=b.live)))) cx [(4,{ val:=some (.b (decide (a.heard=b.heard))),tell:=some (.b (false)) }),(12,{ tell:=some (.b (decide (a.heard=b.heard∧a.live=b.live))) })] [4] [] ⟨(A0 hh1),(Ah1 (a.heard) (b.heard) ?g4 ?g5),(by simp only [eq_false hh1,tsl])⟩ ?_;rotate_left 2
 exact⟨rfl,by kernel_rfl⟩
 refine sn<|rT<|qR (.b (decide (a.heard=b.heard∧a.live=b.live))) (.eq ?g6);rotate_left
 revert hh1;rotate_left
 revert hh1;rotate_left
 revert hh1;rotate_left
 revert hh1;rotate_left
 revert hh1;rotate_left
 revert hh1;rotate_left
 rotate_left
 case g6=>refine congrArg AV.b (decide_eq_decide.2 ?_);cases a;cases b;simp
 all_goals (intros;omega)
theorem con39(d:Dig)(hb:szD d):Con Tryz.prog 39 [.agg (c84 d)] (.i .i64 (H8 d)) :=
 by
 refine sC A9 [.tmp 2] 5 Tryz.func39 ?_
 intro e0 cx
 refine sq<|rG cx [1] [1] z0<|sn<|sq<|sq<|rG cx [4] [] (fT (B73 (d) (by(with_reducible assumption))) (oA 1 (.b (decide (H8 d=0))) z0))<|sn<|dC (H8 d=0) (fun h0=>?_) fun h0=>?_
 refine sq<|rG cx [2] [] z0<|sn<|rT<|nR<|qR (.i .i64 ((0:Int))) (.eq (by rw[h0]))
 refine sK<|sn<|sq<|rG cx [2] [] z0<|sn<|rT<|qR (.i .i64 ((1:Int))) (.eq (by rw[Bi3 h0]))
theorem B8v(f:Facts)(hb:szF f)(hl:szL f)(h:okF f=true):Con Tryz.prog 110 [.agg (c36 f)] (.agg (c84 ⟨B4 f,C6 (B8 f)⟩)) :=
 by
 have h1:=hl.1
 have h2:=hl.2
 have h3:=A5d f
 refine sC A9 [.cell 2 84] 9 Tryz.func110 ?_
 intro e0 cx
 refine sq<|rG cx [1,2] [1,2] z0<|sn<|sq<|rA cx [2] [2] (fT (B33 (f) (by(with_reducible assumption)) ?g0 ?g1) (fT (B34 (f) (by(with_reducible assumption)) ?g2 ?g3) (fT (Aw0 (B8 f) ({ data:=#[]:ByteArray }) ((-1:Int)) ?g4) (oA 1 (.agg [.sl (List.map c3 (B4 f).vec),.sl (List.map B1 (B4 f).cloud)]) (oA 3 (.sl (List.map c46 (B8 f))) (oA 4 (.agg [.sl (List.map c3 (L1 (B8 f) { data:=#[]:ByteArray } (-1:Int)).vec),.sl (List.map B1 (L1 (B8 f) { data:=#[]:ByteArray } (-1:Int)).cloud)]) z0)))))) ?_;rotate_left 5
 refine sn<|rT<|qR (.agg [.sl (List.map c3 (B4 f).vec),.sl (List.map B1 (B4 f).cloud),.sl (List.map c3 (L1 (B8 f) { data:=#[]:ByteArray } (-1:Int)).vec),.sl (List.map B1 (L1 (B8 f) { data:=#[]:ByteArray } (-1:Int)).cloud)]) (.eq ?g5);rotate_left
 case g0=>exact h1
 case g1=>exact A5c h
 case g2=>exact h1
 case g3=>omega
 case g4=>omega
 case g5=>rw[show(⟨#[]⟩:ByteArray)=noneS from rfl,P4];rfl
theorem con35(f:Facts)(hb:szF f)(hl:szL f):Con Tryz.prog 35 [.agg (c36 f)] (.tup [.agg (c84 (ofF f).1),.i .i64 (ofF f).2]) :=
 by
 refine sC A9 [.cell 2 84,.tmp 3] 10 Tryz.func35 ?_
 intro e0 cx
 refine sq<|rG cx [1,2] [1,2] z0<|sn<|sq<|sq<|rG cx [1,2,6] [1,2] (fT (Av8 (f) (by(with_reducible assumption))) (tT 2 (E2:(AV.b !okF f)=AV.b (decide ¬okF f=true)) (oA 1 (.b (okF f)) z0)))<|sn<|dC (¬okF f=true) (fun h0=>?_) fun h0=>?_
 refine sq<|rG cx [2,3] [2] z0<|sn<|rT<|nR<|qR (.tup [.agg [.nl,.nl,.nl,.nl],.i .i64 ((1:Int))]) (B9.tup (ZLe.cons (B9.agg (ZLe.cons (B9.nl' (show List.map c3 (ofF f).1.heard.vec=[]from(by rw[X1 h0];rfl))) (ZLe.cons (B9.nl' (show List.map B1 (ofF f).1.heard.cloud=[]from(by rw[X1 h0];rfl))) (ZLe.cons (B9.nl' (show List.map c3 (ofF f).1.live.vec=[]from(by rw[X1 h0];rfl))) (ZLe.cons (B9.nl' (show List.map B1 (ofF f).1.live.cloud=[]from(by rw[X1 h0];rfl))) ZLe.nil))))) (ZLe.cons (B9.eq (show AV.i .i64 1=AV.i .i64 (ofF f).2 from(by rw[X1 h0]))) ZLe.nil)))
 refine sK<|sn<|sq<|rG cx [2,3] [2] (fT (B8v (f) (by(with_reducible assumption)) (by(with_reducible assumption)) (by exact Classical.not_not.1 h0)) (oA 1 (.agg [.sl (List.map c3 { heard:=B4 f,live:=C6 (B8 f):Dig }.heard.vec),.sl (List.map B1 { heard:=B4 f,live:=C6 (B8 f):Dig }.heard.cloud),.sl (List.map c3 { heard:=B4 f,live:=C6 (B8 f):Dig }.live.vec),.sl (List.map B1 { heard:=B4 f,live:=C6 (B8 f):Dig }.live.cloud)]) z0)) ?_
 refine sn<|rT<|qR (.tup [.agg [.sl (List.map c3 { heard:=B4 f,live:=C6 (B8 f):Dig }.heard.vec),.sl (List.map B1 { heard:=B4 f,live:=C6 (B8 f):Dig }.heard.cloud),.sl (List.map c3 { heard:=B4 f,live:=C6 (B8 f):Dig }.live.vec),.sl (List.map B1 { heard:=B4 f,live:=C6 (B8 f):Dig }.live.cloud)],.i .i64 ((0:Int))]) (B9.tup (ZLe.cons (B9.eq (show AV.agg [AV.sl (List.map c3 { heard:=B4 f,live:=C6 (B8 f):Dig }.heard.vec),AV.sl (List.map B1 { heard:=B4 f,live:=C6 (B8 f):Dig }.heard.cloud),AV.sl (List.map c3 { heard:=B4 f,live:=C6 (B8 f):Dig }.live.vec),AV.sl (List.map B1 { heard:=B4 f,live:=C6 (B8 f):Dig }.live.cloud)]=AV.agg [AV.sl (List.map c3 (ofF f).1.heard.vec),AV.sl (List.map B1 (ofF f).1.heard.cloud),AV.sl (List.map c3 (ofF f).1.live.vec),AV.sl (List.map B1 (ofF f).1.live.cloud)]from(by rw[A31 (Classical.not_not.1 h0)]))) (ZLe.cons (B9.eq (show AV.i .i64 0=AV.i .i64 (ofF f).2 from(by rw[A31 (Classical.not_not.1 h0)]))) ZLe.nil)))
theorem con38(s:Facts)(hb:szF s)(hl:szL s):Con Tryz.prog 38 [.agg (c82 s)] (.tup [.agg (c84 (ofS s).1),.i .i64 (ofS s).2]) :=
 by
 have h2:=hl.2
 refine sC A9 [.cell 2 84,.tmp 3] 11 Tryz.func38 ?_
 intro e0 cx
 refine sq<|rG cx [1,2] [1,2] z0<|sn<|sq<|sq<|rG cx [1,2,6] [1,2] (fT (B32 (s) (by(with_reducible assumption)) (by omega)) (tT 2 (E2:(AV.b !okS s)=AV.b (decide ¬okS s=true)) (oA 1 (.b (okS s)) z0))) ?_
 refine sn<|dC (¬okS s=true) (fun h0=>?_) fun h0=>?_
 refine sq<|rG cx [2,3] [2] z0<|sn<|rT<|nR<|qR (.tup [.agg [.nl,.nl,.nl,.nl],.i .i64 ((1:Int))]) (B9.tup (ZLe.cons (B9.agg (ZLe.cons (B9.nl' (show List.map c3 (ofS s).1.heard.vec=[]from(by rw[A26 h0];rfl))) (ZLe.cons (B9.nl' (show List.map B1 (ofS s).1.heard.cloud=[]from(by rw[A26 h0];rfl))) (ZLe.cons (B9.nl' (show List.map c3 (ofS s).1.live.vec=[]from(by rw[A26 h0];rfl))) (ZLe.cons (B9.nl' (show List.map B1 (ofS s).1.live.cloud=[]from(by rw[A26 h0];rfl))) ZLe.nil))))) (ZLe.cons (B9.eq (show AV.i .i64 1=AV.i .i64 (ofS s).2 from(by rw[A26 h0]))) ZLe.nil)))
 refine sK<|sn<|sq<|rG cx [2,3] [2] (fT (B8t (s) (by(with_reducible assumption)) (by exact hl.1)) (fT (B8v (J6 s) (by exact A0z (A30 (Classical.not_not.1 h0))) (by exact hl) (by exact A30 (Classical.not_not.1 h0))) (oA 1 (.agg [.sl (List.map c46 (J6 s).adds),.sl (List.map c3 (J6 s).gone.vec),.sl (List.map B1 (J6 s).gone.cloud),.sl (List.map c54 (J6 s).recs)]) (oA 2 (.agg [.sl (List.map c3 { heard:=B4 (J6 s),live:=C6 (B8 (J6 s)):Dig }.heard.vec),.sl (List.map B1 { heard:=B4 (J6 s),live:=C6 (B8 (J6 s)):Dig }.heard.cloud),.sl (List.map c3 { heard:=B4 (J6 s),live:=C6 (B8 (J6 s)):Dig }.live.vec),.sl (List.map B1 { heard:=B4 (J6 s),live:=C6 (B8 (J6 s)):Dig }.live.cloud)]) z0)))) ?_
 refine sn<|rT<|qR (.tup [.agg [.sl (List.map c3 { heard:=B4 (J6 s),live:=C6 (B8 (J6 s)):Dig }.heard.vec),.sl (List.map B1 { heard:=B4 (J6 s),live:=C6 (B8 (J6 s)):Dig }.heard.cloud),.sl (List.map c3 { heard:=B4 (J6 s),live:=C6 (B8 (J6 s)):Dig }.live.vec),.sl (List.map B1 { heard:=B4 (J6 s),live:=C6 (B8 (J6 s)):Dig }.live.cloud)],.i .i64 ((0:Int))]) (B9.tup (ZLe.cons (B9.eq (show AV.agg [AV.sl (List.map c3 { heard:=B4 (J6 s),live:=C6 (B8 (J6 s)):Dig }.heard.vec),AV.sl (List.map B1 { heard:=B4 (J6 s),live:=C6 (B8 (J6 s)):Dig }.heard.cloud),AV.sl (List.map c3 { heard:=B4 (J6 s),live:=C6 (B8 (J6 s)):Dig }.live.vec),AV.sl (List.map B1 { heard:=B4 (J6 s),live:=C6 (B8 (J6 s)):Dig }.live.cloud)]=AV.agg [AV.sl (List.map c3 (ofS s).1.heard.vec),AV.sl (List.map B1 (ofS s).1.heard.cloud),AV.sl (List.map c3 (ofS s).1.live.vec),AV.sl (List.map B1 (ofS s).1.live.cloud)]from(by rw[A0y (Classical.not_not.1 h0),Ac9 (Classical.not_not.1 h0),Ar0 (Classical.not_not.1 h0)]))) (ZLe.cons (B9.eq (show AV.i .i64 0=AV.i .i64 (ofS s).2 from(by rw[A0y (Classical.not_not.1 h0)]))) ZLe.nil)))
theorem B8w(f:Facts)(d:Dig)(hb:szF f)(hl:szL f)(hd:szD d)(h:okF f=true):Con Tryz.prog 126 [.agg (c36 f),.agg (c84 d)] (.agg (c36 (H2 f d))) :=
 by
 have h1:=hl.1
 have h2:=hl.2
 have h3:=A5d f
 refine sC A9 [.cell 4 36] 63 Tryz.func126 ?_
 intro e0 cx
 refine sq<|rG cx [2,3,4] [2,3,4] z0<|sn<|sq<|rG cx [2,3,4,5] [2,3,4,5] z0<|sn<|sq<|rG cx [2,3,4,5,6] [2,3,4,5] (fT (B34 (f) (by(with_reducible assumption)) (by exact h1) (by omega)) (oA 1 (.sl (List.map c46 (B8 f))) z0)) ?_
 refine sn<|sq<|sq<|rG cx [2,3,4,5,6,7] [2,3,4,5] z0<|sn<|bL 0<|A06 5 46 4 0 5500 (σ':=⟨[(2,.ptr (2) (0) (0) (0)),(3,.ptr (3) (0) (0) (0)),(4,.ptr (4) (0) (0) (0)),(5,.ptr (5) (0) (0) (0)),(6,.sl (List.map c46 (B8 f))),(7,.i .i64 ((0:Int)))],[(2,⟨0,36,.var [.sl (List.map c46 f.adds),.sl (List.map c3 f.gone.vec),.sl (List.map B1 f.gone.cloud),.sl (List.map c54 f.recs)]⟩),(3,⟨0,84,.var [.sl (List.map c3 d.heard.vec),.sl (List.map B1 d.heard.cloud),.sl (List.map c3 d.live.vec),.sl (List.map B1 d.live.cloud)]⟩),(4,⟨0,36,.var [.nl,.nl,.nl,.nl]⟩),(5,⟨0,36,.var [.own 5500 0,.nl,.nl,.nl]⟩),(5500,⟨0,46,.row 4 (List.map c46 [])⟩)]⟩) (by kernel_rfl)<|sL (X:=Int×List Entry×List Int×List Span×List Record×List Int×List Span×List Int×List Span×List Entry) (fun x=>⟨[(2,.ptr (2) (0) (0) (0)),(3,.ptr (3) (0) (0) (0)),(4,.ptr (4) (0) (0) (0)),(5,.ptr (5) (0) (0) (0)),(6,.sl (List.map c46 (B8 f))),(7,.i .i64 (x.1))],[(2,⟨0,36,.var [.sl (List.map c46 x.2.1),.sl (List.map c3 x.2.2.1),.sl (List.map B1 x.2.2.2.1),.sl (List.map c54 x.2.2.2.2.1)]⟩),(3,⟨0,84,.var [.sl (List.map c3 x.2.2.2.2.2.1),.sl (List.map B1 x.2.2.2.2.2.2.1),.sl (List.map c3 x.2.2.2.2.2.2.2.1),.sl (List.map B1 x.2.2.2.2.2.2.2.2.1)]⟩),(4,⟨0,36,.var [.nl,.nl,.nl,.nl]⟩),(5,⟨0,36,.var [.own 5500 0,.nl,.nl,.nl]⟩),(5500,⟨0,46,.row 4 (List.map c46 x.2.2.2.2.2.2.2.2.2)⟩)]⟩) (fun x ↦ decLk f x.1 x.2.1 x.2.2.1 x.2.2.2.1 x.2.2.2.2.1 x.2.2.2.2.2.1 x.2.2.2.2.2.2.1 x.2.2.2.2.2.2.2.1 x.2.2.2.2.2.2.2.2.1 x.2.2.2.2.2.2.2.2.2) (fun x ↦ B72 f d x.1 x.2.1 x.2.2.1 x.2.2.2.1 x.2.2.2.2.1 x.2.2.2.2.2.1 x.2.2.2.2.2.2.1 x.2.2.2.2.2.2.2.1 x.2.2.2.2.2.2.2.2.1 x.2.2.2.2.2.2.2.2.2) [2,3,4,5,6,7] [2,3,4,5,5500] (((0:Int),f.adds,f.gone.vec,f.gone.cloud,f.recs,d.heard.vec,d.heard.cloud,d.live.vec,d.live.cloud,[])) (show B72 f d (0:Int) f.adds f.gone.vec f.gone.cloud f.recs d.heard.vec d.heard.cloud d.live.vec d.live.cloud []from(by exact⟨⟨rfl,rfl,rfl,rfl⟩,⟨rfl,rfl,rfl,rfl⟩,by omega,by omega,by simp,rfl⟩)) ?_
 rintro⟨i0,xx1,xx2,xx3,xx4,v5,c6,v7,c8,o9⟩ h_10
 obtain⟨h11,h12,h13,h14,h15,h16⟩:(xx1=f.adds∧xx2=f.gone.vec∧xx3=f.gone.cloud∧xx4=f.recs)∧(v5=d.heard.vec∧c6=d.heard.cloud∧v7=d.live.vec∧c8=d.live.cloud)∧0≤i0∧i0≤(↑(B8 f).length:Int)∧(↑o9.length:Int)≤i0∧Bi2 f d i0 o9:=h_10
 refine sq<|rD cx [2,3,4,5,6,7,17] [2,3,4,5,5500] (tL 2 c46 (B8 f) (zB 3 (i0 <(↑(B8 f).length:Int)))) (fun h17=>?_) fun h17=>?_
 refine sK<|sn<|sq<|bL 1<|sq<|rA cx [2,3,4,5,6,7,28] [2,3,4,5,5500] (fA (0≤i0) (fG c46 (B8 f) i0.toNat (fR 4 (fN 2 4 (fT (B1m ({ vec:=v5,cloud:=c6:Past }) ((B8 f)[i0.toNat]!.dot) (by obtain⟨rfl,rfl,rfl,rfl⟩:=h11;obtain⟨rfl,rfl,rfl,rfl⟩:=h12;have:=hd.1.1;show d.heard.cloud.length≤_;omega)) (tT 8 (E2:(AV.b !C8 { vec:=v5,cloud:=c6:Past } (B8 f)[i0.toNat]!.dot)=AV.b (decide ¬C8 { vec:=v5,cloud:=c6:Past } (B8 f)[i0.toNat]!.dot=true)) (oR 4 (c46 (B8 f)[i0.toNat]!) (oA 7 (.b (C8 { vec:=v5,cloud:=c6:Past } (B8 f)[i0.toNat]!.dot)) z0)))))))) ?_
 refine sn<|dC (¬C8 { vec:=v5,cloud:=c6:Past } (B8 f)[i0.toNat]!.dot=true) (fun h18=>?_) fun h18=>?_
 refine rA cx [2,3,4,5,6,7] [2,3,4,5,5500] (fA (0≤i0) (fG c46 (B8 f) i0.toNat (fR 4 (fN 4 4 (fR 46 (fR 4 (fR 4 (fX c46 [(B8 f)[i0.toNat]!] 4 (fP ((List.map c46 o9).length+(List.map c46 [(B8 f)[i0.toNat]!]).length≤maxLen) (by simp only [List.length_map,List.length_cons,List.length_nil,Go.maxLen];omega) (fP (((List.map c46 o9).length+(List.map c46 [(B8 f)[i0.toNat]!]).length)*(40:Nat)≤(140737488355328:Nat)) (by simp only [List.length_map,List.length_cons,List.length_nil];omega) (fM c46 o9 [(B8 f)[i0.toNat]!] (oR 4 (c46 (B8 f)[i0.toNat]!) (oV 7 { rows:=some (List.map c46 (o9++[(B8 f)[i0.toNat]!])) } z0))))))))))))) ?_
 refine bN<|sn<|rG cx [2,3,4,5,6,7] [2,3,4,5,5500] (tT 1 (B7 (by omega) (by omega):AV.i .i64 (IntKind.i64.wrap (i0+1))=AV.i .i64 (i0+1)) z0) ?_
 refine sn<|nX ((i0+1,xx1,xx2,xx3,xx4,v5,c6,v7,c8,o9++[(B8 f)[i0.toNat]!])) (show((↑(B8 f).length:Int)-(i0+1)).toNat <((↑(B8 f).length:Int)-i0).toNat from(by omega)) (show B72 f d (i0+1) xx1 xx2 xx3 xx4 v5 c6 v7 c8 (o9++[(B8 f)[i0.toNat]!])from ?g7);rotate_left
 refine sK<|bN<|sn<|rG cx [2,3,4,5,6,7] [2,3,4,5,5500] (tT 1 (B7 (by omega) (by omega):AV.i .i64 (IntKind.i64.wrap (i0+1))=AV.i .i64 (i0+1)) z0) ?_
 refine sn<|nX ((i0+1,xx1,xx2,xx3,xx4,v5,c6,v7,c8,o9)) (show((↑(B8 f).length:Int)-(i0+1)).toNat <((↑(B8 f).length:Int)-i0).toNat from(by omega)) (show B72 f d (i0+1) xx1 xx2 xx3 xx4 v5 c6 v7 c8 o9 from ?g9);rotate_left
 refine eX 0<|nE<|nE<|bH<|sn<|sq<|rG cx [2,3,4,5,6,8] [2,3,4,5,5500,8] (fT (B33 ({ adds:=xx1,gone:={ vec:=xx2,cloud:=xx3:Past },recs:=xx4:Facts }) (by obtain⟨rfl,rfl,rfl,rfl⟩:=h11;exact hb) (by obtain⟨rfl,rfl,rfl,rfl⟩:=h11;exact h1) (by obtain⟨rfl,rfl,rfl,rfl⟩:=h11;exact A5c h)) (oA 1 (.agg [.sl (List.map c3 (B4 { adds:=xx1,gone:={ vec:=xx2,cloud:=xx3:Past },recs:=xx4:Facts }).vec),.sl (List.map B1 (B4 { adds:=xx1,gone:={ vec:=xx2,cloud:=xx3:Past },recs:=xx4:Facts }).cloud)]) z0)) ?_
 refine sn<|sq<|rA cx [2,3,4,5,8,9] [2,3,4,5,5500,8,9] (fT (Aw0 (B8 f) ({ data:=#[]:ByteArray }) ((-1:Int)) (by omega)) (fT (Ap2 (B4 { adds:=xx1,gone:={ vec:=xx2,cloud:=xx3:Past },recs:=xx4:Facts }) (L1 (B8 f) { data:=#[]:ByteArray } (-1:Int)) (by exact T3 (J5 _)) (by exact Ar6 _)) (oA 2 (.agg [.sl (List.map c3 (L1 (B8 f) { data:=#[]:ByteArray } (-1:Int)).vec),.sl (List.map B1 (L1 (B8 f) { data:=#[]:ByteArray } (-1:Int)).cloud)]) (oA 3 (.agg [.sl (List.map c3 (A7 (B4 { adds:=xx1,gone:={ vec:=xx2,cloud:=xx3:Past },recs:=xx4:Facts }) (L1 (B8 f) { data:=#[]:ByteArray } (-1:Int))).vec),.sl (List.map B1 (A7 (B4 { adds:=xx1,gone:={ vec:=xx2,cloud:=xx3:Past },recs:=xx4:Facts }) (L1 (B8 f) { data:=#[]:ByteArray } (-1:Int))).cloud)]) z0)))) ?_
 refine sn<|sq<|rG cx [2,3,4,5,8,9,10] [2,3,4,5,5500,8,9,10] (fT (Ap2 (A7 (B4 { adds:=xx1,gone:={ vec:=xx2,cloud:=xx3:Past },recs:=xx4:Facts }) (L1 (B8 f) { data:=#[]:ByteArray } (-1:Int))) ({ vec:=v5,cloud:=c6:Past }) (by exact T3 (K8 _ _)) (by obtain⟨rfl,rfl,rfl,rfl⟩:=h12;exact hd.1.1)) (oA 3 (.agg [.sl (List.map c3 (A7 (A7 (B4 { adds:=xx1,gone:={ vec:=xx2,cloud:=xx3:Past },recs:=xx4:Facts }) (L1 (B8 f) { data:=#[]:ByteArray } (-1:Int))) { vec:=v5,cloud:=c6:Past }).vec),.sl (List.map B1 (A7 (A7 (B4 { adds:=xx1,gone:={ vec:=xx2,cloud:=xx3:Past },recs:=xx4:Facts }) (L1 (B8 f) { data:=#[]:ByteArray } (-1:Int))) { vec:=v5,cloud:=c6:Past }).cloud)]) z0)) ?_
 refine sn<|sq<|rG cx [2,4,5,8,10,11] [2,4,5,5500,8,10,11] (fT (con47 (A7 (B4 { adds:=xx1,gone:={ vec:=xx2,cloud:=xx3:Past },recs:=xx4:Facts }) (L1 (B8 f) { data:=#[]:ByteArray } (-1:Int))) ({ vec:=v7,cloud:=c8:Past }) (by exact T3 (K8 _ _)) (by obtain⟨rfl,rfl,rfl,rfl⟩:=h12;exact hd.2.1)) (oA 3 (.agg [.sl (List.map c3 (X2 (A7 (B4 { adds:=xx1,gone:={ vec:=xx2,cloud:=xx3:Past },recs:=xx4:Facts }) (L1 (B8 f) { data:=#[]:ByteArray } (-1:Int))) { vec:=v7,cloud:=c8:Past }).vec),.sl (List.map B1 (X2 (A7 (B4 { adds:=xx1,gone:={ vec:=xx2,cloud:=xx3:Past },recs:=xx4:Facts }) (L1 (B8 f) { data:=#[]:ByteArray } (-1:Int))) { vec:=v7,cloud:=c8:Past }).cloud)]) z0)) ?_
 refine sn<|sq<|rG cx [2,4,5,8] [2,4,5,5500,8] (fT (B8b ([A7 (A7 (B4 { adds:=xx1,gone:={ vec:=xx2,cloud:=xx3:Past },recs:=xx4:Facts }) (L1 (B8 f) { data:=#[]:ByteArray } (-1:Int))) { vec:=v5,cloud:=c6:Past },X2 (A7 (B4 { adds:=xx1,gone:={ vec:=xx2,cloud:=xx3:Past },recs:=xx4:Facts }) (L1 (B8 f) { data:=#[]:ByteArray } (-1:Int))) { vec:=v7,cloud:=c8:Past }]) (by exact A8m (K8 _ _) (A7s _ _))) (oA 3 (.agg [.sl (List.map c3 (C2 [A7 (A7 (B4 { adds:=xx1,gone:={ vec:=xx2,cloud:=xx3:Past },recs:=xx4:Facts }) (L1 (B8 f) { data:=#[]:ByteArray } (-1:Int))) { vec:=v5,cloud:=c6:Past },X2 (A7 (B4 { adds:=xx1,gone:={ vec:=xx2,cloud:=xx3:Past },recs:=xx4:Facts }) (L1 (B8 f) { data:=#[]:ByteArray } (-1:Int))) { vec:=v7,cloud:=c8:Past }]).vec),.sl (List.map B1 (C2 [A7 (A7 (B4 { adds:=xx1,gone:={ vec:=xx2,cloud:=xx3:Past },recs:=xx4:Facts }) (L1 (B8 f) { data:=#[]:ByteArray } (-1:Int))) { vec:=v5,cloud:=c6:Past },X2 (A7 (B4 { adds:=xx1,gone:={ vec:=xx2,cloud:=xx3:Past },recs:=xx4:Facts }) (L1 (B8 f) { data:=#[]:ByteArray } (-1:Int))) { vec:=v7,cloud:=c8:Past }]).cloud)]) z0)) ?_
 refine sn<|sq<|rG cx [4,5] [4,5,5500] (fT (B8u (xx4) (B4 { adds:=xx1,gone:={ vec:=xx2,cloud:=xx3:Past },recs:=xx4:Facts }) (by obtain⟨rfl,rfl,rfl,rfl⟩:=h11;exact hb.2) (by obtain⟨rfl,rfl,rfl,rfl⟩:=h11;exact h2) (by exact X0 (J5 _))) (oA 3 (.sl (List.map c54 (I3 xx4 (B4 { adds:=xx1,gone:={ vec:=xx2,cloud:=xx3:Past },recs:=xx4:Facts })))) z0)) ?_
 refine sn<|sq<|M8 [5500] [4,5] [4,5] (σ':=⟨[(4,.ptr (4) (0) (0) (0)),(5,.ptr (5) (0) (0) (0))],[(4,⟨0,36,.var [.nl,.nl,.nl,.nl]⟩),(5,⟨0,36,.var [.sl (List.map c46 o9),.sl (List.map c3 (C2 [A7 (A7 (B4 { adds:=xx1,gone:={ vec:=xx2,cloud:=xx3:Past },recs:=xx4:Facts }) (L1 (B8 f) { data:=#[]:ByteArray } (-1:Int))) { vec:=v5,cloud:=c6:Past },X2 (A7 (B4 { adds:=xx1,gone:={ vec:=xx2,cloud:=xx3:Past },recs:=xx4:Facts }) (L1 (B8 f) { data:=#[]:ByteArray } (-1:Int))) { vec:=v7,cloud:=c8:Past }]).vec),.sl (List.map B1 (C2 [A7 (A7 (B4 { adds:=xx1,gone:={ vec:=xx2,cloud:=xx3:Past },recs:=xx4:Facts }) (L1 (B8 f) { data:=#[]:ByteArray } (-1:Int))) { vec:=v5,cloud:=c6:Past },X2 (A7 (B4 { adds:=xx1,gone:={ vec:=xx2,cloud:=xx3:Past },recs:=xx4:Facts }) (L1 (B8 f) { data:=#[]:ByteArray } (-1:Int))) { vec:=v7,cloud:=c8:Past }]).cloud),.sl (List.map c54 (I3 xx4 (B4 { adds:=xx1,gone:={ vec:=xx2,cloud:=xx3:Past },recs:=xx4:Facts })))]⟩)]⟩) (by kernel_rfl)<|rG cx [4] [4] z0<|sn<|rT<|qR (.agg [.sl (List.map c46 o9),.sl (List.map c3 (C2 [A7 (A7 (B4 { adds:=xx1,gone:={ vec:=xx2,cloud:=xx3:Past },recs:=xx4:Facts }) (L1 (B8 f) { data:=#[]:ByteArray } (-1:Int))) { vec:=v5,cloud:=c6:Past },X2 (A7 (B4 { adds:=xx1,gone:={ vec:=xx2,cloud:=xx3:Past },recs:=xx4:Facts }) (L1 (B8 f) { data:=#[]:ByteArray } (-1:Int))) { vec:=v7,cloud:=c8:Past }]).vec),.sl (List.map B1 (C2 [A7 (A7 (B4 { adds:=xx1,gone:={ vec:=xx2,cloud:=xx3:Past },recs:=xx4:Facts }) (L1 (B8 f) { data:=#[]:ByteArray } (-1:Int))) { vec:=v5,cloud:=c6:Past },X2 (A7 (B4 { adds:=xx1,gone:={ vec:=xx2,cloud:=xx3:Past },recs:=xx4:Facts }) (L1 (B8 f) { data:=#[]:ByteArray } (-1:Int))) { vec:=v7,cloud:=c8:Past }]).cloud),.sl (List.map c54 (I3 xx4 (B4 { adds:=xx1,gone:={ vec:=xx2,cloud:=xx3:Past },recs:=xx4:Facts })))]) (.eq ?g24);rotate_left
 case g7 =>
  obtain⟨rfl,rfl,rfl,rfl⟩:=h11
  obtain⟨rfl,rfl,rfl,rfl⟩:=h12
  exact⟨⟨rfl,rfl,rfl,rfl⟩,⟨rfl,rfl,rfl,rfl⟩,by omega,by omega,by rw[List.length_append,List.length_singleton];omega,by unfold Bi2;rw[B36 h13 h17 h16,if_neg h18]⟩
 case g9 =>
  obtain⟨rfl,rfl,rfl,rfl⟩:=h11
  obtain⟨rfl,rfl,rfl,rfl⟩:=h12
  exact⟨⟨rfl,rfl,rfl,rfl⟩,⟨rfl,rfl,rfl,rfl⟩,by omega,by omega,by omega,by unfold Bi2;rw[B36 h13 h17 h16,if_pos (Classical.not_not.1 h18),List.append_nil]⟩
 case g24 =>
  obtain⟨rfl,rfl,rfl,rfl⟩:=h11
  obtain⟨rfl,rfl,rfl,rfl⟩:=h12
  unfold Bi2 at h16
  rw[List.take_of_length_le (by omega)]at h16
  rw[h16,show(⟨#[]⟩:ByteArray)=noneS from rfl,P4]
  rfl
theorem con48(f:Facts)(d:Dig)(hb:szF f)(hl:szL f)(hd:szD d):Con Tryz.prog 48 [.agg (c36 f),.agg (c84 d)] (.tup [.agg (c36 (E8 f d).1),.i .i64 (E8 f d).2]) :=
 by
 have y:¬(¬okF f=true∨¬H8 d=0)→okF f=true∧H8 d=0:=fun h=>⟨Classical.not_not.1 fun k=>h (.inl k),Classical.not_not.1 fun k=>h (.inr k)⟩
 refine sC A9 [.cell 4 36,.tmp 5] 18 Tryz.func48 ?_
 intro e0 cx
 refine sq<|rG cx [2,3,4] [2,3,4] z0<|sn<|sq<|sq<|B3 (σ':=⟨[(2,.ptr (2) (0) (0) (0)),(3,.ptr (3) (0) (0) (0)),(4,.ptr (4) (0) (0) (0)),(13,.b (decide (¬okF f=true∨¬H8 d=0)))],[(2,⟨0,36,.var [.sl (List.map c46 f.adds),.sl (List.map c3 f.gone.vec),.sl (List.map B1 f.gone.cloud),.sl (List.map c54 f.recs)]⟩),(3,⟨0,84,.var [.sl (List.map c3 d.heard.vec),.sl (List.map B1 d.heard.cloud),.sl (List.map c3 d.live.vec),.sl (List.map B1 d.live.cloud)]⟩),(4,⟨0,36,.var [.nl,.nl,.nl,.nl]⟩)]⟩) ?_ ?_
 refine A5 (¬okF f=true) (fun h_1=>?_) (fun h_1=>?_)
 refine rg (A:=_∧_∧(AV.b true=AV.b (decide (¬okF f=true∨¬H8 d=0)))) cx [(1,{ val:=some (.b (okF f)),tell:=some (.b (false)) }),(7,{ tell:=some (.b (decide (¬okF f=true∨¬H8 d=0))) })] [2,3,4,13] [2,3,4] ⟨(M9 h_1),(Av8 (f) (by(with_reducible assumption))),(by simp only [eq_false h_1,tsl])⟩ ?_
 exact⟨rfl,by kernel_rfl⟩
 refine rG cx [2,3,4,13] [2,3,4] (fT (Av8 (f) (by(with_reducible assumption))) (tT 2 (E2:(AV.b !okF f)=AV.b (decide ¬okF f=true)) (tT 3 (A0 h_1) (fT (B73 (d) (by(with_reducible assumption))) (tQ 6 (H8 d=0) (tT 7 (by first | (simp only [eq_false h_1,tsl];done) | simp_all:AV.b (decide ¬H8 d=0)=AV.b (decide (¬okF f=true∨¬H8 d=0))) (oA 1 (.b (okF f)) (oA 5 (.b (decide (H8 d=0))) z0)))))))) ?_
 exact⟨rfl,by kernel_rfl⟩
 refine sn<|dC (¬okF f=true∨¬H8 d=0) (fun h2=>?_) fun h2=>?_
 refine sq<|rG cx [4,5] [4] z0<|sn<|rT<|nR<|qR (.tup [.agg [.nl,.nl,.nl,.nl],.i .i64 ((1:Int))]) (B9.tup (ZLe.cons (B9.agg (ZLe.cons (B9.nl' (show List.map c46 (E8 f d).1.adds=[]from(by rw[A1c h2];rfl))) (ZLe.cons (B9.nl' (show List.map c3 (E8 f d).1.gone.vec=[]from(by rw[A1c h2];rfl))) (ZLe.cons (B9.nl' (show List.map B1 (E8 f d).1.gone.cloud=[]from(by rw[A1c h2];rfl))) (ZLe.cons (B9.nl' (show List.map c54 (E8 f d).1.recs=[]from(by rw[A1c h2];rfl))) ZLe.nil))))) (ZLe.cons (B9.eq (show AV.i .i64 1=AV.i .i64 (E8 f d).2 from(by rw[A1c h2]))) ZLe.nil)))
 refine sK<|sn<|sq<|rG cx [4,5] [4] (fT (B8w (f) (d) (by(with_reducible assumption)) (by(with_reducible assumption)) (by(with_reducible assumption)) (by exact(y h2).1)) (oA 2 (.agg [.sl (List.map c46 (H2 f d).adds),.sl (List.map c3 (H2 f d).gone.vec),.sl (List.map B1 (H2 f d).gone.cloud),.sl (List.map c54 (H2 f d).recs)]) z0)) ?_
 refine sn<|rT<|qR (.tup [.agg [.sl (List.map c46 (H2 f d).adds),.sl (List.map c3 (H2 f d).gone.vec),.sl (List.map B1 (H2 f d).gone.cloud),.sl (List.map c54 (H2 f d).recs)],.i .i64 ((0:Int))]) (B9.tup (ZLe.cons (B9.eq (show AV.agg [AV.sl (List.map c46 (H2 f d).adds),AV.sl (List.map c3 (H2 f d).gone.vec),AV.sl (List.map B1 (H2 f d).gone.cloud),AV.sl (List.map c54 (H2 f d).recs)]=AV.agg [AV.sl (List.map c46 (E8 f d).1.adds),AV.sl (List.map c3 (E8 f d).1.gone.vec),AV.sl (List.map B1 (E8 f d).1.gone.cloud),AV.sl (List.map c54 (E8 f d).1.recs)]from(by rw[Z8 (y h2).1 (y h2).2]))) (ZLe.cons (B9.eq (show AV.i .i64 0=AV.i .i64 (E8 f d).2 from(by rw[Z8 (y h2).1 (y h2).2]))) ZLe.nil)))
theorem con51(s:Facts)(d:Dig)(hb:szF s)(hl:szL s)(hd:szD d):Con Tryz.prog 51 [.agg (c82 s),.agg (c84 d)] (.tup [.agg (c82 (D1 s d).1),.i .i64 (D1 s d).2]) :=
 by
 have h2:=hl.2
 have y:¬(¬okS s=true∨¬H8 d=0)→okS s=true∧H8 d=0:=fun h=>⟨Classical.not_not.1 fun k=>h (.inl k),Classical.not_not.1 fun k=>h (.inr k)⟩
 refine sC A9 [.cell 4 82,.tmp 5] 20 Tryz.func51 ?_
 intro e0 cx
 refine sq<|rG cx [2,3,4] [2,3,4] z0<|sn<|sq<|sq<|B3 (σ':=⟨[(2,.ptr (2) (0) (0) (0)),(3,.ptr (3) (0) (0) (0)),(4,.ptr (4) (0) (0) (0)),(13,.b (decide (¬okS s=true∨¬H8 d=0)))],[(2,⟨0,82,.var [.sl (List.map c46 s.adds),.sl (List.map c3 s.gone.vec),.sl (List.map B1 s.gone.cloud),.sl (List.map c54 s.recs)]⟩),(3,⟨0,84,.var [.sl (List.map c3 d.heard.vec),.sl (List.map B1 d.heard.cloud),.sl (List.map c3 d.live.vec),.sl (List.map B1 d.live.cloud)]⟩),(4,⟨0,82,.var [.nl,.nl,.nl,.nl]⟩)]⟩) ?_ ?_
 refine A5 (¬okS s=true) (fun h1=>?_) (fun h1=>?_)
 refine rg (A:=(AV.b (okS s)=AV.b false)∧_∧(AV.b true=AV.b (decide (¬okS s=true∨¬H8 d=0)))) cx [(1,{ val:=some (.b (okS s)),tell:=some (.b (false)) }),(7,{ tell:=some (.b (decide (¬okS s=true∨¬H8 d=0))) })] [2,3,4,13] [2,3,4] ⟨(M9 h1),(B32 (s) (by(with_reducible assumption)) (by omega)),(by simp only [eq_false h1,tsl])⟩ ?_
 exact⟨rfl,by kernel_rfl⟩
 refine rG cx [2,3,4,13] [2,3,4] (fT (B32 (s) (by(with_reducible assumption)) (by omega)) (tT 2 (E2:(AV.b !okS s)=AV.b (decide ¬okS s=true)) (tT 3 (A0 h1) (fT (B73 (d) (by(with_reducible assumption))) (tQ 6 (H8 d=0) (tT 7 (by first | (simp only [eq_false h1,tsl];done) | simp_all:AV.b (decide ¬H8 d=0)=AV.b (decide (¬okS s=true∨¬H8 d=0))) (oA 1 (.b (okS s)) (oA 5 (.b (decide (H8 d=0))) z0)))))))) ?_
 exact⟨rfl,by kernel_rfl⟩
 refine sn<|dC (¬okS s=true∨¬H8 d=0) (fun hh2=>?_) fun hh2=>?_
 refine sq<|rG cx [4,5] [4] z0<|sn<|rT<|nR<|qR (.tup [.agg [.nl,.nl,.nl,.nl],.i .i64 ((1:Int))]) (B9.tup (ZLe.cons (B9.agg (ZLe.cons (B9.nl' (show List.map c46 (D1 s d).1.adds=[]from(by rw[Z7 hh2];rfl))) (ZLe.cons (B9.nl' (show List.map c3 (D1 s d).1.gone.vec=[]from(by rw[Z7 hh2];rfl))) (ZLe.cons (B9.nl' (show List.map B1 (D1 s d).1.gone.cloud=[]from(by rw[Z7 hh2];rfl))) (ZLe.cons (B9.nl' (show List.map c54 (D1 s d).1.recs=[]from(by rw[Z7 hh2];rfl))) ZLe.nil))))) (ZLe.cons (B9.eq (show AV.i .i64 1=AV.i .i64 (D1 s d).2 from(by rw[Z7 hh2]))) ZLe.nil)))
 refine sK<|sn<|sq<|rA cx [4,5] [4] (fT (B8t (s) (by(with_reducible assumption)) (by exact hl.1)) (fT (B8w (J6 s) (d) (by exact A0z (A30 (y hh2).1)) (by exact hl) (by(with_reducible assumption)) (by exact A30 (y hh2).1)) (fT (Bi1 (H2 (J6 s) d) (by exact A0z (A58 (A30 (y hh2).1))) ?g12 ?g13 (by exact A5c (A58 (A30 (y hh2).1)))) (oA 1 (.agg [.sl (List.map c46 (J6 s).adds),.sl (List.map c3 (J6 s).gone.vec),.sl (List.map B1 (J6 s).gone.cloud),.sl (List.map c54 (J6 s).recs)]) (oA 3 (.agg [.sl (List.map c46 (H2 (J6 s) d).adds),.sl (List.map c3 (H2 (J6 s) d).gone.vec),.sl (List.map B1 (H2 (J6 s) d).gone.cloud),.sl (List.map c54 (H2 (J6 s) d).recs)]) (oA 4 (.agg [.sl (List.map c46 (stF (H2 (J6 s) d)).adds),.sl (List.map c3 (stF (H2 (J6 s) d)).gone.vec),.sl (List.map B1 (stF (H2 (J6 s) d)).gone.cloud),.sl (List.map c54 (stF (H2 (J6 s) d)).recs)]) z0)))))) ?_;rotate_left 2
 refine sn<|rT<|qR (.tup [.agg [.sl (List.map c46 (stF (H2 (J6 s) d)).adds),.sl (List.map c3 (stF (H2 (J6 s) d)).gone.vec),.sl (List.map B1 (stF (H2 (J6 s) d)).gone.cloud),.sl (List.map c54 (stF (H2 (J6 s) d)).recs)],.i .i64 ((0:Int))]) (B9.tup (ZLe.cons (B9.eq (show AV.agg [AV.sl (List.map c46 (stF (H2 (J6 s) d)).adds),AV.sl (List.map c3 (stF (H2 (J6 s) d)).gone.vec),AV.sl (List.map B1 (stF (H2 (J6 s) d)).gone.cloud),AV.sl (List.map c54 (stF (H2 (J6 s) d)).recs)]=AV.agg [AV.sl (List.map c46 (D1 s d).1.adds),AV.sl (List.map c3 (D1 s d).1.gone.vec),AV.sl (List.map B1 (D1 s d).1.gone.cloud),AV.sl (List.map c54 (D1 s d).1.recs)]from(by rw[Z9 (y hh2).1 (y hh2).2,Ar3 (y hh2).1]))) (ZLe.cons (B9.eq (show AV.i .i64 0=AV.i .i64 (D1 s d).2 from(by rw[Z9 (y hh2).1 (y hh2).2]))) ZLe.nil)))
 case g12 =>
  have k1:=B37 (B8 (J6 s)) d
  have k2:=A5d (J6 s)
  have k3:(J6 s).adds.length*40≤140737488351232:=hl.1
  show(A8t (B8 (J6 s)) d).length*40≤_
  omega
 case g13 =>
  have k1:=A5b (J6 s).recs (B4 (J6 s))
  have k3:(J6 s).recs.length*64≤140737488350000:=hl.2
  show(I3 (J6 s).recs (B4 (J6 s))).length*64≤_
  omega
end Go.Proofs.YtphcaholhacnpaaGreat
namespace Go.Proofs.YtphcaholhacnpaaGreat
open Go.E
set_option maxRecDepth 100000
set_option maxHeartbeats 4000000
def kFx:Facts:=⟨[⟨⟨0,1⟩,⟨#[65]⟩,5⟩,⟨⟨0,2⟩,⟨#[65]⟩,6⟩],⟨[1,1],[]⟩,[]⟩
theorem B8x:okF kFx=true:=D9.2 ⟨by decide +kernel,by decide +kernel,by decide +kernel⟩
theorem B74:B8 kFx=[⟨⟨0,2⟩,⟨#[65]⟩,6⟩]:=by decide +kernel
theorem B38:B4 kFx=⟨[2,1],[]⟩:=by decide +kernel
theorem B75:C6 [⟨⟨0,2⟩,⟨#[65]⟩,6⟩]=⟨[],[⟨0,2,2⟩]⟩:=by decide +kernel
theorem kFx_of:ofF kFx=(⟨⟨[2,1],[]⟩,⟨[],[⟨0,2,2⟩]⟩⟩,0):=by rw[A31 B8x,B74,B38,B75]
theorem kFx_sz:szB 7 kFx:=⟨A0z B8x,by decide,by decide⟩
theorem R9{f:Facts}(h:szB 1 f):szB 7 f:=B6q h (by decide)
theorem B8y(f:Facts):szD (ofF f).1:=by
 by_cases h:okF f=true
 ·rw[A31 h];exact⟨X0 (J5 f),X0 (Q9 _)⟩
 ·rw[X1 h];exact⟨⟨by decide,by decide⟩,⟨by decide,by decide⟩⟩
theorem B39(s:Facts):szD (ofS s).1:=by
 by_cases h:okS s=true
 ·rw[A0y h];exact⟨X0 (D9.1 (T4 h)).2.1,X0 (Q9 _)⟩
 ·rw[A26 h];exact⟨⟨by decide,by decide⟩,⟨by decide,by decide⟩⟩
theorem B3a{f:Facts}{d:Dig}(h:szB 7 f)(hl:f.adds.length*40≤140737488351232):szF (E8 f d).1∧(E8 f d).1.recs.length≤f.recs.length∧(E8 f d).1.adds.length≤f.adds.length:=by
 by_cases k:okF f=true∧H8 d=0
 ·rw[Z8 k.1 k.2]
  exact⟨A0z (A58 k.1),A5b _ _,Nat.le_trans (B37 _ _) (A5d f)⟩
 ·unfold E8
  rw[if_neg k]
  exact⟨A0z B2q,Nat.zero_le _,Nat.zero_le _⟩
theorem Aw2{s:Facts}{d:Dig}(h:okS s=true):okF (A5s s d)=true:=by
 rw[← Ar3 h]
 exact T4 (Aw1 (A58 (A30 h)))
theorem Aj1{s:Facts}{d:Dig}:szF (D1 s d).1∧(D1 s d).1.recs.length≤s.recs.length∧(D1 s d).1.adds.length≤s.adds.length:=by
 by_cases k:okS s=true∧H8 d=0
 ·rw[Z9 k.1 k.2]
  exact⟨A0z (Aw2 k.1),Nat.le_refl _,B37 _ _⟩
 ·unfold D1
  rw[if_neg k]
  exact⟨A0z B2q,Nat.zero_le _,Nat.zero_le _⟩
theorem B76 :Con Tryz.prog 34 [] (.b true) :=
 by
 refine sC A9 [.tmp 0] 50 Tryz.func34 ?_
 intro e0 cx
 refine sq<|rG cx [] [] z0<|sn<|sq<|rG cx [1] [1] z0<|sn<|sq<|rG cx [2,3] [2] (fP (Con Tryz.prog (36:Nat) [AV.agg [AV.sl (List.map c46 [{ dot:={ rep:=(0:Int),num:=(1:Int):Dot },sku:={ data:=#[(65:UInt8)]:ByteArray },qty:=(5:Int):Entry },{ dot:={ rep:=(0:Int),num:=(2:Int):Dot },sku:={ data:=#[(65:UInt8)]:ByteArray },qty:=(6:Int):Entry }]),AV.sl (List.map c3 [(1:Int),(1:Int)]),AV.nl,AV.nl]] (AV.tup [AV.agg [AV.sl (List.map c3 (ofF { adds:=[{ dot:={ rep:=(0:Int),num:=(1:Int):Dot },sku:={ data:=#[(65:UInt8)]:ByteArray },qty:=(5:Int):Entry },{ dot:={ rep:=(0:Int),num:=(2:Int):Dot },sku:={ data:=#[(65:UInt8)]:ByteArray },qty:=(6:Int):Entry }],gone:={ vec:=[(1:Int),(1:Int)],cloud:=[]:Past },recs:=[]:Facts }).1.heard.vec),AV.sl (List.map B1 (ofF { adds:=[{ dot:={ rep:=(0:Int),num:=(1:Int):Dot },sku:={ data:=#[(65:UInt8)]:ByteArray },qty:=(5:Int):Entry },{ dot:={ rep:=(0:Int),num:=(2:Int):Dot },sku:={ data:=#[(65:UInt8)]:ByteArray },qty:=(6:Int):Entry }],gone:={ vec:=[(1:Int),(1:Int)],cloud:=[]:Past },recs:=[]:Facts }).1.heard.cloud),AV.sl (List.map c3 (ofF { adds:=[{ dot:={ rep:=(0:Int),num:=(1:Int):Dot },sku:={ data:=#[(65:UInt8)]:ByteArray },qty:=(5:Int):Entry },{ dot:={ rep:=(0:Int),num:=(2:Int):Dot },sku:={ data:=#[(65:UInt8)]:ByteArray },qty:=(6:Int):Entry }],gone:={ vec:=[(1:Int),(1:Int)],cloud:=[]:Past },recs:=[]:Facts }).1.live.vec),AV.sl (List.map B1 (ofF { adds:=[{ dot:={ rep:=(0:Int),num:=(1:Int):Dot },sku:={ data:=#[(65:UInt8)]:ByteArray },qty:=(5:Int):Entry },{ dot:={ rep:=(0:Int),num:=(2:Int):Dot },sku:={ data:=#[(65:UInt8)]:ByteArray },qty:=(6:Int):Entry }],gone:={ vec:=[(1:Int),(1:Int)],cloud:=[]:Past },recs:=[]:Facts }).1.live.cloud)],AV.i .i64 (ofF { adds:=[{ dot:={ rep:=(0:Int),num:=(1:Int):Dot },sku:={ data:=#[(65:UInt8)]:ByteArray },qty:=(5:Int):Entry },{ dot:={ rep:=(0:Int),num:=(2:Int):Dot },sku:={ data:=#[(65:UInt8)]:ByteArray },qty:=(6:Int):Entry }],gone:={ vec:=[(1:Int),(1:Int)],cloud:=[]:Past },recs:=[]:Facts }).2])) (Con.le (Bg5 ({ adds:=[{ dot:={ rep:=(0:Int),num:=(1:Int):Dot },sku:={ data:=#[(65:UInt8)]:ByteArray },qty:=(5:Int):Entry },{ dot:={ rep:=(0:Int),num:=(2:Int):Dot },sku:={ data:=#[(65:UInt8)]:ByteArray },qty:=(6:Int):Entry }],gone:={ vec:=[(1:Int),(1:Int)],cloud:=[]:Past },recs:=[]:Facts }) (by exact kFx_sz)) (ZLe.cons (B9.agg (ZLe.cons (B9.refl _) (ZLe.cons (B9.refl _) (ZLe.cons B9.nl (ZLe.cons B9.nl ZLe.nil))))) ZLe.nil)) (oA 1 (.tup [.agg [.sl (List.map c3 (ofF { adds:=[{ dot:={ rep:=(0:Int),num:=(1:Int):Dot },sku:={ data:=#[(65:UInt8)]:ByteArray },qty:=(5:Int):Entry },{ dot:={ rep:=(0:Int),num:=(2:Int):Dot },sku:={ data:=#[(65:UInt8)]:ByteArray },qty:=(6:Int):Entry }],gone:={ vec:=[(1:Int),(1:Int)],cloud:=[]:Past },recs:=[]:Facts }).1.heard.vec),.sl (List.map B1 (ofF { adds:=[{ dot:={ rep:=(0:Int),num:=(1:Int):Dot },sku:={ data:=#[(65:UInt8)]:ByteArray },qty:=(5:Int):Entry },{ dot:={ rep:=(0:Int),num:=(2:Int):Dot },sku:={ data:=#[(65:UInt8)]:ByteArray },qty:=(6:Int):Entry }],gone:={ vec:=[(1:Int),(1:Int)],cloud:=[]:Past },recs:=[]:Facts }).1.heard.cloud),.sl (List.map c3 (ofF { adds:=[{ dot:={ rep:=(0:Int),num:=(1:Int):Dot },sku:={ data:=#[(65:UInt8)]:ByteArray },qty:=(5:Int):Entry },{ dot:={ rep:=(0:Int),num:=(2:Int):Dot },sku:={ data:=#[(65:UInt8)]:ByteArray },qty:=(6:Int):Entry }],gone:={ vec:=[(1:Int),(1:Int)],cloud:=[]:Past },recs:=[]:Facts }).1.live.vec),.sl (List.map B1 (ofF { adds:=[{ dot:={ rep:=(0:Int),num:=(1:Int):Dot },sku:={ data:=#[(65:UInt8)]:ByteArray },qty:=(5:Int):Entry },{ dot:={ rep:=(0:Int),num:=(2:Int):Dot },sku:={ data:=#[(65:UInt8)]:ByteArray },qty:=(6:Int):Entry }],gone:={ vec:=[(1:Int),(1:Int)],cloud:=[]:Past },recs:=[]:Facts }).1.live.cloud)],.i .i64 ((ofF { adds:=[{ dot:={ rep:=(0:Int),num:=(1:Int):Dot },sku:={ data:=#[(65:UInt8)]:ByteArray },qty:=(5:Int):Entry },{ dot:={ rep:=(0:Int),num:=(2:Int):Dot },sku:={ data:=#[(65:UInt8)]:ByteArray },qty:=(6:Int):Entry }],gone:={ vec:=[(1:Int),(1:Int)],cloud:=[]:Past },recs:=[]:Facts }).2)]) z0)) ?_
 refine sn<|sq<|B3 (σ':=⟨[(0,.b (decide ((ofF { adds:=[{ dot:={ rep:=(0:Int),num:=(1:Int):Dot },sku:={ data:=#[(65:UInt8)]:ByteArray },qty:=(5:Int):Entry },{ dot:={ rep:=(0:Int),num:=(2:Int):Dot },sku:={ data:=#[(65:UInt8)]:ByteArray },qty:=(6:Int):Entry }],gone:={ vec:=[(1:Int),(1:Int)],cloud:=[]:Past },recs:=[]:Facts }).2=0∧(↑(ofF { adds:=[{ dot:={ rep:=(0:Int),num:=(1:Int):Dot },sku:={ data:=#[(65:UInt8)]:ByteArray },qty:=(5:Int):Entry },{ dot:={ rep:=(0:Int),num:=(2:Int):Dot },sku:={ data:=#[(65:UInt8)]:ByteArray },qty:=(6:Int):Entry }],gone:={ vec:=[(1:Int),(1:Int)],cloud:=[]:Past },recs:=[]:Facts }).1.heard.vec.length:Int)=2∧(ofF { adds:=[{ dot:={ rep:=(0:Int),num:=(1:Int):Dot },sku:={ data:=#[(65:UInt8)]:ByteArray },qty:=(5:Int):Entry },{ dot:={ rep:=(0:Int),num:=(2:Int):Dot },sku:={ data:=#[(65:UInt8)]:ByteArray },qty:=(6:Int):Entry }],gone:={ vec:=[(1:Int),(1:Int)],cloud:=[]:Past },recs:=[]:Facts }).1.heard.vec[(0:Nat)]! =(2:Int)∧(↑(ofF { adds:=[{ dot:={ rep:=(0:Int),num:=(1:Int):Dot },sku:={ data:=#[(65:UInt8)]:ByteArray },qty:=(5:Int):Entry },{ dot:={ rep:=(0:Int),num:=(2:Int):Dot },sku:={ data:=#[(65:UInt8)]:ByteArray },qty:=(6:Int):Entry }],gone:={ vec:=[(1:Int),(1:Int)],cloud:=[]:Past },recs:=[]:Facts }).1.live.cloud.length:Int)=1∧(ofF { adds:=[{ dot:={ rep:=(0:Int),num:=(1:Int):Dot },sku:={ data:=#[(65:UInt8)]:ByteArray },qty:=(5:Int):Entry },{ dot:={ rep:=(0:Int),num:=(2:Int):Dot },sku:={ data:=#[(65:UInt8)]:ByteArray },qty:=(6:Int):Entry }],gone:={ vec:=[(1:Int),(1:Int)],cloud:=[]:Past },recs:=[]:Facts }).1.live.cloud[(0:Nat)]!.lo=2)))],[]⟩) ?_ ?_
 refine A5 ((ofF { adds:=[{ dot:={ rep:=(0:Int),num:=(1:Int):Dot },sku:={ data:=#[(65:UInt8)]:ByteArray },qty:=(5:Int):Entry },{ dot:={ rep:=(0:Int),num:=(2:Int):Dot },sku:={ data:=#[(65:UInt8)]:ByteArray },qty:=(6:Int):Entry }],gone:={ vec:=[(1:Int),(1:Int)],cloud:=[]:Past },recs:=[]:Facts }).2=0) (fun h1=>?_) (fun h1=>?_)
 refine A5 ((↑(ofF { adds:=[{ dot:={ rep:=(0:Int),num:=(1:Int):Dot },sku:={ data:=#[(65:UInt8)]:ByteArray },qty:=(5:Int):Entry },{ dot:={ rep:=(0:Int),num:=(2:Int):Dot },sku:={ data:=#[(65:UInt8)]:ByteArray },qty:=(6:Int):Entry }],gone:={ vec:=[(1:Int),(1:Int)],cloud:=[]:Past },recs:=[]:Facts }).1.heard.vec.length:Int)=2) (fun h2=>?_) (fun h2=>?_)
 refine A5 ((ofF { adds:=[{ dot:={ rep:=(0:Int),num:=(1:Int):Dot },sku:={ data:=#[(65:UInt8)]:ByteArray },qty:=(5:Int):Entry },{ dot:={ rep:=(0:Int),num:=(2:Int):Dot },sku:={ data:=#[(65:UInt8)]:ByteArray },qty:=(6:Int):Entry }],gone:={ vec:=[(1:Int),(1:Int)],cloud:=[]:Past },recs:=[]:Facts }).1.heard.vec[(0:Nat)]! =(2:Int)) (fun h3=>?_) (fun h3=>?_)
 refine A5 ((↑(ofF { adds:=[{ dot:={ rep:=(0:Int),num:=(1:Int):Dot },sku:={ data:=#[(65:UInt8)]:ByteArray },qty:=(5:Int):Entry },{ dot:={ rep:=(0:Int),num:=(2:Int):Dot },sku:={ data:=#[(65:UInt8)]:ByteArray },qty:=(6:Int):Entry }],gone:={ vec:=[(1:Int),(1:Int)],cloud:=[]:Past },recs:=[]:Facts }).1.live.cloud.length:Int)=1) (fun h4=>?_) (fun h4=>?_)
 refine rG cx [0] [] (tT 1 (A4 h1) (tL 6 c3 ((ofF { adds:=[{ dot:={ rep:=(0:Int),num:=(1:Int):Dot },sku:={ data:=#[(65:UInt8)]:ByteArray },qty:=(5:Int):Entry },{ dot:={ rep:=(0:Int),num:=(2:Int):Dot },sku:={ data:=#[(65:UInt8)]:ByteArray },qty:=(6:Int):Entry }],gone:={ vec:=[(1:Int),(1:Int)],cloud:=[]:Past },recs:=[]:Facts }).1.heard.vec) (tT 7 (A4 h2) (fO ((0:Int)≤(0:Int)) (fP ((List.map c3 (ofF { adds:=[{ dot:={ rep:=(0:Int),num:=(1:Int):Dot },sku:={ data:=#[(65:UInt8)]:ByteArray },qty:=(5:Int):Entry },{ dot:={ rep:=(0:Int),num:=(2:Int):Dot },sku:={ data:=#[(65:UInt8)]:ByteArray },qty:=(6:Int):Entry }],gone:={ vec:=[(1:Int),(1:Int)],cloud:=[]:Past },recs:=[]:Facts }).1.heard.vec)[Int.toNat (0:Int)]?=some (c3 (ofF { adds:=[{ dot:={ rep:=(0:Int),num:=(1:Int):Dot },sku:={ data:=#[(65:UInt8)]:ByteArray },qty:=(5:Int):Entry },{ dot:={ rep:=(0:Int),num:=(2:Int):Dot },sku:={ data:=#[(65:UInt8)]:ByteArray },qty:=(6:Int):Entry }],gone:={ vec:=[(1:Int),(1:Int)],cloud:=[]:Past },recs:=[]:Facts }).1.heard.vec[(0:Nat)]!)) (by exact B6x _ (fun k=>by omega)) (fR 1 (tT 15 (A4 h3) (tL 21 B1 ((ofF { adds:=[{ dot:={ rep:=(0:Int),num:=(1:Int):Dot },sku:={ data:=#[(65:UInt8)]:ByteArray },qty:=(5:Int):Entry },{ dot:={ rep:=(0:Int),num:=(2:Int):Dot },sku:={ data:=#[(65:UInt8)]:ByteArray },qty:=(6:Int):Entry }],gone:={ vec:=[(1:Int),(1:Int)],cloud:=[]:Past },recs:=[]:Facts }).1.live.cloud) (tT 22 (A4 h4) (fO ((0:Int)≤(0:Int)) (fP ((List.map B1 (ofF { adds:=[{ dot:={ rep:=(0:Int),num:=(1:Int):Dot },sku:={ data:=#[(65:UInt8)]:ByteArray },qty:=(5:Int):Entry },{ dot:={ rep:=(0:Int),num:=(2:Int):Dot },sku:={ data:=#[(65:UInt8)]:ByteArray },qty:=(6:Int):Entry }],gone:={ vec:=[(1:Int),(1:Int)],cloud:=[]:Past },recs:=[]:Facts }).1.live.cloud)[Int.toNat (0:Int)]?=some (B1 (ofF { adds:=[{ dot:={ rep:=(0:Int),num:=(1:Int):Dot },sku:={ data:=#[(65:UInt8)]:ByteArray },qty:=(5:Int):Entry },{ dot:={ rep:=(0:Int),num:=(2:Int):Dot },sku:={ data:=#[(65:UInt8)]:ByteArray },qty:=(6:Int):Entry }],gone:={ vec:=[(1:Int),(1:Int)],cloud:=[]:Past },recs:=[]:Facts }).1.live.cloud[(0:Nat)]!)) (by exact B6x _ (fun k=>by omega)) (fR 3 (tB 31 ((ofF { adds:=[{ dot:={ rep:=(0:Int),num:=(1:Int):Dot },sku:={ data:=#[(65:UInt8)]:ByteArray },qty:=(5:Int):Entry },{ dot:={ rep:=(0:Int),num:=(2:Int):Dot },sku:={ data:=#[(65:UInt8)]:ByteArray },qty:=(6:Int):Entry }],gone:={ vec:=[(1:Int),(1:Int)],cloud:=[]:Past },recs:=[]:Facts }).1.live.cloud[(0:Nat)]!.lo=2) (tD 33 (decide ((ofF { adds:=[{ dot:={ rep:=(0:Int),num:=(1:Int):Dot },sku:={ data:=#[(65:UInt8)]:ByteArray },qty:=(5:Int):Entry },{ dot:={ rep:=(0:Int),num:=(2:Int):Dot },sku:={ data:=#[(65:UInt8)]:ByteArray },qty:=(6:Int):Entry }],gone:={ vec:=[(1:Int),(1:Int)],cloud:=[]:Past },recs:=[]:Facts }).1.live.cloud[(0:Nat)]!.lo=2)) ((ofF { adds:=[{ dot:={ rep:=(0:Int),num:=(1:Int):Dot },sku:={ data:=#[(65:UInt8)]:ByteArray },qty:=(5:Int):Entry },{ dot:={ rep:=(0:Int),num:=(2:Int):Dot },sku:={ data:=#[(65:UInt8)]:ByteArray },qty:=(6:Int):Entry }],gone:={ vec:=[(1:Int),(1:Int)],cloud:=[]:Past },recs:=[]:Facts }).2=0∧(↑(ofF { adds:=[{ dot:={ rep:=(0:Int),num:=(1:Int):Dot },sku:={ data:=#[(65:UInt8)]:ByteArray },qty:=(5:Int):Entry },{ dot:={ rep:=(0:Int),num:=(2:Int):Dot },sku:={ data:=#[(65:UInt8)]:ByteArray },qty:=(6:Int):Entry }],gone:={ vec:=[(1:Int),(1:Int)],cloud:=[]:Past },recs:=[]:Facts }).1.heard.vec.length:Int)=2∧(ofF { adds:=[{ dot:={ rep:=(0:Int),num:=(1:Int):Dot },sku:={ data:=#[(65:UInt8)]:ByteArray },qty:=(5:Int):Entry },{ dot:={ rep:=(0:Int),num:=(2:Int):Dot },sku:={ data:=#[(65:UInt8)]:ByteArray },qty:=(6:Int):Entry }],gone:={ vec:=[(1:Int),(1:Int)],cloud:=[]:Past },recs:=[]:Facts }).1.heard.vec[(0:Nat)]! =(2:Int)∧(↑(ofF { adds:=[{ dot:={ rep:=(0:Int),num:=(1:Int):Dot },sku:={ data:=#[(65:UInt8)]:ByteArray },qty:=(5:Int):Entry },{ dot:={ rep:=(0:Int),num:=(2:Int):Dot },sku:={ data:=#[(65:UInt8)]:ByteArray },qty:=(6:Int):Entry }],gone:={ vec:=[(1:Int),(1:Int)],cloud:=[]:Past },recs:=[]:Facts }).1.live.cloud.length:Int)=1∧(ofF { adds:=[{ dot:={ rep:=(0:Int),num:=(1:Int):Dot },sku:={ data:=#[(65:UInt8)]:ByteArray },qty:=(5:Int):Entry },{ dot:={ rep:=(0:Int),num:=(2:Int):Dot },sku:={ data:=#[(65:UInt8)]:ByteArray },qty:=(6:Int):Entry }],gone:={ vec:=[(1:Int),(1:Int)],cloud:=[]:Past },recs:=[]:Facts }).1.live.cloud[(0:Nat)]!.lo=2) (by simp only [eq_true h1,eq_true h2,eq_true h3,eq_true h4,tsl]) (oR 13 (c3 (ofF { adds:=[{ dot:={ rep:=(0:Int),num:=(1:Int):Dot },sku:={ data:=#[(65:UInt8)]:ByteArray },qty:=(5:Int):Entry },{ dot:={ rep:=(0:Int),num:=(2:Int):Dot },sku:={ data:=#[(65:UInt8)]:ByteArray },qty:=(6:Int):Entry }],gone:={ vec:=[(1:Int),(1:Int)],cloud:=[]:Past },recs:=[]:Facts }).1.heard.vec[(0:Nat)]!) (oR 28 (B1 (ofF { adds:=[{ dot:={ rep:=(0:Int),num:=(1:Int):Dot },sku:={ data:=#[(65:UInt8)]:ByteArray },qty:=(5:Int):Entry },{ dot:={ rep:=(0:Int),num:=(2:Int):Dot },sku:={ data:=#[(65:UInt8)]:ByteArray },qty:=(6:Int):Entry }],gone:={ vec:=[(1:Int),(1:Int)],cloud:=[]:Past },recs:=[]:Facts }).1.live.cloud[(0:Nat)]!) z0)))))))))))))))) ?_
 exact⟨rfl,by kernel_rfl⟩
 refine rG cx [0] [] (tT 1 (A4 h1) (tL 6 c3 ((ofF { adds:=[{ dot:={ rep:=(0:Int),num:=(1:Int):Dot },sku:={ data:=#[(65:UInt8)]:ByteArray },qty:=(5:Int):Entry },{ dot:={ rep:=(0:Int),num:=(2:Int):Dot },sku:={ data:=#[(65:UInt8)]:ByteArray },qty:=(6:Int):Entry }],gone:={ vec:=[(1:Int),(1:Int)],cloud:=[]:Past },recs:=[]:Facts }).1.heard.vec) (tT 7 (A4 h2) (fO ((0:Int)≤(0:Int)) (fP ((List.map c3 (ofF { adds:=[{ dot:={ rep:=(0:Int),num:=(1:Int):Dot },sku:={ data:=#[(65:UInt8)]:ByteArray },qty:=(5:Int):Entry },{ dot:={ rep:=(0:Int),num:=(2:Int):Dot },sku:={ data:=#[(65:UInt8)]:ByteArray },qty:=(6:Int):Entry }],gone:={ vec:=[(1:Int),(1:Int)],cloud:=[]:Past },recs:=[]:Facts }).1.heard.vec)[Int.toNat (0:Int)]?=some (c3 (ofF { adds:=[{ dot:={ rep:=(0:Int),num:=(1:Int):Dot },sku:={ data:=#[(65:UInt8)]:ByteArray },qty:=(5:Int):Entry },{ dot:={ rep:=(0:Int),num:=(2:Int):Dot },sku:={ data:=#[(65:UInt8)]:ByteArray },qty:=(6:Int):Entry }],gone:={ vec:=[(1:Int),(1:Int)],cloud:=[]:Past },recs:=[]:Facts }).1.heard.vec[(0:Nat)]!)) (by exact B6x _ (fun k=>by omega)) (fR 1 (tT 15 (A4 h3) (tL 21 B1 ((ofF { adds:=[{ dot:={ rep:=(0:Int),num:=(1:Int):Dot },sku:={ data:=#[(65:UInt8)]:ByteArray },qty:=(5:Int):Entry },{ dot:={ rep:=(0:Int),num:=(2:Int):Dot },sku:={ data:=#[(65:UInt8)]:ByteArray },qty:=(6:Int):Entry }],gone:={ vec:=[(1:Int),(1:Int)],cloud:=[]:Past },recs:=[]:Facts }).1.live.cloud) (tT 22 (A0 h4) (tD 33 false ((ofF { adds:=[{ dot:={ rep:=(0:Int),num:=(1:Int):Dot },sku:={ data:=#[(65:UInt8)]:ByteArray },qty:=(5:Int):Entry },{ dot:={ rep:=(0:Int),num:=(2:Int):Dot },sku:={ data:=#[(65:UInt8)]:ByteArray },qty:=(6:Int):Entry }],gone:={ vec:=[(1:Int),(1:Int)],cloud:=[]:Past },recs:=[]:Facts }).2=0∧(↑(ofF { adds:=[{ dot:={ rep:=(0:Int),num:=(1:Int):Dot },sku:={ data:=#[(65:UInt8)]:ByteArray },qty:=(5:Int):Entry },{ dot:={ rep:=(0:Int),num:=(2:Int):Dot },sku:={ data:=#[(65:UInt8)]:ByteArray },qty:=(6:Int):Entry }],gone:={ vec:=[(1:Int),(1:Int)],cloud:=[]:Past },recs:=[]:Facts }).1.heard.vec.length:Int)=2∧(ofF { adds:=[{ dot:={ rep:=(0:Int),num:=(1:Int):Dot },sku:={ data:=#[(65:UInt8)]:ByteArray },qty:=(5:Int):Entry },{ dot:={ rep:=(0:Int),num:=(2:Int):Dot },sku:={ data:=#[(65:UInt8)]:ByteArray },qty:=(6:Int):Entry }],gone:={ vec:=[(1:Int),(1:Int)],cloud:=[]:Past },recs:=[]:Facts }).1.heard.vec[(0:Nat)]! =(2:Int)∧(↑(ofF { adds:=[{ dot:={ rep:=(0:Int),num:=(1:Int):Dot },sku:={ data:=#[(65:UInt8)]:ByteArray },qty:=(5:Int):Entry },{ dot:={ rep:=(0:Int),num:=(2:Int):Dot },sku:={ data:=#[(65:UInt8)]:ByteArray },qty:=(6:Int):Entry }],gone:={ vec:=[(1:Int),(1:Int)],cloud:=[]:Past },recs:=[]:Facts }).1.live.cloud.length:Int)=1∧(ofF { adds:=[{ dot:={ rep:=(0:Int),num:=(1:Int):Dot },sku:={ data:=#[(65:UInt8)]:ByteArray },qty:=(5:Int):Entry },{ dot:={ rep:=(0:Int),num:=(2:Int):Dot },sku:={ data:=#[(65:UInt8)]:ByteArray },qty:=(6:Int):Entry }],gone:={ vec:=[(1:Int),(1:Int)],cloud:=[]:Past },recs:=[]:Facts }).1.live.cloud[(0:Nat)]!.lo=2) (by simp only [eq_true h1,eq_true h2,eq_true h3,eq_false h4,tsl]) (oR 13 (c3 (ofF { adds:=[{ dot:={ rep:=(0:Int),num:=(1:Int):Dot },sku:={ data:=#[(65:UInt8)]:ByteArray },qty:=(5:Int):Entry },{ dot:={ rep:=(0:Int),num:=(2:Int):Dot },sku:={ data:=#[(65:UInt8)]:ByteArray },qty:=(6:Int):Entry }],gone:={ vec:=[(1:Int),(1:Int)],cloud:=[]:Past },recs:=[]:Facts }).1.heard.vec[(0:Nat)]!) z0))))))))))) ?_
 exact⟨rfl,by kernel_rfl⟩
 refine rG cx [0] [] (tT 1 (A4 h1) (tL 6 c3 ((ofF { adds:=[{ dot:={ rep:=(0:Int),num:=(1:Int):Dot },sku:={ data:=#[(65:UInt8)]:ByteArray },qty:=(5:Int):Entry },{ dot:={ rep:=(0:Int),num:=(2:Int):Dot },sku:={ data:=#[(65:UInt8)]:ByteArray },qty:=(6:Int):Entry }],gone:={ vec:=[(1:Int),(1:Int)],cloud:=[]:Past },recs:=[]:Facts }).1.heard.vec) (tT 7 (A4 h2) (fO ((0:Int)≤(0:Int)) (fP ((List.map c3 (ofF { adds:=[{ dot:={ rep:=(0:Int),num:=(1:Int):Dot },sku:={ data:=#[(65:UInt8)]:ByteArray },qty:=(5:Int):Entry },{ dot:={ rep:=(0:Int),num:=(2:Int):Dot },sku:={ data:=#[(65:UInt8)]:ByteArray },qty:=(6:Int):Entry }],gone:={ vec:=[(1:Int),(1:Int)],cloud:=[]:Past },recs:=[]:Facts }).1.heard.vec)[Int.toNat (0:Int)]?=some (c3 (ofF { adds:=[{ dot:={ rep:=(0:Int),num:=(1:Int):Dot },sku:={ data:=#[(65:UInt8)]:ByteArray },qty:=(5:Int):Entry },{ dot:={ rep:=(0:Int),num:=(2:Int):Dot },sku:={ data:=#[(65:UInt8)]:ByteArray },qty:=(6:Int):Entry }],gone:={ vec:=[(1:Int),(1:Int)],cloud:=[]:Past },recs:=[]:Facts }).1.heard.vec[(0:Nat)]!)) (by exact B6x _ (fun k=>by omega)) (fR 1 (tT 15 (A0 h3) (tD 33 false ((ofF { adds:=[{ dot:={ rep:=(0:Int),num:=(1:Int):Dot },sku:={ data:=#[(65:UInt8)]:ByteArray },qty:=(5:Int):Entry },{ dot:={ rep:=(0:Int),num:=(2:Int):Dot },sku:={ data:=#[(65:UInt8)]:ByteArray },qty:=(6:Int):Entry }],gone:={ vec:=[(1:Int),(1:Int)],cloud:=[]:Past },recs:=[]:Facts }).2=0∧(↑(ofF { adds:=[{ dot:={ rep:=(0:Int),num:=(1:Int):Dot },sku:={ data:=#[(65:UInt8)]:ByteArray },qty:=(5:Int):Entry },{ dot:={ rep:=(0:Int),num:=(2:Int):Dot },sku:={ data:=#[(65:UInt8)]:ByteArray },qty:=(6:Int):Entry }],gone:={ vec:=[(1:Int),(1:Int)],cloud:=[]:Past },recs:=[]:Facts }).1.heard.vec.length:Int)=2∧(ofF { adds:=[{ dot:={ rep:=(0:Int),num:=(1:Int):Dot },sku:={ data:=#[(65:UInt8)]:ByteArray },qty:=(5:Int):Entry },{ dot:={ rep:=(0:Int),num:=(2:Int):Dot },sku:={ data:=#[(65:UInt8)]:ByteArray },qty:=(6:Int):Entry }],gone:={ vec:=[(1:Int),(1:Int)],cloud:=[]:Past },recs:=[]:Facts }).1.heard.vec[(0:Nat)]! =(2:Int)∧(↑(ofF { adds:=[{ dot:={ rep:=(0:Int),num:=(1:Int):Dot },sku:={ data:=#[(65:UInt8)]:ByteArray },qty:=(5:Int):Entry },{ dot:={ rep:=(0:Int),num:=(2:Int):Dot },sku:={ data:=#[(65:UInt8)]:ByteArray },qty:=(6:Int):Entry }],gone:={ vec:=[(1:Int),(1:Int)],cloud:=[]:Past },recs:=[]:Facts }).1.live.cloud.length:Int)=1∧(ofF { adds:=[{ dot:={ rep:=(0:Int),num:=(1:Int):Dot },sku:={ data:=#[(65:UInt8)]:ByteArray },qty:=(5:Int):Entry },{ dot:={ rep:=(0:Int),num:=(2:Int):Dot },sku:={ data:=#[(65:UInt8)]:ByteArray },qty:=(6:Int):Entry }],gone:={ vec:=[(1:Int),(1:Int)],cloud:=[]:Past },recs:=[]:Facts }).1.live.cloud[(0:Nat)]!.lo=2) (by simp only [eq_true h1,eq_true h2,eq_false h3,tsl]) (oR 13 (c3 (ofF { adds:=[{ dot:={ rep:=(0:Int),num:=(1:Int):Dot },sku:={ data:=#[(65:UInt8)]:ByteArray },qty:=(5:Int):Entry },{ dot:={ rep:=(0:Int),num:=(2:Int):Dot },sku:={ data:=#[(65:UInt8)]:ByteArray },qty:=(6:Int):Entry }],gone:={ vec:=[(1:Int),(1:Int)],cloud:=[]:Past },recs:=[]:Facts }).1.heard.vec[(0:Nat)]!) z0))))))))) ?_
 exact⟨rfl,by kernel_rfl⟩
 refine rG cx [0] [] (tT 1 (A4 h1) (tL 6 c3 ((ofF { adds:=[{ dot:={ rep:=(0:Int),num:=(1:Int):Dot },sku:={ data:=#[(65:UInt8)]:ByteArray },qty:=(5:Int):Entry },{ dot:={ rep:=(0:Int),num:=(2:Int):Dot },sku:={ data:=#[(65:UInt8)]:ByteArray },qty:=(6:Int):Entry }],gone:={ vec:=[(1:Int),(1:Int)],cloud:=[]:Past },recs:=[]:Facts }).1.heard.vec) (tT 7 (A0 h2) (tD 33 false ((ofF { adds:=[{ dot:={ rep:=(0:Int),num:=(1:Int):Dot },sku:={ data:=#[(65:UInt8)]:ByteArray },qty:=(5:Int):Entry },{ dot:={ rep:=(0:Int),num:=(2:Int):Dot },sku:={ data:=#[(65:UInt8)]:ByteArray },qty:=(6:Int):Entry }],gone:={ vec:=[(1:Int),(1:Int)],cloud:=[]:Past },recs:=[]:Facts }).2=0∧(↑(ofF { adds:=[{ dot:={ rep:=(0:Int),num:=(1:Int):Dot },sku:={ data:=#[(65:UInt8)]:ByteArray },qty:=(5:Int):Entry },{ dot:={ rep:=(0:Int),num:=(2:Int):Dot },sku:={ data:=#[(65:UInt8)]:ByteArray },qty:=(6:Int):Entry }],gone:={ vec:=[(1:Int),(1:Int)],cloud:=[]:Past },recs:=[]:Facts }).1.heard.vec.length:Int)=2∧(ofF { adds:=[{ dot:={ rep:=(0:Int),num:=(1:Int):Dot },sku:={ data:=#[(65:UInt8)]:ByteArray },qty:=(5:Int):Entry },{ dot:={ rep:=(0:Int),num:=(2:Int):Dot },sku:={ data:=#[(65:UInt8)]:ByteArray },qty:=(6:Int):Entry }],gone:={ vec:=[(1:Int),(1:Int)],cloud:=[]:Past },recs:=[]:Facts }).1.heard.vec[(0:Nat)]! =(2:Int)∧(↑(ofF { adds:=[{ dot:={ rep:=(0:Int),num:=(1:Int):Dot },sku:={ data:=#[(65:UInt8)]:ByteArray },qty:=(5:Int):Entry },{ dot:={ rep:=(0:Int),num:=(2:Int):Dot },sku:={ data:=#[(65:UInt8)]:ByteArray },qty:=(6:Int):Entry }],gone:={ vec:=[(1:Int),(1:Int)],cloud:=[]:Past },recs:=[]:Facts }).1.live.cloud.length:Int)=1∧(ofF { adds:=[{ dot:={ rep:=(0:Int),num:=(1:Int):Dot },sku:={ data:=#[(65:UInt8)]:ByteArray },qty:=(5:Int):Entry },{ dot:={ rep:=(0:Int),num:=(2:Int):Dot },sku:={ data:=#[(65:UInt8)]:ByteArray },qty:=(6:Int):Entry }],gone:={ vec:=[(1:Int),(1:Int)],cloud:=[]:Past },recs:=[]:Facts }).1.live.cloud[(0:Nat)]!.lo=2) (by simp only [eq_true h1,eq_false h2,tsl]) z0)))) ?_
 exact⟨rfl,by kernel_rfl⟩
 refine rG cx [0] [] (tT 1 (A0 h1) (tD 33 false ((ofF { adds:=[{ dot:={ rep:=(0:Int),num:=(1:Int):Dot },sku:={ data:=#[(65:UInt8)]:ByteArray },qty:=(5:Int):Entry },{ dot:={ rep:=(0:Int),num:=(2:Int):Dot },sku:={ data:=#[(65:UInt8)]:ByteArray },qty:=(6:Int):Entry }],gone:={ vec:=[(1:Int),(1:Int)],cloud:=[]:Past },recs:=[]:Facts }).2=0∧(↑(ofF { adds:=[{ dot:={ rep:=(0:Int),num:=(1:Int):Dot },sku:={ data:=#[(65:UInt8)]:ByteArray },qty:=(5:Int):Entry },{ dot:={ rep:=(0:Int),num:=(2:Int):Dot },sku:={ data:=#[(65:UInt8)]:ByteArray },qty:=(6:Int):Entry }],gone:={ vec:=[(1:Int),(1:Int)],cloud:=[]:Past },recs:=[]:Facts }).1.heard.vec.length:Int)=2∧(ofF { adds:=[{ dot:={ rep:=(0:Int),num:=(1:Int):Dot },sku:={ data:=#[(65:UInt8)]:ByteArray },qty:=(5:Int):Entry },{ dot:={ rep:=(0:Int),num:=(2:Int):Dot },sku:={ data:=#[(65:UInt8)]:ByteArray },qty:=(6:Int):Entry }],gone:={ vec:=[(1:Int),(1:Int)],cloud:=[]:Past },recs:=[]:Facts }).1.heard.vec[(0:Nat)]! =(2:Int)∧(↑(ofF { adds:=[{ dot:={ rep:=(0:Int),num:=(1:Int):Dot },sku:={ data:=#[(65:UInt8)]:ByteArray },qty:=(5:Int):Entry },{ dot:={ rep:=(0:Int),num:=(2:Int):Dot },sku:={ data:=#[(65:UInt8)]:ByteArray },qty:=(6:Int):Entry }],gone:={ vec:=[(1:Int),(1:Int)],cloud:=[]:Past },recs:=[]:Facts }).1.live.cloud.length:Int)=1∧(ofF { adds:=[{ dot:={ rep:=(0:Int),num:=(1:Int):Dot },sku:={ data:=#[(65:UInt8)]:ByteArray },qty:=(5:Int):Entry },{ dot:={ rep:=(0:Int),num:=(2:Int):Dot },sku:={ data:=#[(65:UInt8)]:ByteArray },qty:=(6:Int):Entry }],gone:={ vec:=[(1:Int),(1:Int)],cloud:=[]:Past },recs:=[]:Facts }).1.live.cloud[(0:Nat)]!.lo=2) (by simp only [eq_false h1,tsl]) z0)) ?_
 exact⟨rfl,by kernel_rfl⟩
 refine sn<|rT<|qR (.b (decide ((ofF { adds:=[{ dot:={ rep:=(0:Int),num:=(1:Int):Dot },sku:={ data:=#[(65:UInt8)]:ByteArray },qty:=(5:Int):Entry },{ dot:={ rep:=(0:Int),num:=(2:Int):Dot },sku:={ data:=#[(65:UInt8)]:ByteArray },qty:=(6:Int):Entry }],gone:={ vec:=[(1:Int),(1:Int)],cloud:=[]:Past },recs:=[]:Facts }).2=0∧(↑(ofF { adds:=[{ dot:={ rep:=(0:Int),num:=(1:Int):Dot },sku:={ data:=#[(65:UInt8)]:ByteArray },qty:=(5:Int):Entry },{ dot:={ rep:=(0:Int),num:=(2:Int):Dot },sku:={ data:=#[(65:UInt8)]:ByteArray },qty:=(6:Int):Entry }],gone:={ vec:=[(1:Int),(1:Int)],cloud:=[]:Past },recs:=[]:Facts }).1.heard.vec.length:Int)=2∧(ofF { adds:=[{ dot:={ rep:=(0:Int),num:=(1:Int):Dot },sku:={ data:=#[(65:UInt8)]:ByteArray },qty:=(5:Int):Entry },{ dot:={ rep:=(0:Int),num:=(2:Int):Dot },sku:={ data:=#[(65:UInt8)]:ByteArray },qty:=(6:Int):Entry }],gone:={ vec:=[(1:Int),(1:Int)],cloud:=[]:Past },recs:=[]:Facts }).1.heard.vec[(0:Nat)]! =(2:Int)∧(↑(ofF { adds:=[{ dot:={ rep:=(0:Int),num:=(1:Int):Dot },sku:={ data:=#[(65:UInt8)]:ByteArray },qty:=(5:Int):Entry },{ dot:={ rep:=(0:Int),num:=(2:Int):Dot },sku:={ data:=#[(65:UInt8)]:ByteArray },qty:=(6:Int):Entry }],gone:={ vec:=[(1:Int),(1:Int)],cloud:=[]:Past },recs:=[]:Facts }).1.live.cloud.length:Int)=1∧(ofF { adds:=[{ dot:={ rep:=(0:Int),num:=(1:Int):Dot },sku:={ data:=#[(65:UInt8)]:ByteArray },qty:=(5:Int):Entry },{ dot:={ rep:=(0:Int),num:=(2:Int):Dot },sku:={ data:=#[(65:UInt8)]:ByteArray },qty:=(6:Int):Entry }],gone:={ vec:=[(1:Int),(1:Int)],cloud:=[]:Past },recs:=[]:Facts }).1.live.cloud[(0:Nat)]!.lo=2))) (.eq ?g5);rotate_left
 case g5 =>
  show AV.b (decide ((ofF kFx).2=0∧((ofF kFx).1.heard.vec.length:Int)=2∧(ofF kFx).1.heard.vec[0]! = 2∧((ofF kFx).1.live.cloud.length:Int)=1∧(ofF kFx).1.live.cloud[0]!.lo=2))=AV.b true
  rw[kFx_of]
  rfl
theorem con50(a b:Facts)(hb:szF a)(hl:a.recs.length≤4611686018427387904)(hk:a.adds.length≤4611686018427387904):Con Tryz.prog 50 [.agg (c36 a),.agg (c36 b)] (.b (decide (a=b))) :=
 by
 refine sC A9 [.tmp 4] 20 Tryz.func50 ?_
 intro e0 cx
 refine sq<|rG cx [2,3] [2,3] z0<|sn<|sq<|rG cx [4] [] (fT (B71 (a) (b) (by(with_reducible assumption)) (by(with_reducible assumption)) (by(with_reducible assumption))) (oA 14 (.b (decide (a=b))) z0))<|sn<|rT ?_
 exact A3x (r:=.b (decide (a=b))) (obl:=[]) (by kernel_rfl) trivial (B9.refl _)
theorem con7(f s:Facts)(d:Dig)(hf:szB 1 f)(hs:szB 1 s)(hd:szD d)(kf:szL f)(ks:szL s):Con Tryz.prog 7 [.agg (c36 f),.agg (c82 s),.agg (c84 d)] (.b true) :=
 by
 refine sC A9 [.tmp 6] 59 Tryz.func7 ?_
 intro e0 cx
 refine sq<|rG cx [3,4,5] [3,4,5] z0<|sn<|sq<|sq<|rG cx [3,4,5,13] [3,4,5] (fT (B76 ) (oA 0 (.b (true)) z0))<|sn<|R4 (by kernel_rfl) (by kernel_rfl)<|sK<|sn<|sq<|rG cx [3,4,5,7,8] [3,4,5,7] (fT (con35 (f) (by exact hf.1) (by(with_reducible assumption))) (oA 1 (.tup [.agg [.sl (List.map c3 (ofF f).1.heard.vec),.sl (List.map B1 (ofF f).1.heard.cloud),.sl (List.map c3 (ofF f).1.live.vec),.sl (List.map B1 (ofF f).1.live.cloud)],.i .i64 ((ofF f).2)]) z0)) ?_
 refine sn<|sq<|rG cx [4,5,7,8,9,10] [4,5,7,9] (fT (Bg5 (f) (by exact R9 hf)) (oA 1 (.tup [.agg [.sl (List.map c3 (ofF f).1.heard.vec),.sl (List.map B1 (ofF f).1.heard.cloud),.sl (List.map c3 (ofF f).1.live.vec),.sl (List.map B1 (ofF f).1.live.cloud)],.i .i64 ((ofF f).2)]) z0)) ?_
 refine sn<|sq<|sq<|rG cx [4,5,7,9,32] [4,5,7,9] (tT 2 (A79:AV.b ((ofF f).2 !=(ofF f).2)=AV.b false) (fT (Bi4 ((ofF f).1) ((ofF f).1) (by exact B8y f)) (tQ 7 ((ofF f).1=(ofF f).1) (oA 6 (.b (decide ((ofF f).1=(ofF f).1))) z0)))) ?_
 refine sn<|A9k (¬(ofF f).1=(ofF f).1) (by kernel_rfl) (by kernel_rfl) (fun h0=>absurd h0 (fun hn=>hn rfl)) (fun h0=>?_)
 refine sK<|sn<|sq<|rG cx [4,5,7,9,8] [4,5,7,9] (fT (con38 (s) (by exact hs.1) (by(with_reducible assumption))) (oA 1 (.tup [.agg [.sl (List.map c3 (ofS s).1.heard.vec),.sl (List.map B1 (ofS s).1.heard.cloud),.sl (List.map c3 (ofS s).1.live.vec),.sl (List.map B1 (ofS s).1.live.cloud)],.i .i64 ((ofS s).2)]) z0)) ?_
 refine sn<|sq<|rG cx [4,5,7,9,8,11] [4,5,7,9] (fT (con39 (d) (by(with_reducible assumption))) (oA 1 (.i .i64 (H8 d)) z0))<|sn<|sq<|rG cx [5,7,9,8,11,10] [5,7,9] (fT (B6t (s) (by exact R9 hs)) (oA 1 (.tup [.agg [.sl (List.map c3 (ofS s).1.heard.vec),.sl (List.map B1 (ofS s).1.heard.cloud),.sl (List.map c3 (ofS s).1.live.vec),.sl (List.map B1 (ofS s).1.live.cloud)],.i .i64 ((ofS s).2)]) z0)) ?_
 refine sn<|sq<|A5 ((ofS s).1=(ofS s).1) (fun h1=>?_) (fun h1=>absurd rfl h1)
 refine rg (A:=(AV.b ((ofS s).2 ==(ofS s).2)=AV.b true)∧_∧_∧_∧(AV.b (H8 d == H8 d)=AV.b true)) cx [(2,{ tell:=some (.b (true)) }),(6,{ val:=some (.b (decide ((ofS s).1=(ofS s).1))),tell:=some (.b (true)) }),(10,{ val:=some (.i .i64 (H8 d)) }),(12,{ tell:=some (.b (true)) })] [6] [] ⟨(A05),(A4 h1),(Bi4 ((ofS s).1) ((ofS s).1) (by exact B39 s)),(Bg4 (d) (by(with_reducible assumption))),(A05)⟩ ?_
 refine sn<|rT ?_
 exact A3x (r:=.b (true)) (obl:=[]) (by kernel_rfl) trivial (B9.refl _)
theorem con9(f s:Facts)(d:Dig)(hf:szB 1 f)(hs:szB 1 s)(hd:szD d)(kf:szL f)(ks:szL s):Con Tryz.prog 9 [.agg (c36 f),.agg (c82 s),.agg (c84 d)] (.b true) :=
 by
 have h1:=B3a (d:=d) (R9 hf) kf.1
 have h2:=Aj1 (s:=s) (d:=d)
 have h3:=kf.1
 have h4:=kf.2
 have h5:=ks.1
 have h6:=ks.2
 refine sC A9 [.tmp 6] 56 Tryz.func9 ?_
 intro e0 cx
 refine sq<|rG cx [3,4,5] [3,4,5] z0<|sn<|sq<|sq<|rG cx [3,4,5,14] [3,4,5] (fT (B76 ) (oA 0 (.b (true)) z0))<|sn<|R4 (by kernel_rfl) (by kernel_rfl)<|sK<|sn<|sq<|rG cx [3,4,5,7,8] [3,4,5,7] (fT (con48 (f) (d) (by exact hf.1) (by(with_reducible assumption)) (by(with_reducible assumption))) (oA 2 (.tup [.agg [.sl (List.map c46 (E8 f d).1.adds),.sl (List.map c3 (E8 f d).1.gone.vec),.sl (List.map B1 (E8 f d).1.gone.cloud),.sl (List.map c54 (E8 f d).1.recs)],.i .i64 ((E8 f d).2)]) z0)) ?_
 refine sn<|sq<|rG cx [4,5,7,8,9,10] [4,5,7,9] (fT (con49 (f) (d) (by exact R9 hf) (by(with_reducible assumption))) (oA 2 (.tup [.agg [.sl (List.map c46 (E8 f d).1.adds),.sl (List.map c3 (E8 f d).1.gone.vec),.sl (List.map B1 (E8 f d).1.gone.cloud),.sl (List.map c54 (E8 f d).1.recs)],.i .i64 ((E8 f d).2)]) z0)) ?_
 refine sn<|sq<|sq<|rG cx [4,5,35] [4,5] (tT 2 (A79:AV.b ((E8 f d).2 !=(E8 f d).2)=AV.b false) (fT (con50 ((E8 f d).1) ((E8 f d).1) (by exact h1.1) (by have:=h1.2.1;omega) (by have:=h1.2.2;omega)) (tQ 7 ((E8 f d).1=(E8 f d).1) (oA 6 (.b (decide ((E8 f d).1=(E8 f d).1))) z0)))) ?_
 refine sn<|A9k (¬(E8 f d).1=(E8 f d).1) (by kernel_rfl) (by kernel_rfl) (fun h0=>absurd h0 (fun hn=>hn rfl)) (fun h0=>?_)
 refine sK<|sn<|sq<|rG cx [4,5,11,8] [4,5,11] (fT (con51 (s) (d) (by exact hs.1) (by(with_reducible assumption)) (by(with_reducible assumption))) (oA 2 (.tup [.agg [.sl (List.map c46 (D1 s d).1.adds),.sl (List.map c3 (D1 s d).1.gone.vec),.sl (List.map B1 (D1 s d).1.gone.cloud),.sl (List.map c54 (D1 s d).1.recs)],.i .i64 ((D1 s d).2)]) z0)) ?_
 refine sn<|sq<|rG cx [11,8,12,10] [11,12] (fT (B6u (s) (d) (by exact R9 hs) (by(with_reducible assumption))) (oA 2 (.tup [.agg [.sl (List.map c46 (D1 s d).1.adds),.sl (List.map c3 (D1 s d).1.gone.vec),.sl (List.map B1 (D1 s d).1.gone.cloud),.sl (List.map c54 (D1 s d).1.recs)],.i .i64 ((D1 s d).2)]) z0)) ?_
 refine sn<|sq<|rG cx [6] [] (tT 2 (A05:AV.b ((D1 s d).2 ==(D1 s d).2)=AV.b true) (fT (B71 ((D1 s d).1) ((D1 s d).1) (by exact h2.1) (by have:=h2.2.1;omega) (by have:=h2.2.2;omega)) (oA 6 (.b (decide ((D1 s d).1=(D1 s d).1))) z0))) ?_
 refine sn<|rT<|qR (.b (decide ((D1 s d).1=(D1 s d).1))) (.eq (by exact congrArg AV.b (decide_eq_true rfl)))
end Go.Proofs.YtphcaholhacnpaaGreat
namespace Go.E
open Go.RowKit Go.ChangeShapes Go.WideShapes Go.ChangeAt
def TyA(T:Tab)(L n t:Nat)(av:AV):Prop :=
 match look T t with
 | some ti=>if ti.isAgg then ∃ cs,av=.agg cs∧TyC T L n t cs else TyC T L n t [av]
 | none=>False
def B77(T:Tab)(L n:Nat):List Nat→List AV→Prop
 | [],[]=>True
 | t :: ts,a :: aL=>TyA T L n t a∧B77 T L n ts aL
 | _,_=>False
section
variable {P : Program} {T : Tab} {H : Type} {enc : TypeId × Value → H} {W : World} {spare : Nat → Bool} {held : Bool}
theorem A5t(hT:TabOk P T){n t:Nat}{ti:TI}(hti:look T t=some ti)(hp:N4 T n t=true)(hg:ti.isAgg=false){r:Reach}{base:Nat}{v:Value}(hv:Value.okWide P W r base t v):v.oneCell'=true∨∃ x,v=x∧v.cells=#[v]:=by
 have hu:=(hT t ti hti).1
 unfold Value.okWide at hv
 rw[hu]at hv
 cases n with
 | zero=>simp [N4]at hp
 | succ n =>
  unfold N4 at hp
  rw[hti]at hp
  simp only at hp
  unfold TI.isAgg at hg
  cases hd:ti.desc with
  | bool=>rw[hd]at hv;simp only [Cell.okWide,hu,hd,Cell.ok]at hv;cases v <;> simp_all [Value.oneCell',Value.cells]
  | int k=>rw[hd]at hv;simp only [Cell.okWide,hu,hd,Cell.ok]at hv;cases v <;> simp_all [Value.oneCell',Value.cells]
  | string=>rw[hd]at hv;simp only [Cell.okWide,hu,hd,Cell.ok]at hv;cases v <;> simp_all [Value.oneCell',Value.cells]
  | slice e=>rw[hd]at hv;simp only [Cell.okWide,hu,hd,Cell.ok]at hv;cases v <;> simp_all [Value.oneCell',Value.cells]
  | struct fs=>rw[hd]at hg;simp at hg
  | array k e=>rw[hd]at hg;simp at hg
  | _=>rw[hd]at hp;first | exact absurd hp Bool.false_ne_true | cases hp
theorem B78(hT:TabOk P T){n t:Nat}(hp:N4 T n t=true){r:Reach}{base:Nat}{v:Value}{d:DataW H}{ps:List MemPlace}(hv:Value.okWide P W r base t v)
  (hd:DataW.Trod enc P W 0 spare held t v d ps) (hw:∀ m∈d.weights P t,m≤reachBytes) {L:Nat} (hL:bulkD d≤L):∃ av,RelV0 (fun k=>k < W.heap.size) W av v∧TyA T L n t av:=by
 obtain⟨ti,hti⟩:=T9 hp
 obtain⟨fuel,hf⟩:=hd
 obtain⟨avs,hc,hty⟩:=B4r hT n t hp fuel _ _ _ hf hw L hL
 by_cases hg:ti.isAgg=true
 ·have hu:=(hT t ti hti).1
  have hv':=hv
  unfold Value.okWide at hv'
  rw[hu]at hv'
  have:∃ cs,v=.agg cs:=by
   unfold TI.isAgg at hg
   split at hg
   ·rename_i fs hd;rw[hd]at hv';obtain⟨cs,h,_⟩:=hv';exact⟨cs,h⟩
   ·rename_i k e hd;rw[hd]at hv';obtain⟨cs,h,_⟩:=hv';exact⟨cs,h⟩
   ·cases hg
  obtain⟨cs,rfl⟩:=this
  refine⟨.agg avs,?_,by unfold TyA;rw[hti];simp only [hg,if_true];exact⟨avs,rfl,hty⟩⟩
  have:=RelV0.agg (S:=fun k=>k < W.heap.size) (w:=W) avs cs.toList (by rw[hc.1];simp [Value.cells]) (fun u hu=>hc.2.1 u (by simpa [Value.cells]using hu)) (fun j a u ha hu=>hc.2.2 j a u ha (by simpa [Value.cells]using hu))
  simpa using this
 ·have hg':ti.isAgg=false:=by simpa using hg
  have h1:v.cells.toList=[v]:=by
   rcases A5t hT hti hp hg' hv with h | ⟨_,_,h⟩
   ·cases v <;> simp_all [Value.oneCell',Value.cells]
   ·rw[h]
  rw[h1]at hc
  obtain⟨c1,_,c3⟩:=hc
  match avs,c1,c3,hty with
  | [a],_,c3,hty=>exact⟨a,c3 0 a v rfl rfl,by unfold TyA;rw[hti];simp only [hg',Bool.false_eq_true,if_false];exact hty⟩
theorem Ad3(hT:TabOk P T){L n:Nat}{r:Reach}{base:Nat}:∀(ts:List Nat) (vs:List Value) (ds:List (DataW H)) (ps:List MemPlace),(∀ t∈ts,N4 T n t=true) →
  (∀(j:Nat) t v,ts[j]?=some t→vs[j]?=some v→Value.okWide P W r base t v)→DataW.TrodAll enc P W 0 spare held ts vs ds ps→(∀ m∈DataW.weightsEach P ts ds,m≤reachBytes)→bulkDs ds≤L →
  ∃ avs:List AV,avs.length=vs.length∧(∀(j:Nat) (a:AV) (u:Value),avs[j]?=some a→vs[j]?=some u→RelV0 (fun k=>k < W.heap.size) W a u)∧B77 T L n ts avs∧ds.length=ts.length
 | [],[],[],ps,_,_,_,_,_=>⟨[],rfl,fun j a u ha=>by simp at ha,trivial,rfl⟩
 | t :: ts,v :: vs,d :: ds,ps,hp,hv,hA,hw,hL=>by
  simp only [bulkDs]at hL
  obtain⟨p,q,h1,h2,_⟩:=hA
  obtain⟨a,e1,e2⟩:=B78 hT (hp t (by simp)) (hv 0 t v rfl rfl) h1 (fun m hm=>hw m (by simp only [DataW.weightsEach,List.mem_append];exact .inl hm)) (L:=L) (by omega)
  obtain⟨aL,f1,f2,f3,f4⟩:=Ad3 (L:=L) hT ts vs ds q (fun t ht=>hp t (List.mem_cons_of_mem _ ht)) (fun j t v ht hv'=>hv (j+1) t v (by simpa using ht) (by simpa using hv')) h2 (fun m hm=>hw m (by simp only [DataW.weightsEach,List.mem_append];exact .inr hm)) (by omega)
  refine⟨a :: aL,by simp [f1],fun j b u hb hu=>?_,⟨e2,f3⟩,by simp [f4]⟩
  cases j with
  | zero=>simp at hb hu;subst hb hu;exact e1
  | succ j=>exact f2 j b u (by simpa using hb) (by simpa using hu)
 | [],_ :: _,_,_,_,_,hA,_,_=>hA.elim
 | [],[],_ :: _,_,_,_,hA,_,_=>hA.elim
 | _ :: _,[],_,_,_,_,hA,_,_=>hA.elim
 | _ :: _,_ :: _,[],_,_,_,hA,_,_=>hA.elim
theorem A29(hl:laidOutB P=true){W':World}(hb:Below W.heap.size W W'):∀(ts:List Nat) (vs:List Value) (ds:List (DataW H)) (ps:List MemPlace),(∀ t∈ts,P.readableRec t=true∧t < P.types.size) →
  (∀ x∈ps,x.block < W.heap.size)→DataW.TrodAll enc P W 0 (fun _=>true) true ts vs ds ps→DataW.TrodAll enc P W' 0 (fun b=>decide (b < W.heap.size)) true ts vs ds ps
 | [],[],[],ps,_,_,h=>h
 | t :: ts,v :: vs,d :: ds,ps,hr,hlt,h=>by
  obtain⟨p,q,h1,h2,rfl⟩:=h
  exact⟨p,q,Below.trod hl (hr t (by simp)).1 (hr t (by simp)).2 h1 hb (fun x hx=>hlt x (List.mem_append_left _ hx)),
   A29 hl hb ts vs ds q (fun t ht=>hr t (List.mem_cons_of_mem _ ht)) (fun x hx=>hlt x (List.mem_append_right _ hx)) h2,rfl⟩
 | [],_ :: _,_,_,_,_,hA=>hA.elim
 | [],[],_ :: _,_,_,_,hA=>hA.elim
 | _ :: _,[],_,_,_,_,hA=>hA.elim
 | _ :: _,_ :: _,[],_,_,_,hA=>hA.elim
end
theorem B79{T:Tab}{C:Checked}{f:FuncId}{fn:Func}{s:ChangeSpec}{H:Type}{enc:TypeId×Value→H}(ts:List Nat)(tb L n:Nat)
  (hT:TabOk C.prog T) (hl:laidOutB C.prog=true)
  (hts:fn.params=ts.toArray) (htb:fn.resultTypes=#[tb]) (hub:C.prog.underlying tb=some .bool) (hpl:ts.all (fun t=>N4 T n t && C.prog.readableRec t && Nat.blt t C.prog.types.size)=true)
  (hvars:s.vars=[]) (hspec:∀ ds:List (DataW H),ds.length=ts.length→s.fn H (ds++[])={ results:=[.lit (.bool true)],args:=ds })
  (hcon:∀ avs,B77 T L n ts avs→Con C.prog f avs (.b true)) {W:World} {base:Nat} {args:Array Value} {ds gs:List (DataW H)} {before:List MemPlace} {us:List Nat}
  (hval:∀(j:Nat) t v,fn.params[j]?=some t→args[j]?=some v→Value.okWide C.prog W .any base t v) (hW:DataW.Whole enc C.prog fn.params.toList s.vars false W args.toList ds gs before)
  (hsz:(DataW.weightsEach C.prog (fn.params.toList++us) (ds++gs)).all (·≤reachBytes)=true) (hbk:bulkDs (ds++gs)≤L) :
  Calls C.prog f args W fun e W'=>∃ v,e=.returned v∧s.post enc C.prog fn false true false false W args v W':=by
 have hW':=hW
 obtain⟨p,q,hA,hV,rfl,_,_⟩:=hW
 rw[hvars]at hV
 obtain⟨rfl,rfl⟩:=trodVars_none hV
 rw[List.append_nil]at hW' hbk
 have hpars:fn.params.toList=ts:=by rw[hts]
 have hA':DataW.TrodAll enc C.prog W 0 (fun _=>true) true ts args.toList ds p:=by rw[← hpars];exact hA
 have hpl':∀ t∈ts,N4 T n t=true∧C.prog.readableRec t=true∧t < C.prog.types.size:=by
  intro t ht
  have:=List.all_eq_true.1 hpl t ht
  simp only [Bool.and_eq_true]at this
  exact⟨this.1.1,this.1.2,by simpa using this.2⟩
 have hw:∀ m∈DataW.weightsEach C.prog ts ds,m≤reachBytes:=by
  intro m hm
  have hsz':=hsz
  rw[List.append_nil,hpars]at hsz'
  have hsub:∀(ts us:List Nat) (ds:List (DataW H)),∀ m∈DataW.weightsEach C.prog ts ds,m∈DataW.weightsEach C.prog (ts++us) ds:=by
   intro ts us ds
   induction ts generalizing ds with
   | nil=>intro m hm;cases ds <;> simp [DataW.weightsEach]at hm
   | cons t ts ih =>
    intro m hm
    cases ds with
    | nil=>simp [DataW.weightsEach]at hm
    | cons d ds =>
     simp only [DataW.weightsEach,List.cons_append,List.mem_append]at hm ⊢
     rcases hm with hm | hm
     ·exact .inl hm
     ·exact .inr (ih ds m hm)
  have:=List.all_eq_true.1 hsz' m (hsub ts _ ds m hm)
  simpa using this
 obtain⟨avs,h1,h2,h3,h4⟩:=Ad3 hT ts args.toList ds p (fun t ht=>(hpl' t ht).1) (fun j t v ht hv=>hval j t v (by rw[hts];simpa using ht) (by simpa using hv)) hA' hw hbk
 have hlt:∀ x∈p,x.block < W.heap.size:=fun x hx=>hW'.lt x hx
 have hsp:=hspec ds h4
 have:=(hcon avs h3).2 W (fun k=>k < W.heap.size) args.toList (fun _ h=>h) (by rw[h1]) h2
 rw[Array.toArray_toList]at this
 refine this.mono fun e W' ⟨v,he,hr,hb⟩=>?_
 cases hr with
 | b =>
  refine⟨_,he,ds,[],p,[],p,[],hW',?_,?_,?_,hb.frame _,fun h=>by cases h⟩
  ·rw[hsp,htb]
   exact trodAll_mk1 (shut_bool hub true)
  ·rw[hsp,hpars]
   exact A29 hl hb ts args.toList ds p (fun t ht=>(hpl' t ht).2) hlt hA'
  ·rw[hsp,hvars]
   rfl
theorem L9{T:Tab}{C:Checked}{os:Os}{f:FuncId}{fn:Func}{s:ChangeSpec}{u:OpenSpec}{k:(H:Type)→List (DataW H)→Bool}{conds:List PathCond}{H:Type}{enc:TypeId×Value→H}(F:Stop.Interp)(ts:List Nat)(tb L n:Nat)
  (hu:u={ OpenSpec.ofChange s with cond:=some k }) (hk:∀ ds:List (DataW H),k H ds=true→bulkDs ds≤L)
  (hT:TabOk C.prog T) (hl:laidOutB C.prog=true) (own:ownKnob C.prog.godebug=none) (started:os.Started) (noInit:C.prog.inits.idxOf? f=none) (hfn:C.prog.funcs[f]?=some fn)
  (hts:fn.params=ts.toArray) (htb:fn.resultTypes=#[tb]) (hub:C.prog.underlying tb=some .bool) (hpl:ts.all (fun t=>N4 T n t && C.prog.readableRec t && Nat.blt t C.prog.types.size)=true)
  (hvars:s.vars=[]) (hspec:∀ ds:List (DataW H),ds.length=ts.length→s.fn H (ds++[])={ results:=[.lit (.bool true)],args:=ds })
  (witness:∃(w:World) (tape:Tape) (i:Input),w.os=os∧(w.forCall tape i).Shaped C.prog∧i.vars=[]∧Input.okWide C.prog (w.forCall tape i) .any w.heap.size f i ∧
   u.pre6 enc C.prog fn conds false (w.forCall tape i).memory i.args∧({}:Assume).holds C.prog (lone (Frame.enter C.prog f i.args .normal) [] (w.forCall tape i)))
  (hcon:∀ avs,B77 T L n ts avs→Con C.prog f avs (.b true)) :
  ReturnsInHanded {} C os f .any (u.pre6 enc C.prog fn conds false) ((u.at F).post enc C.prog fn false true false false):=by
 subst hu
 refine returnsInHanded_of_cond_sized (k:=k) rfl own started noInit hfn witness ?_
 intro W base args ds gs before hval hW _ hkk hsz _
 exact B79 ts tb L n hT hl hts htb hub hpl hvars hspec hcon hval hW hsz (hk _ hkk)
theorem U8{α:Type}{g:α→List AV}{Q:α→Prop}{C:List AV→Prop}(h:∀ r,C r→∃ x,r=g x∧Q x):∀(rows:List (List AV)),(∀ r∈rows,C r)→∃ xs:List α,rows=xs.map g∧∀ x∈xs,Q x
 | [],_=>⟨[],rfl,fun x hx=>by simp at hx⟩
 | r :: rows,hr=>by
  obtain⟨x,h1,h2⟩:=h r (hr r (by simp))
  obtain⟨xs,h3,h4⟩:=U8 h rows fun q hq=>hr q (List.mem_cons_of_mem _ hq)
  refine⟨x :: xs,by rw[h1,h3];rfl,fun y hy=>?_⟩
  rcases List.mem_cons.1 hy with rfl | hy
  ·exact h2
  ·exact h4 y hy
end Go.E
namespace Go.Proofs.YtphcaholhacnpaaGreat
open Go.E
set_option maxRecDepth 100000
set_option maxHeartbeats 4000000
open Go.ChangeShapes Go.WideShapes Go.ChangeAt Go.RowKit Go
theorem Tryz.own:Go.ownKnob Tryz.prog.godebug=none:=by kernel_rfl
theorem Tryz.laidOut:laidOutB Tryz.prog=true:=by kernel_rfl
def inr(n:Int):Prop:=-9223372036854775808≤n∧n≤9223372036854775807
theorem ty3{L n:Nat}{cs:List AV}(h:TyC tab L (n+1) 3 cs):∃ x,cs=c3 x∧inr x:=by
 obtain⟨x,rfl,h1,h2⟩:=h
 exact⟨x,rfl,h1,h2⟩
theorem ty44{L n:Nat}{cs:List AV}(h:TyC tab L (n+2) 44 cs):∃ d:Dot,cs=c44 d∧inr d.rep∧inr d.num:=by
 obtain⟨a,b,rfl,ha,c,d,rfl,hc,rfl⟩:=h
 obtain⟨x,rfl,hx⟩:=ty3 ha
 obtain⟨y,rfl,hy⟩:=ty3 hc
 exact⟨⟨x,y⟩,rfl,hx,hy⟩
theorem ty9{L n:Nat}{cs:List AV}(h:TyC tab L (n+1) 9 cs):∃ s:ByteArray,cs=[.s s]∧s.size≤140737488351232:=by
 obtain⟨s,rfl,_,h2,_⟩:=h
 exact⟨s,rfl,h2⟩
theorem ty141{L n:Nat}{cs:List AV}(h:TyC tab L (n+2) 141 cs):∃ d:Span,cs=B1 d∧inr d.rep∧inr d.lo∧inr d.hi:=by
 obtain⟨a,b,rfl,ha,c,d,rfl,hc,e,f,rfl,he,rfl⟩:=h
 obtain⟨x,rfl,hx⟩:=ty3 ha
 obtain⟨y,rfl,hy⟩:=ty3 hc
 obtain⟨z,rfl,hz⟩:=ty3 he
 exact⟨⟨x,y,z⟩,rfl,hx,hy,hz⟩
def inE(e:Entry):Prop:=inr e.dot.rep∧inr e.dot.num∧e.sku.size≤140737488351232∧inr e.qty
theorem ty46{L n:Nat}{cs:List AV}(h:TyC tab L (n+3) 46 cs):∃ e:Entry,cs=c46 e∧inE e:=by
 obtain⟨a,b,rfl,ha,c,d,rfl,hc,e,f,rfl,he,rfl⟩:=h
 obtain⟨x,rfl,hx⟩:=ty44 ha
 obtain⟨y,rfl,hy⟩:=ty9 hc
 obtain⟨z,rfl,hz⟩:=ty3 he
 exact⟨⟨x,y,z⟩,rfl,hx.1,hx.2,hy,hz⟩
theorem ty22{L n:Nat}{cs:List AV}(h:TyC tab L (n+4) 22 cs):∃ xs:List Entry,cs=[.sl (xs.map c46)]∧((∀ x∈xs,inE x)∧xs.length*40≤140737488351232)∧xs.length≤L:=by
 obtain⟨rows,rfl,h1,h2,hL,h3⟩:=h
 obtain⟨xs,rfl,hx⟩:=U8 (fun r hr=>ty46 hr) rows h3
 exact⟨xs,rfl,⟨hx,by rw[List.length_map]at h2;exact h2⟩,by rw[List.length_map]at hL;exact hL⟩
mutual
theorem bulk_eq {H : Type} : ∀ d : DataW H, Rows.uptoBulk d = bulkD d
  | .lit l => by cases l <;> simp [Rows.uptoBulk, bulkD]
  | .nil => by simp [Rows.uptoBulk, bulkD]
  | .ptr d => by simp only [Rows.uptoBulk, bulkD, bulk_eq d]
  | .slice elems spare => by simp only [Rows.uptoBulk, bulkD, bulks_eq elems, bulks_eq spare]
  | .agg parts => by simp only [Rows.uptoBulk, bulkD, bulks_eq parts]
  | .iface _ d => by simp only [Rows.uptoBulk, bulkD, bulk_eq d]
  | .map entries => by simp only [Rows.uptoBulk, bulkD, bulkm_eq entries]
  | .held _ => by simp [Rows.uptoBulk, bulkD]
theorem bulks_eq {H : Type} : ∀ l : List (DataW H), Rows.uptoBulkAll l = bulkDs l
  | [] => by simp [Rows.uptoBulkAll, bulkDs]
  | d :: r => by simp only [Rows.uptoBulkAll, bulkDs, bulk_eq d, bulks_eq r]
theorem bulkm_eq {H : Type} : ∀ l : List (Lit × DataW H), Rows.uptoBulkEntries l = bulkDm l
  | [] => by simp [Rows.uptoBulkEntries, bulkDm]
  | x :: r => by simp only [Rows.uptoBulkEntries, bulkDm, bulke_eq x, bulkm_eq r]
theorem bulke_eq {H : Type} : ∀ x : Lit × DataW H, Rows.uptoBulkEntry x = bulkDe x
  | (l, d) => by cases l <;> simp only [Rows.uptoBulkEntry, bulkDe, bulk_eq d]
end
theorem A0p{H:Type}(ds:List (DataW H))(h:Rows.uptoSmall H ds=true):bulkDs ds≤1048576:=by
 rw[← bulks_eq]
 exact of_decide_eq_true h
end Go.Proofs.YtphcaholhacnpaaGreat
namespace Go.Proofs.YtphcaholhacnpaaGreat
open Go.E
set_option maxRecDepth 100000
set_option maxHeartbeats 4000000
def B3n(L:Nat)(p:Past):Prop:=szP p∧p.cloud.length≤L∧p.vec.length≤L
theorem ly23{L n:Nat}{cs:List AV}(h:TyC tab L (n+2) 23 cs):∃ xs:List Int,cs=c23 xs∧xs.length*8≤140737488351232∧xs.length≤L:=by
 obtain⟨rows,rfl,h1,h2,hL,h3⟩:=h
 obtain⟨xs,rfl,hx⟩:=U8 (fun r hr=>ty3 hr) rows h3
 exact⟨xs,rfl,by rw[List.length_map]at h2;exact h2,by rw[List.length_map]at hL;exact hL⟩
theorem ly24{L n:Nat}{cs:List AV}(h:TyC tab L (n+3) 24 cs):∃ xs:List Span,cs=[.sl (xs.map B1)]∧xs.length*24≤140737488351232∧xs.length≤L:=by
 obtain⟨rows,rfl,h1,h2,hL,h3⟩:=h
 obtain⟨xs,rfl,hx⟩:=U8 (fun r hr=>ty141 hr) rows h3
 exact⟨xs,rfl,by rw[List.length_map]at h2;exact h2,by rw[List.length_map]at hL;exact hL⟩
theorem ly26{L n:Nat}{cs:List AV}(h:TyC tab L (n+4) 26 cs):∃ p:Past,cs=c26 p∧B3n L p:=by
 obtain⟨a,b,rfl,ha,c,d,rfl,hc,rfl⟩:=h
 obtain⟨x,rfl,hx⟩:=ly23 (L:=L) (n:=n+1) ha
 obtain⟨y,rfl,hy⟩:=ly24 hc
 exact⟨⟨x,y⟩,rfl,⟨by simp only;omega,by simp only;omega⟩,hy.2,hx.2⟩
theorem ly54{L n:Nat}{cs:List AV}(h:TyC tab L (n+5) 54 cs):∃ r:Record,cs=c54 r∧B3n L r.past:=by
 obtain⟨a,b,rfl,ha,c,d,rfl,hc,rfl⟩:=h
 obtain⟨x,rfl,hx⟩:=ty9 (L:=L) (n:=n+3) ha
 obtain⟨y,rfl,hy⟩:=ly26 hc
 exact⟨⟨x,y⟩,rfl,hy⟩
def inRL(L:Nat)(rs:List Record):Prop:=(∀ r∈rs,B3n L r.past)∧rs.length*64≤140737488351232∧rs.length≤L
theorem ly34{L n:Nat}{cs:List AV}(h:TyC tab L (n+6) 34 cs):∃ rs:List Record,cs=[.sl (rs.map c54)]∧inRL L rs:=by
 obtain⟨rows,rfl,h1,h2,hL,h3⟩:=h
 obtain⟨xs,rfl,hx⟩:=U8 (fun r hr=>ly54 hr) rows h3
 exact⟨xs,rfl,hx,by rw[List.length_map]at h2;exact h2,by rw[List.length_map]at hL;exact hL⟩
def Bi5(L:Nat)(f:Facts):Prop:=(f.adds.length*40≤140737488351232∧f.adds.length≤L)∧B3n L f.gone∧inRL L f.recs
theorem ly36{L n:Nat}{cs:List AV}(h:TyC tab L (n+7) 36 cs):∃ f:Facts,cs=c36 f∧Bi5 L f:=by
 obtain⟨a,b,rfl,ha,c,d,rfl,hc,e,g,rfl,he,rfl⟩:=h
 obtain⟨x,rfl,hx⟩:=ty22 (L:=L) (n:=n+2) ha
 obtain⟨y,rfl,hy⟩:=ly26 (L:=L) (n:=n+2) hc
 obtain⟨z,rfl,hz⟩:=ly34 he
 exact⟨⟨x,y,z⟩,rfl,⟨hx.1.2,hx.2⟩,hy,hz⟩
theorem ta36{L:Nat}{a:AV}(h:TyA tab L 9 36 a):∃ f:Facts,a=.agg (c36 f)∧Bi5 L f:=by
 obtain⟨cs,rfl,h2⟩:=(show ∃ cs,a=.agg cs∧TyC tab L 9 36 cs from h)
 obtain⟨d,rfl,k⟩:=ly36 (L:=L) (n:=2) h2
 exact⟨d,rfl,k⟩
theorem inF_sz{L:Nat}{f:Facts}(h:Bi5 L f):szF f:=⟨h.2.1.1,fun r hr=>(h.2.2.1 r hr).1⟩
end Go.Proofs.YtphcaholhacnpaaGreat
namespace Go.Proofs.YtphcaholhacnpaaGreat
open Go.E
set_option maxRecDepth 100000
set_option maxHeartbeats 4000000
theorem B3b{L M:Nat}(hM:M=L+1):∀ {rs:List Record},(∀ r∈rs,r.past.cloud.length≤L)→A5o rs≤rs.length*M
 | [],_=>by simp [A5o]
 | r :: rs,h=>by
  have h1:=h r (by simp)
  have h2:=B3b hM (rs:=rs) (fun x hx=>h x (by simp [hx]))
  simp only [A5o,List.map_cons,List.sum_cons,List.length_cons,Nat.add_mul]at *
  omega
theorem Bi6{f:Facts}(h1:szF f)(h2:f.recs.length≤1048576)(h3:A5o f.recs≤1099512676352):szB 1 f:=by
 unfold szB
 rw[Nat.one_mul,Nat.one_mul]
 exact⟨h1,h2,h3⟩
theorem Aj2{f:Facts}(h:Bi5 1048576 f):szB 1 f:=by
 have h0:f.recs.length≤1048576:=h.2.2.2.2
 have h1:A5o f.recs≤f.recs.length*1048577:=B3b (L:=1048576) rfl (fun r hr=>(h.2.2.1 r hr).2.1)
 have h2:f.recs.length*1048577≤1048576*1048577:=Nat.mul_le_mul_right _ h0
 exact Bi6 (inF_sz h) h0 (Nat.le_trans h1 (Nat.le_trans h2 (by decide)))
end Go.Proofs.YtphcaholhacnpaaGreat
namespace Go.Proofs.YtphcaholhacnpaaGreat
open Go.E
set_option maxRecDepth 100000
set_option maxHeartbeats 4000000
theorem ly82{L n:Nat}{cs:List AV}(h:TyC tab L (n+7) 82 cs):∃ f:Facts,cs=c82 f∧Bi5 L f:=by
 obtain⟨a,b,rfl,ha,c,d,rfl,hc,e,g,rfl,he,rfl⟩:=h
 obtain⟨x,rfl,hx⟩:=ty22 (L:=L) (n:=n+2) ha
 obtain⟨y,rfl,hy⟩:=ly26 (L:=L) (n:=n+2) hc
 obtain⟨z,rfl,hz⟩:=ly34 he
 exact⟨⟨x,y,z⟩,rfl,⟨hx.1.2,hx.2⟩,hy,hz⟩
theorem ta82{L:Nat}{a:AV}(h:TyA tab L 9 82 a):∃ f:Facts,a=.agg (c82 f)∧Bi5 L f:=by
 obtain⟨cs,rfl,h2⟩:=(show ∃ cs,a=.agg cs∧TyC tab L 9 82 cs from h)
 obtain⟨d,rfl,k⟩:=ly82 (L:=L) (n:=2) h2
 exact⟨d,rfl,k⟩
theorem ly84{L n:Nat}{cs:List AV}(h:TyC tab L (n+5) 84 cs):∃ d:Dig,cs=c84 d∧B3n L d.heard∧B3n L d.live:=by
 obtain⟨a,b,rfl,ha,c,d,rfl,hc,rfl⟩:=h
 obtain⟨x,rfl,hx⟩:=ly26 (L:=L) (n:=n) ha
 obtain⟨y,rfl,hy⟩:=ly26 (L:=L) (n:=n) hc
 exact⟨⟨x,y⟩,rfl,hx,hy⟩
theorem ta84{L:Nat}{a:AV}(h:TyA tab L 9 84 a):∃ d:Dig,a=.agg (c84 d)∧B3n L d.heard∧B3n L d.live:=by
 obtain⟨cs,rfl,h2⟩:=(show ∃ cs,a=.agg cs∧TyC tab L 9 84 cs from h)
 obtain⟨d,rfl,k⟩:=ly84 (L:=L) (n:=4) h2
 exact⟨d,rfl,k⟩
theorem B3c{L:Nat}{d:Dig}(h:B3n L d.heard∧B3n L d.live):szD d:=⟨h.1.1,h.2.1⟩
theorem Aj3{f:Facts}(h:Bi5 1048576 f):szL f:=⟨h.1.1,by have:=h.2.2.2.2;omega⟩
end Go.Proofs.YtphcaholhacnpaaGreat
namespace Go.Proofs.YtphcaholhacnpaaGreat
open Go.E
set_option maxRecDepth 100000
set_option maxHeartbeats 4000000
theorem Tryz.rowedM:Go.mapsRowed Tryz.prog=true:=by kernel_rfl
theorem Tryz.stopsH:Tryz.prog.stopsHeard=true:=by kernel_rfl
theorem Tryz.mayE:Tryz.prog.mayEnter=true:=by kernel_rfl
end Go.Proofs.YtphcaholhacnpaaGreat
