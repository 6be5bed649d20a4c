/- R10: DigestPictures answers true for every input, and the input reads as it did. Conditions: none. (with texts that it needs)  -/
import Derived.Below
import Derived.OwnWalk
import Derived.WalkKit
import Derived.KernelRfl
import Derived.Laws.MakeOwn
import Derived.Laws.OwnMore
import Derived.Laws.Slices
import Derived.Laws.CopyOwn
import Derived.Laws.AppendOwnNone
import Derived.Laws.Rows
import Derived.Orders
import Derived.Test.YtphcaholhacnpaaGreatProg
import Derived.DataReads
import Derived.ChangeOld
import Derived.DataElems
import Derived.SizedLaws
import Derived.ChangeKeysEq
import Derived.Sort.LotA
import Derived.Shelf.SlSortFuncK.RowK2
import Derived.Shelf.SlSortCmp.NoneTotal
import Derived.Lib.Walk
import Derived.Shelf.SlLaysE0
import Derived.Shelf.RegionOpenPlain
import Derived.Deep.LoopGhost
import Derived.Lib.SliceRun
import Derived.Lib.Bytealg
import Derived.Calls
import Derived.Shelf.SlSortFuncK.SWK
import Derived.Deep.Cut
import Derived.Deep.CutRange
import Derived.Deep.DeepCutAuto
import Derived.Lib.ReflectliteSwap
import Derived.Laws.Externs
import Derived.Lib.ReflectliteSlice
import Derived.Lib.AppendZeros
import Derived.BigQuiet
import Derived.Shelf.SlSortFuncK.WholeK
import Derived.Shelf.GgSortFunc.Tiny
import Derived.Maps.RangeRun
import Derived.ProofKit
import Derived.JoinedCond
import Derived.Deep.CondSized
import Derived.Test.YtphcaholhacnpaaGreatRows
import Derived.Test.YtphcaholhacnpaaGreatZd6
set_option linter.unusedVariables false
set_option linter.unusedSimpArgs false
namespace Go.Proofs.YtphcaholhacnpaaGreat
open Go.E Go.ChangeShapes Go.WideShapes Go.ChangeAt Go.RowKit
set_option maxRecDepth 100000
theorem law7  {a1:AV}(h1:TyA tab 1048576 9 36 a1){a2:AV}(h2:TyA tab 1048576 9 82 a2){a3:AV}(h3:TyA tab 1048576 9 84 a3):Con Tryz.prog 7 [a1,a2,a3] (.b true):=by
 obtain⟨x1,rfl,k1⟩:=ta36 h1
 obtain⟨x2,rfl,k2⟩:=ta82 h2
 obtain⟨x3,rfl,k3⟩:=ta84 h3
 exact con7 x1 x2 x3 (Aj2 k1) (Aj2 k2) (B3c k3) (Aj3 k1) (Aj3 k2)
theorem DigestTells_lifted(os:Os)(started:os.Started)(H:Type)(enc:TypeId×Value→H)(F:Stop.Interp) :
  ReturnsInHanded {} Tryz.checked os 7 .any ((Rows.OpenSpec.upto Rows.digestTellsSpec).pre6 enc Tryz.prog Tryz.f7 Rows.digestTellsUptoRow.domain false) (((Rows.OpenSpec.upto Rows.digestTellsSpec).at F).post enc Tryz.prog Tryz.f7 false true false false):=by
 refine L9 (C:=Tryz.checked) (s:=Rows.digestTellsSpec) (k:=Rows.uptoSmall) F [36,82,84] 4 1048576 9 rfl (fun ds=>A0p ds) A9 Tryz.laidOut Tryz.own started (by kernel_rfl) Tryz.func7 rfl rfl (by kernel_rfl) (by kernel_rfl) rfl ?_
  (OpenSpec.witness (enc:=enc) (C:=Tryz.checked) (s:=Rows.OpenSpec.upto Rows.digestTellsSpec) (k:=Rows.uptoSmall) rfl false ⟨#[],#[.agg #[.slice none 0 0,.slice none 0 0,.slice none 0 0,.slice none 0 0],.agg #[.slice none 0 0,.slice none 0 0,.slice none 0 0,.slice none 0 0],.agg #[.slice none 0 0,.slice none 0 0,.slice none 0 0,.slice none 0 0]],[]⟩ 8 (by kernel_rfl) (by kernel_rfl) (by kernel_rfl)
   (x:=([.agg [.nil,.agg [.nil,.nil],.nil],.agg [.nil,.agg [.nil,.nil],.nil],.agg [.agg [.nil,.nil],.agg [.nil,.nil]]],[],[])) (by kernel_rfl) rfl (by kernel_rfl)) ?_
 ·intro ds hds
  rcases ds with _ | ⟨d1,_ | ⟨d2,_ | ⟨d3,_ | ⟨d4,l⟩⟩⟩⟩
  ·exact absurd hds (by simp)
  ·exact absurd hds (by simp)
  ·exact absurd hds (by simp)
  ·kernel_rfl
  ·exact absurd hds (by simp)
 ·intro avs h
  rcases avs with _ | ⟨a1,_ | ⟨a2,_ | ⟨a3,_ | ⟨a4,l⟩⟩⟩⟩
  ·exact h.elim
  ·exact h.2.elim
  ·exact h.2.2.elim
  ·exact law7 h.1 h.2.1 h.2.2.1
  ·exact h.2.2.2.elim
theorem DigestTells_j1:Rows.digestTellsUptoRow.inPlace=Tryz.prog.inPlace 7:=by kernel_rfl
theorem DigestTells_j2:Rows.digestTellsUptoRow.unfollowed=Tryz.prog.unfollowed 7:=by kernel_rfl
theorem DigestTells_j3:Rows.digestTellsUptoRow.recurses=Tryz.prog.recurses 7:=by kernel_rfl
theorem DigestTells_j4:Rows.digestTellsUptoRow.named=Tryz.prog.varsNamed 7:=by kernel_rfl
theorem DigestTells_j5:Rows.digestTellsUptoRow.plainKeys=Tryz.prog.plainKeys:=by kernel_rfl
theorem DigestTells_j6:Rows.digestTellsUptoRow.lifted=Tryz.prog.liftsFinal:=by kernel_rfl
theorem DigestTells_j7:Tryz.prog.funcNamed Rows.digestTellsUptoRow.func=some 7:=by kernel_rfl
theorem DigestTells_joined:Go.joinedFacts Tryz.prog 7 Tryz.f7 (Rows.OpenSpec.upto Rows.digestTellsSpec).bare Rows.digestTellsUptoRow=true:=by
 unfold Go.joinedFacts
 rw[Tryz.laidOut,Tryz.rowedM,Tryz.stopsH,Tryz.mayE,← DigestTells_j1,← DigestTells_j2,← DigestTells_j3,← DigestTells_j4,← DigestTells_j5,← DigestTells_j6]
 kernel_rfl
theorem DigestTells_holds:Rows.DigestTellsUptoSaid :=
 OpenClaim.holds_of_cond 7 Tryz.f7 rfl rfl rfl rfl rfl rfl rfl ⟨rfl,rfl,rfl,rfl,rfl⟩ rfl rfl rfl rfl rfl DigestTells_j7 Tryz.func7 DigestTells_joined
  (of_decide_eq_true (by kernel_rfl)) (by unfold Func.isWrapper;first | (rw[if_pos (by decide +kernel)];kernel_rfl) | (rw[if_neg (by decide +kernel)];exact⟨rfl,rfl⟩))
  (fun os started H enc _ F=>DigestTells_lifted os started H enc F)
end Go.Proofs.YtphcaholhacnpaaGreat
namespace Go.Proofs.YtphcaholhacnpaaGreat
open Go.E
set_option maxRecDepth 100000
set_option maxHeartbeats 4000000
theorem B8z{f:Facts}{n:Nat}(h:szB n f)(k:okF f=true):szB n (stF f) :=
 ⟨A0z (T4 (Aw1 k)),Nat.le_trans (A5b f.recs (B4 f)) h.2.1,Nat.le_trans (B6s (List.filter_sublist (l:=f.recs))) h.2.2⟩
theorem pic_of{f:Facts}(h:okF f=true):ofS (stF f)=ofF f:=by
 rw[A0y (Aw1 h),A31 h]
 rfl
theorem Bi7{f:Facts}{d:Dig}(h:okF f=true)(k:H8 d=0):stF (E8 f d).1=(D1 (stF f) d).1:=by
 rw[Z8 h k,Z9 (Aw1 h) k]
 exact B2t h
theorem Bi8{s:Facts}(h:okS s=true):H8 (ofS s).1=0:=by
 have k:=M7.1 h
 have f:=H9.1 k.1
 rw[A0y h]
 unfold H8
 rw[if_pos]
 refine⟨f.2.1,Q9 _,Z5.2 fun d hd=>?_⟩
 obtain⟨e,he,rfl⟩:=(J4 f.1 d).1 hd
 exact k.2.1 e he
theorem A5e{s o:Facts}(h:okS s=true)(k:okS o=true):D1 s (ofS o).1=(A5s s ⟨o.gone,C6 o.adds⟩,0):=by
 rw[Z9 h (Bi8 k),A0y k]
theorem B3d{s:Facts}(h:okS s=true):A5s s ⟨s.gone,C6 s.adds⟩=⟨[],⟨[],[]⟩,s.recs⟩:=by
 have k:=M7.1 h
 have f:=H9.1 k.1
 have e1:A8t s.adds ⟨s.gone,C6 s.adds⟩=[]:=by
  refine List.filter_eq_nil_iff.2 fun e he=>?_
  show ¬(C8 s.gone e.dot == false)=true
  rw[k.2.1 e he]
  decide
 have e2:C2 [C6 (A8t s.adds ⟨s.gone,C6 s.adds⟩),A3k s.gone (C6 s.adds) ⟨s.gone,C6 s.adds⟩]=⟨[],[]⟩:=by
  refine Am5 (Y6 _) A4h.symm fun d=>?_
  rw[A1v,An2,e1]
  simp only [List.any_cons,List.any_nil,Bool.or_false]
  rw[A8l]
  have:C8 (C6 []) d=false:=by
   cases c:C8 (C6 []) d with
   | false=>rfl
   | true =>
    obtain⟨e,he,_⟩:=(J4 (es:=[]) ⟨fun e he=>(by cases he),List.Pairwise.nil⟩ d).1 c
    cases he
  rw[this]
  show(false || (C8 s.gone d && !C8 (C6 s.adds) d && (!C8 s.gone d || C8 (C6 s.adds) d)))=false
  cases C8 s.gone d <;> cases C8 (C6 s.adds) d <;> rfl
 unfold A5s
 rw[e2,e1]
theorem B3e{es:List Entry}{d:Dig}{e:Entry}(h:e∈A8t es d):C8 d.heard e.dot=false:=by
 have:=(List.mem_filter.1 h).2
 simpa using this
theorem B7a{s o:Facts}(h:okS s=true)(k:okS o=true):B5 (A7 (X2 (A5s s ⟨o.gone,C6 o.adds⟩).gone o.gone) (C6 o.adds))=0:=by
 refine Z5.2 fun d hd=>?_
 rw[B0q,Bool.and_eq_true]at hd
 obtain⟨h1,h2⟩:=hd
 have h1:C8 (C2 [C6 (A8t s.adds ⟨o.gone,C6 o.adds⟩),A3k s.gone (C6 s.adds) ⟨o.gone,C6 o.adds⟩]) d=true:=h1
 rw[A1v]at h1
 simp only [List.any_cons,List.any_nil,Bool.or_false,Bool.or_eq_true]at h1
 rcases h1 with h1 | h1
 ·obtain⟨e,he,rfl⟩:=(J4 (Q8 (H9.1 (T4 h)).1 List.filter_sublist) d).1 h1
  rw[show C8 o.gone e.dot=false from B3e he]at h2
  cases h2
 ·rw[A8l]at h1
  simp only [Bool.and_eq_true,Bool.or_eq_true]at h1
  rcases h1.2 with q | q
  ·have q:(!C8 o.gone d)=true:=q
   rw[h2]at q
   cases q
  ·exact q
def eqF4(f:Facts)(x1:List Entry)(x2:List Int)(x3:List Span)(x4:List Record):Prop:=x1=f.adds∧x2=f.gone.vec∧x3=f.gone.cloud∧x4=f.recs
noncomputable def spL(s o:Facts):Facts:=(D1 s (ofS o).1).1
def Bi9(s o:Facts)(i:Int)(x1:List Entry)(x2:List Int)(x3:List Span)(x4:List Record)(y1:List Entry)(y2:List Int)(y3:List Span)(y4:List Record):Prop:=eqF4 o x1 x2 x3 x4∧eqF4 (spL s o) y1 y2 y3 y4∧0≤i∧i≤(spL s o).adds.length
noncomputable def decSp(s o:Facts)(i:Int)(x1:List Entry)(x2:List Int)(x3:List Span)(x4:List Record)(y1:List Entry)(y2:List Int)(y3:List Span)(y4:List Record):Nat:=((spL s o).adds.length-i).toNat
theorem Bj0{f:Facts}(h:okF f=true):okF (stF f)=true:=T4 (Aw1 h)
theorem B3f{f:Facts}(h:¬ ¬ okF f=true):(ofF f).2=0:=by rw[A31 (Classical.not_not.1 h)]
theorem con10(f:Facts)(d:Dig)(hf:szB 1 f)(hd:szD d)(kf:szL f):Con Tryz.prog 10 [.agg (c36 f),.agg (c84 d)] (.b true) :=
 by
 have y:¬¬okF f=true→okF f=true:=Classical.not_not.1
 have yd:¬¬H8 d=0→H8 d=0:=Classical.not_not.1
 have L:=B3a (d:=d) (R9 hf) kf.1
 have l1:=L.2.1
 have l2:=L.2.2
 have q1:=kf.1
 have q2:=kf.2
 have w1:=A5b (E8 f d).1.recs (B4 (E8 f d).1)
 have w2:=A5d (E8 f d).1
 refine sC A9 [.tmp 4] 80 Tryz.func10 ?_
 intro e0 cx
 refine sq<|rG cx [2,3] [2,3] z0<|sn<|sq<|sq<|rG cx [2,3,13] [2,3] (fT (B76 ) (oA 0 (.b (true)) z0))<|sn<|R4 (by kernel_rfl) (by kernel_rfl)<|sK<|sn<|sq<|rG cx [2,3,5,6] [2,3,5] (fT (Bg5 (f) (by exact R9 hf)) (oA 1 (.tup [.agg [.sl (List.map c3 (ofF f).1.heard.vec),.sl (List.map B1 (ofF f).1.heard.cloud),.sl (List.map c3 (ofF f).1.live.vec),.sl (List.map B1 (ofF f).1.live.cloud)],.i .i64 ((ofF f).2)]) z0)) ?_
 refine sn<|sq<|sq<|rG cx [2,3,5,6,21] [2,3,5] (fT (Av8 (f) (by exact hf.1)) (tT 2 (E2:(AV.b !okF f)=AV.b (decide ¬okF f=true)) (oA 1 (.b (okF f)) z0))) ?_
 refine sn<|dC (¬okF f=true) (fun h0=>?_) fun h0=>?_
 refine sq<|rG cx [4] [] (tB 1 ((ofF f).2=1) z0)<|sn<|rT<|nR<|qR (.b (decide ((ofF f).2=1))) (.eq (by rw[X1 h0];rfl))
 refine sK<|sn<|sq<|rG cx [2,3,5,6,7] [2,3,5,7] (fT (Bi1 (f) (by exact hf.1) (by exact kf.1) (by exact kf.2) (by exact A5c (y h0))) (oA 1 (.agg [.sl (List.map c46 (stF f).adds),.sl (List.map c3 (stF f).gone.vec),.sl (List.map B1 (stF f).gone.cloud),.sl (List.map c54 (stF f).recs)]) z0)) ?_
 refine sn<|sq<|rG cx [2,3,5,6,7,8,9] [2,3,5,7,8] (fT (B6t (stF f) (by exact B8z (R9 hf) (y h0))) (oA 1 (.tup [.agg [.sl (List.map c3 (ofS (stF f)).1.heard.vec),.sl (List.map B1 (ofS (stF f)).1.heard.cloud),.sl (List.map c3 (ofS (stF f)).1.live.vec),.sl (List.map B1 (ofS (stF f)).1.live.cloud)],.i .i64 ((ofS (stF f)).2)]) z0)) ?_
 refine sn<|sq<|sq<|B3 (σ':=⟨[(2,.ptr (2) (0) (0) (0)),(3,.ptr (3) (0) (0) (0)),(7,.ptr (7) (0) (0) (0)),(42,.b (decide (¬(ofF f).2=0∨¬(ofS (stF f)).2=0∨¬(ofF f).1=(ofS (stF f)).1)))],[(2,⟨0,36,.var [.sl (List.map c46 f.adds),.sl (List.map c3 f.gone.vec),.sl (List.map B1 f.gone.cloud),.sl (List.map c54 f.recs)]⟩),(3,⟨0,84,.var [.sl (List.map c3 d.heard.vec),.sl (List.map B1 d.heard.cloud),.sl (List.map c3 d.live.vec),.sl (List.map B1 d.live.cloud)]⟩),(7,⟨0,82,.var [.sl (List.map c46 (stF f).adds),.sl (List.map c3 (stF f).gone.vec),.sl (List.map B1 (stF f).gone.cloud),.sl (List.map c54 (stF f).recs)]⟩)]⟩) ?_ ?_
 refine A5 (¬(ofF f).2=0) (fun h2=>?_) (fun h2=>?_)
 refine rG cx [2,3,7,42] [2,3,7] (tT 1 (F3 h2:AV.b ((ofF f).2 !=0)=AV.b true) (tD 11 true (¬(ofF f).2=0∨¬(ofS (stF f)).2=0∨¬(ofF f).1=(ofS (stF f)).1) (by simp only [eq_false h2,tsl]) z0)) ?_
 exact⟨rfl,by kernel_rfl⟩
 refine A5 (¬(ofS (stF f)).2=0) (fun h3=>?_) (fun h3=>?_)
 refine rG cx [2,3,7,42] [2,3,7] (tN 1 ((ofF f).2) (0:Int) (tT 2 (A0 h2) (tT 4 (F3 h3:AV.b ((ofS (stF f)).2 !=0)=AV.b true) (tT 11 (by first | (simp only [eq_false h2,eq_false h3,tsl];done) | simp_all:AV.b true=AV.b (decide (¬(ofF f).2=0∨¬(ofS (stF f)).2=0∨¬(ofF f).1=(ofS (stF f)).1))) z0)))) ?_
 exact⟨rfl,by kernel_rfl⟩
 refine rG cx [2,3,7,42] [2,3,7] (tN 1 ((ofF f).2) (0:Int) (tT 2 (A0 h2) (tN 4 ((ofS (stF f)).2) (0:Int) (tT 5 (A0 h3) (fT (Bi4 ((ofF f).1) ((ofS (stF f)).1) (by exact B8y f)) (tQ 10 ((ofF f).1=(ofS (stF f)).1) (tT 11 (by first | (simp only [eq_false h2,eq_false h3,tsl];done) | simp_all:AV.b (decide ¬(ofF f).1=(ofS (stF f)).1)=AV.b (decide (¬(ofF f).2=0∨¬(ofS (stF f)).2=0∨¬(ofF f).1=(ofS (stF f)).1))) (oA 9 (.b (decide ((ofF f).1=(ofS (stF f)).1))) z0)))))))) ?_
 exact⟨rfl,by kernel_rfl⟩
 refine sn<|dC (¬(ofF f).2=0∨¬(ofS (stF f)).2=0∨¬(ofF f).1=(ofS (stF f)).1) (fun h4=>?_) fun h4=>?_
 refine sq<|rG cx [4] [] z0<|sn<|rT<|nR<|qR (.b (false)) (.eq ?g9);rotate_left
 refine sK<|sn<|sq<|rG cx [3,7,10,6] [3,7,10] (fT (con49 (f) (d) (by exact R9 hf) (by(with_reducible assumption))) (oA 2 (.tup [.agg [.sl (List.map c46 (E8 f d).1.adds),.sl (List.map c3 (E8 f d).1.gone.vec),.sl (List.map B1 (E8 f d).1.gone.cloud),.sl (List.map c54 (E8 f d).1.recs)],.i .i64 ((E8 f d).2)]) z0)) ?_
 refine sn<|sq<|rG cx [3,10,6,11,9] [3,10,11] (fT (B6u (stF f) (d) (by exact B8z (R9 hf) (y h0)) (by(with_reducible assumption))) (oA 2 (.tup [.agg [.sl (List.map c46 (D1 (stF f) d).1.adds),.sl (List.map c3 (D1 (stF f) d).1.gone.vec),.sl (List.map B1 (D1 (stF f) d).1.gone.cloud),.sl (List.map c54 (D1 (stF f) d).1.recs)],.i .i64 ((D1 (stF f) d).2)]) z0)) ?_
 refine sn<|sq<|sq<|rG cx [10,6,11,9,57] [10,11] (fT (B73 (d) (by(with_reducible assumption))) (tQ 2 (H8 d=0) (oA 1 (.b (decide (H8 d=0))) z0)))<|sn<|dC (¬H8 d=0) (fun h5=>?_) fun h5=>?_
 refine sq<|B3 (σ':=⟨[(4,.b (decide ((E8 f d).2=1∧(D1 (stF f) d).2=1)))],[]⟩) ?_ ?_
 refine A5 ((E8 f d).2=1) (fun h_7=>?_) (fun h_7=>?_)
 refine rG cx [4] [] (tT 1 (A4 h_7) (tB 4 ((D1 (stF f) d).2=1) (tD 6 (decide ((D1 (stF f) d).2=1)) ((E8 f d).2=1∧(D1 (stF f) d).2=1) (by simp only [eq_true h_7,tsl]) z0))) ?_
 exact⟨rfl,by kernel_rfl⟩
 refine rG cx [4] [] (tT 1 (A0 h_7) (tD 6 false ((E8 f d).2=1∧(D1 (stF f) d).2=1) (by simp only [eq_false h_7,tsl]) z0)) ?_
 exact⟨rfl,by kernel_rfl⟩
 refine sn<|rT<|nR<|qR (.b (decide ((E8 f d).2=1∧(D1 (stF f) d).2=1))) (.eq (by rw[A1c (.inr h5),Z7 (.inr h5)];rfl))
 refine sK<|sn<|sq<|B3 (σ':=⟨[(4,.b (decide ((E8 f d).2=0∧(D1 (stF f) d).2=0∧okF (E8 f d).1=true∧stF (E8 f d).1=(D1 (stF f) d).1)))],[]⟩) ?_ ?_
 refine A5 ((E8 f d).2=0) (fun h9=>?_) (fun h9=>?_)
 refine A5 ((D1 (stF f) d).2=0) (fun h10=>?_) (fun h10=>?_)
 refine A5 (okF (E8 f d).1=true) (fun h11=>?_) (fun h11=>?_)
 refine ra (A:=_∧_∧_∧_∧_∧_∧(AV.b (decide (stF (E8 f d).1=(D1 (stF f) d).1))=AV.b (decide ((E8 f d).2=0∧(D1 (stF f) d).2=0∧okF (E8 f d).1=true∧stF (E8 f d).1=(D1 (stF f) d).1)))) cx [(1,{ tell:=some (.b (true)) }),(4,{ tell:=some (.b (true)) }),(8,{ val:=some (.b (okF (E8 f d).1)),tell:=some (.b (true)) }),(12,{ val:=some (.agg [.sl (List.map c46 (stF (E8 f d).1).adds),.sl (List.map c3 (stF (E8 f d).1).gone.vec),.sl (List.map B1 (stF (E8 f d).1).gone.cloud),.sl (List.map c54 (stF (E8 f d).1).recs)]) }),(14,{ val:=some (.b (decide (stF (E8 f d).1=(D1 (stF f) d).1))) }),(16,{ tell:=some (.b (decide ((E8 f d).2=0∧(D1 (stF f) d).2=0∧okF (E8 f d).1=true∧stF (E8 f d).1=(D1 (stF f) d).1))) })] [4] [] ⟨(A4 h9),(A4 h10),(L4 h11),(Av8 ((E8 f d).1) (by exact L.1)),(Bi1 ((E8 f d).1) (by exact L.1) (by omega) (by omega) (by exact A5c h11)),(B71 (stF (E8 f d).1) ((D1 (stF f) d).1) (by exact A0z (Bj0 h11)) (by show(I3 (E8 f d).1.recs (B4 (E8 f d).1)).length≤_;omega) (by show(B8 (E8 f d).1).length≤_;omega)),(by simp only [eq_true h9,eq_true h10,eq_true h11,tsl])⟩ ?_
 exact⟨rfl,by kernel_rfl⟩
 refine ra (A:=_∧_∧(AV.b (okF (E8 f d).1)=AV.b false)∧_∧(AV.b false=AV.b (decide ((E8 f d).2=0∧(D1 (stF f) d).2=0∧okF (E8 f d).1=true∧stF (E8 f d).1=(D1 (stF f) d).1)))) cx [(1,{ tell:=some (.b (true)) }),(4,{ tell:=some (.b (true)) }),(8,{ val:=some (.b (okF (E8 f d).1)),tell:=some (.b (false)) }),(16,{ tell:=some (.b (decide ((E8 f d).2=0∧(D1 (stF f) d).2=0∧okF (E8 f d).1=true∧stF (E8 f d).1=(D1 (stF f) d).1))) })] [4] [] ⟨(A4 h9),(A4 h10),(M9 h11),(Av8 ((E8 f d).1) (by exact L.1)),(by simp only [eq_true h9,eq_true h10,eq_false h11,tsl])⟩ ?_
 exact⟨rfl,by kernel_rfl⟩
 refine rA cx [4] [] (tT 1 (A4 h9) (tT 4 (A0 h10) (tD 16 false ((E8 f d).2=0∧(D1 (stF f) d).2=0∧okF (E8 f d).1=true∧stF (E8 f d).1=(D1 (stF f) d).1) (by simp only [eq_true h9,eq_false h10,tsl]) z0))) ?_
 exact⟨rfl,by kernel_rfl⟩
 refine rA cx [4] [] (tT 1 (A0 h9) (tD 16 false ((E8 f d).2=0∧(D1 (stF f) d).2=0∧okF (E8 f d).1=true∧stF (E8 f d).1=(D1 (stF f) d).1) (by simp only [eq_false h9,tsl]) z0)) ?_
 exact⟨rfl,by kernel_rfl⟩
 refine sn<|rT<|qR (.b (decide ((E8 f d).2=0∧(D1 (stF f) d).2=0∧okF (E8 f d).1=true∧stF (E8 f d).1=(D1 (stF f) d).1))) (.eq ?g22);rotate_left
 case g9 =>
  rw[pic_of (y h0)]at h4
  rcases h4 with h4 | h4 | h4
  ·exact absurd (B3f h0) h4
  ·exact absurd (B3f h0) h4
  ·exact absurd rfl h4
 case g22 =>
  refine congrArg AV.b (decide_eq_true ?_)
  refine⟨by rw[Z8 (y h0) (yd h5)],by rw[Z9 (Aw1 (y h0)) (yd h5)],?_,Bi7 (y h0) (yd h5)⟩
  rw[Z8 (y h0) (yd h5)]
  exact A58 (y h0)
theorem con8(s o:Facts)(hs:szB 1 s)(ho:szB 1 o)(ks:szL s)(ko:szL o):Con Tryz.prog 8 [.agg (c82 s),.agg (c82 o)] (.b true) :=
 by
 have y:¬¬okS s=true→okS s=true:=Classical.not_not.1
 have yo:¬¬okS o=true→okS o=true:=Classical.not_not.1
 have L:=Aj1 (s:=s) (d:=(ofS s).1)
 have l1:=L.2.1
 have l2:=L.2.2
 have M:szF (spL s o)∧(spL s o).recs.length≤s.recs.length∧(spL s o).adds.length≤s.adds.length:=Aj1
 have m2:=M.2.2
 have q1:=ks.1
 have q2:=ks.2
 have q3:=ko.1
 have q4:=ko.2
 refine sC A9 [.tmp 4] 101 Tryz.func8 ?_
 intro e0 cx
 refine sq<|rG cx [2,3] [2,3] z0<|sn<|sq<|sq<|rG cx [2,3,12] [2,3] (fT (B76 ) (oA 0 (.b (true)) z0))<|sn<|R4 (by kernel_rfl) (by kernel_rfl)<|sK<|sn<|sq<|rG cx [2,3,5,6] [2,3,5] (fT (B6t (s) (by exact R9 hs)) (oA 1 (.tup [.agg [.sl (List.map c3 (ofS s).1.heard.vec),.sl (List.map B1 (ofS s).1.heard.cloud),.sl (List.map c3 (ofS s).1.live.vec),.sl (List.map B1 (ofS s).1.live.cloud)],.i .i64 ((ofS s).2)]) z0)) ?_
 refine sn<|sq<|rG cx [2,3,5,6,7,8] [2,3,5,7] (fT (B6u (s) ((ofS s).1) (by exact R9 hs) (by exact B39 s)) (oA 2 (.tup [.agg [.sl (List.map c46 (D1 s (ofS s).1).1.adds),.sl (List.map c3 (D1 s (ofS s).1).1.gone.vec),.sl (List.map B1 (D1 s (ofS s).1).1.gone.cloud),.sl (List.map c54 (D1 s (ofS s).1).1.recs)],.i .i64 ((D1 s (ofS s).1).2)]) z0)) ?_
 refine sn<|sq<|sq<|rG cx [2,3,5,6,7,8,26] [2,3,5,7] (fT (B32 (s) (by exact hs.1) (by omega)) (tT 2 (E2:(AV.b !okS s)=AV.b (decide ¬okS s=true)) (oA 1 (.b (okS s)) z0))) ?_
 refine sn<|dC (¬okS s=true) (fun h0=>?_) fun h0=>?_
 refine sq<|B3 (σ':=⟨[(4,.b (decide ((ofS s).2=1∧(D1 s (ofS s).1).2=1∧(↑(D1 s (ofS s).1).1.adds.length:Int)=0)))],[]⟩) ?_ ?_
 refine A5 ((ofS s).2=1) (fun h_2=>?_) (fun h_2=>?_)
 refine A5 ((D1 s (ofS s).1).2=1) (fun h_3=>?_) (fun h_3=>?_)
 refine rG cx [4] [] (tT 1 (A4 h_2) (tT 4 (A4 h_3) (tL 9 c46 ((D1 s (ofS s).1).1.adds) (tB 10 ((↑(D1 s (ofS s).1).1.adds.length:Int)=0) (tD 12 (decide ((↑(D1 s (ofS s).1).1.adds.length:Int)=0)) ((ofS s).2=1∧(D1 s (ofS s).1).2=1∧(↑(D1 s (ofS s).1).1.adds.length:Int)=0) (by simp only [eq_true h_2,eq_true h_3,tsl]) z0))))) ?_
 exact⟨rfl,by kernel_rfl⟩
 refine rG cx [4] [] (tT 1 (A4 h_2) (tT 4 (A0 h_3) (tD 12 false ((ofS s).2=1∧(D1 s (ofS s).1).2=1∧(↑(D1 s (ofS s).1).1.adds.length:Int)=0) (by simp only [eq_true h_2,eq_false h_3,tsl]) z0))) ?_
 exact⟨rfl,by kernel_rfl⟩
 refine rG cx [4] [] (tT 1 (A0 h_2) (tD 12 false ((ofS s).2=1∧(D1 s (ofS s).1).2=1∧(↑(D1 s (ofS s).1).1.adds.length:Int)=0) (by simp only [eq_false h_2,tsl]) z0)) ?_
 exact⟨rfl,by kernel_rfl⟩
 refine sn<|rT<|nR<|qR (.b (decide ((ofS s).2=1∧(D1 s (ofS s).1).2=1∧(↑(D1 s (ofS s).1).1.adds.length:Int)=0))) (.eq (by rw[A26 h0,Z7 (.inl h0)];rfl))
 refine sK<|sn<|sq<|sq<|B3 (σ':=⟨[(2,.ptr (2) (0) (0) (0)),(3,.ptr (3) (0) (0) (0)),(5,.ptr (5) (0) (0) (0)),(7,.ptr (7) (0) (0) (0)),(52,.b (decide (¬(ofS s).2=0∨¬(D1 s (ofS s).1).2=0∨¬(D1 s (ofS s).1).1={ adds:=[],gone:={ vec:=[],cloud:=[]:Past },recs:=s.recs:Facts })))],[(2,⟨0,82,.var [.sl (List.map c46 s.adds),.sl (List.map c3 s.gone.vec),.sl (List.map B1 s.gone.cloud),.sl (List.map c54 s.recs)]⟩),(3,⟨0,82,.var [.sl (List.map c46 o.adds),.sl (List.map c3 o.gone.vec),.sl (List.map B1 o.gone.cloud),.sl (List.map c54 o.recs)]⟩),(5,⟨0,84,.var [.sl (List.map c3 (ofS s).1.heard.vec),.sl (List.map B1 (ofS s).1.heard.cloud),.sl (List.map c3 (ofS s).1.live.vec),.sl (List.map B1 (ofS s).1.live.cloud)]⟩),(7,⟨0,82,.var [.sl (List.map c46 (D1 s (ofS s).1).1.adds),.sl (List.map c3 (D1 s (ofS s).1).1.gone.vec),.sl (List.map B1 (D1 s (ofS s).1).1.gone.cloud),.sl (List.map c54 (D1 s (ofS s).1).1.recs)]⟩)]⟩) ?_ ?_
 refine A5 (¬(ofS s).2=0) (fun h5=>?_) (fun h5=>?_)
 refine rG cx [2,3,5,7,52] [2,3,5,7] (tT 1 (F3 h5:AV.b ((ofS s).2 !=0)=AV.b true) (tD 13 true (¬(ofS s).2=0∨¬(D1 s (ofS s).1).2=0∨¬(D1 s (ofS s).1).1={ adds:=[],gone:={ vec:=[],cloud:=[]:Past },recs:=s.recs:Facts }) (by simp only [eq_false h5,tsl]) z0)) ?_
 exact⟨rfl,by kernel_rfl⟩
 refine A5 (¬(D1 s (ofS s).1).2=0) (fun h6=>?_) (fun h6=>?_)
 refine rG cx [2,3,5,7,52] [2,3,5,7] (tN 1 ((ofS s).2) (0:Int) (tT 2 (A0 h5) (tT 4 (F3 h6:AV.b ((D1 s (ofS s).1).2 !=0)=AV.b true) (tT 13 (by first | (simp only [eq_false h5,eq_false h6,tsl];done) | simp_all:AV.b true=AV.b (decide (¬(ofS s).2=0∨¬(D1 s (ofS s).1).2=0∨¬(D1 s (ofS s).1).1={ adds:=[],gone:={ vec:=[],cloud:=[]:Past },recs:=s.recs:Facts }))) z0)))) ?_
 exact⟨rfl,by kernel_rfl⟩
 refine rG cx [2,3,5,7,52] [2,3,5,7] (tN 1 ((ofS s).2) (0:Int) (tT 2 (A0 h5) (tN 4 ((D1 s (ofS s).1).2) (0:Int) (tT 5 (A0 h6) (fP (Con Tryz.prog (44:Nat) [AV.agg [AV.sl (List.map c46 (D1 s (ofS s).1).1.adds),AV.sl (List.map c3 (D1 s (ofS s).1).1.gone.vec),AV.sl (List.map B1 (D1 s (ofS s).1).1.gone.cloud),AV.sl (List.map c54 (D1 s (ofS s).1).1.recs)],AV.agg [AV.nl,AV.nl,AV.nl,AV.sl (List.map c54 s.recs)]] (AV.b (decide ((D1 s (ofS s).1).1={ adds:=[],gone:={ vec:=[],cloud:=[]:Past },recs:=s.recs:Facts })))) (Con.le (B71 ((D1 s (ofS s).1).1) ({ adds:=[],gone:={ vec:=[],cloud:=[]:Past },recs:=s.recs:Facts }) (by exact L.1) (by omega) (by omega)) (ZLe.cons (B9.refl _) (ZLe.cons (B9.agg (ZLe.cons B9.nl (ZLe.cons B9.nl (ZLe.cons B9.nl (ZLe.cons (B9.refl _) ZLe.nil))))) ZLe.nil))) (tQ 12 ((D1 s (ofS s).1).1={ adds:=[],gone:={ vec:=[],cloud:=[]:Past },recs:=s.recs:Facts }) (tT 13 (by first | (simp only [eq_false h5,eq_false h6,tsl];done) | simp_all:AV.b (decide ¬(D1 s (ofS s).1).1={ adds:=[],gone:={ vec:=[],cloud:=[]:Past },recs:=s.recs:Facts })=AV.b (decide (¬(ofS s).2=0∨¬(D1 s (ofS s).1).2=0∨¬(D1 s (ofS s).1).1={ adds:=[],gone:={ vec:=[],cloud:=[]:Past },recs:=s.recs:Facts }))) (oA 11 (.b (decide ((D1 s (ofS s).1).1={ adds:=[],gone:={ vec:=[],cloud:=[]:Past },recs:=s.recs:Facts }))) z0)))))))) ?_
 exact⟨rfl,by kernel_rfl⟩
 refine sn<|dC (¬(ofS s).2=0∨¬(D1 s (ofS s).1).2=0∨¬(D1 s (ofS s).1).1={ adds:=[],gone:={ vec:=[],cloud:=[]:Past },recs:=s.recs:Facts }) (fun h7=>?_) fun h7=>?_
 refine sq<|rG cx [4] [] z0<|sn<|rT<|nR<|qR (.b (false)) (.eq ?g9);rotate_left
 refine sK<|sn<|sq<|rG cx [2,3,5,7,6] [2,3,5,7] (fT (B6t (o) (by exact R9 ho)) (oA 1 (.tup [.agg [.sl (List.map c3 (ofS o).1.heard.vec),.sl (List.map B1 (ofS o).1.heard.cloud),.sl (List.map c3 (ofS o).1.live.vec),.sl (List.map B1 (ofS o).1.live.cloud)],.i .i64 ((ofS o).2)]) z0)) ?_
 refine sn<|sq<|rG cx [3,7,6,8] [3,7] (fT (B6u (s) ((ofS o).1) (by exact R9 hs) (by exact B39 o)) (oA 2 (.tup [.agg [.sl (List.map c46 (D1 s (ofS o).1).1.adds),.sl (List.map c3 (D1 s (ofS o).1).1.gone.vec),.sl (List.map B1 (D1 s (ofS o).1).1.gone.cloud),.sl (List.map c54 (D1 s (ofS o).1).1.recs)],.i .i64 ((D1 s (ofS o).1).2)]) z0)) ?_
 refine sn<|sq<|sq<|rG cx [3,7,6,8,66] [3,7] (fT (B32 (o) (by exact ho.1) (by omega)) (tT 2 (E2:(AV.b !okS o)=AV.b (decide ¬okS o=true)) (oA 1 (.b (okS o)) z0))) ?_
 refine sn<|dC (¬okS o=true) (fun h8=>?_) fun h8=>?_
 refine sq<|rG cx [4] [] (tB 1 ((ofS o).2=1) z0)<|sn<|rT<|nR<|qR (.b (decide ((ofS o).2=1))) (.eq (by rw[A26 h8];rfl))
 refine sK<|sn<|sq<|sq<|B3 (σ':=⟨[(3,.ptr (3) (0) (0) (0)),(7,.ptr (7) (0) (0) (0)),(74,.b (decide (¬(ofS o).2=0∨¬(D1 s (ofS o).1).2=0)))],[(3,⟨0,82,.var [.sl (List.map c46 o.adds),.sl (List.map c3 o.gone.vec),.sl (List.map B1 o.gone.cloud),.sl (List.map c54 o.recs)]⟩),(7,⟨0,82,.var [.sl (List.map c46 (D1 s (ofS o).1).1.adds),.sl (List.map c3 (D1 s (ofS o).1).1.gone.vec),.sl (List.map B1 (D1 s (ofS o).1).1.gone.cloud),.sl (List.map c54 (D1 s (ofS o).1).1.recs)]⟩)]⟩) ?_ ?_
 refine A5 (¬(ofS o).2=0) (fun h_10=>?_) (fun h_10=>?_)
 refine rG cx [3,7,74] [3,7] (tT 1 (F3 h_10:AV.b ((ofS o).2 !=0)=AV.b true) (tD 5 true (¬(ofS o).2=0∨¬(D1 s (ofS o).1).2=0) (by simp only [eq_false h_10,tsl]) z0)) ?_
 exact⟨rfl,by kernel_rfl⟩
 refine rG cx [3,7,74] [3,7] (tN 1 ((ofS o).2) (0:Int) (tT 2 (A0 h_10) (tN 4 ((D1 s (ofS o).1).2) (0:Int) (tT 5 (by first | (simp only [eq_false h_10,tsl];done) | simp_all:AV.b (decide ¬(D1 s (ofS o).1).2=0)=AV.b (decide (¬(ofS o).2=0∨¬(D1 s (ofS o).1).2=0))) z0)))) ?_
 exact⟨rfl,by kernel_rfl⟩
 refine sn<|dC (¬(ofS o).2=0∨¬(D1 s (ofS o).1).2=0) (fun h11=>?_) fun h11=>?_
 refine sq<|rG cx [4] [] z0<|sn<|rT<|nR<|qR (.b (false)) (.eq ?g16);rotate_left
 refine sK<|sn<|sq<|sq<|rG cx [3,7,9] [3,7] z0<|sn<|bL 0<|sL (X:=Int×List Entry×List Int×List Span×List Record×List Entry×List Int×List Span×List Record) (fun x=>⟨[(3,.ptr (3) (0) (0) (0)),(7,.ptr (7) (0) (0) (0)),(9,.i .i64 (x.1))],[(3,⟨0,82,.var [.sl (List.map c46 x.2.1),.sl (List.map c3 x.2.2.1),.sl (List.map B1 x.2.2.2.1),.sl (List.map c54 x.2.2.2.2.1)]⟩),(7,⟨0,82,.var [.sl (List.map c46 x.2.2.2.2.2.1),.sl (List.map c3 x.2.2.2.2.2.2.1),.sl (List.map B1 x.2.2.2.2.2.2.2.1),.sl (List.map c54 x.2.2.2.2.2.2.2.2)]⟩)]⟩) (fun x ↦ decSp s o x.1 x.2.1 x.2.2.1 x.2.2.2.1 x.2.2.2.2.1 x.2.2.2.2.2.1 x.2.2.2.2.2.2.1 x.2.2.2.2.2.2.2.1 x.2.2.2.2.2.2.2.2) (fun x ↦ Bi9 s o x.1 x.2.1 x.2.2.1 x.2.2.2.1 x.2.2.2.2.1 x.2.2.2.2.2.1 x.2.2.2.2.2.2.1 x.2.2.2.2.2.2.2.1 x.2.2.2.2.2.2.2.2) [3,7,9] [3,7] (((0:Int),o.adds,o.gone.vec,o.gone.cloud,o.recs,(D1 s (ofS o).1).1.adds,(D1 s (ofS o).1).1.gone.vec,(D1 s (ofS o).1).1.gone.cloud,(D1 s (ofS o).1).1.recs)) (show Bi9 s o (0:Int) o.adds o.gone.vec o.gone.cloud o.recs (D1 s (ofS o).1).1.adds (D1 s (ofS o).1).1.gone.vec (D1 s (ofS o).1).1.gone.cloud (D1 s (ofS o).1).1.recs from(by exact⟨⟨rfl,rfl,rfl,rfl⟩,⟨rfl,rfl,rfl,rfl⟩,by omega,by omega⟩)) ?_
 rintro⟨i12,x13,x14,x15,x16,y17,y18,y19,y20⟩ h_21
 obtain⟨h22,h23,h24,h25⟩:eqF4 o x13 x14 x15 x16∧eqF4 (spL s o) y17 y18 y19 y20∧0≤i12∧i12≤(↑(spL s o).adds.length:Int):=h_21
 refine sq<|rD cx [3,7,9,79] [3,7] (tL 3 c46 y17 (zB 4 (i12 <(↑y17.length:Int)))) (fun h26=>?_) fun h26=>?_
 refine sK<|sn<|sq<|bL 1<|sq<|rA cx [3,7,9,90] [3,7] (fA (0≤i12) (fG c46 y17 i12.toNat (fR 4 (fN 2 4 (fT (B1m ({ vec:=x14,cloud:=x15:Past }) (y17[i12.toNat]!.dot) (by obtain⟨rfl,rfl,rfl,rfl⟩:=h22;have:=ho.1.1.1;show o.gone.cloud.length≤_;omega)) (oR 5 (c46 y17[i12.toNat]!) (oA 8 (.b (C8 { vec:=x14,cloud:=x15:Past } y17[i12.toNat]!.dot)) z0))))))) ?_
 refine sn<|Y1 (C8 { vec:=x14,cloud:=x15:Past } y17[i12.toNat]!.dot) (by kernel_rfl) (by kernel_rfl) (fun h27=>?_) (fun h27=>?_)
 refine sq<|rG cx [4] [] z0<|sn<|rT<|bR<|nR<|nR<|bR<|nR<|qR (.b (false)) (.eq ?g19);rotate_left
 refine sK<|bN<|sn<|rG cx [3,7,9] [3,7] (tT 1 (B7 (by omega) (by omega):AV.i .i64 (IntKind.i64.wrap (i12+1))=AV.i .i64 (i12+1)) z0) ?_
 refine sn<|nX ((i12+1,x13,x14,x15,x16,y17,y18,y19,y20)) (show((↑(spL s o).adds.length:Int)-(i12+1)).toNat <((↑(spL s o).adds.length:Int)-i12).toNat from(by obtain⟨rfl,rfl,rfl,rfl⟩:=h23;omega)) (show Bi9 s o (i12+1) x13 x14 x15 x16 y17 y18 y19 y20 from(by have:=h23.1;subst this;exact⟨h22,h23,by omega,by omega⟩))
 refine eX 0<|nE<|nE<|bH<|sn<|sq<|rG cx [3,7,10] [3,7,10] (fT (Aw0 (x13) ({ data:=#[]:ByteArray }) ((-1:Int)) (by obtain⟨rfl,rfl,rfl,rfl⟩:=h22;exact q3)) (oA 2 (.agg [.sl (List.map c3 (L1 x13 { data:=#[]:ByteArray } (-1:Int)).vec),.sl (List.map B1 (L1 x13 { data:=#[]:ByteArray } (-1:Int)).cloud)]) z0)) ?_
 refine sn<|sq<|rA cx [4] [] (fT (con47 ({ vec:=y18,cloud:=y19:Past }) ({ vec:=x14,cloud:=x15:Past }) (by obtain⟨rfl,rfl,rfl,rfl⟩:=h23;exact M.1.1.1) (by obtain⟨rfl,rfl,rfl,rfl⟩:=h22;exact ho.1.1.1)) (fT (B24 (X2 { vec:=y18,cloud:=y19:Past } { vec:=x14,cloud:=x15:Past }) (L1 x13 { data:=#[]:ByteArray } (-1:Int)) (by exact T3 (A7s _ _)) (by exact Ar6 _)) (oA 4 (.agg [.sl (List.map c3 (X2 { vec:=y18,cloud:=y19:Past } { vec:=x14,cloud:=x15:Past }).vec),.sl (List.map B1 (X2 { vec:=y18,cloud:=y19:Past } { vec:=x14,cloud:=x15:Past }).cloud)]) (oA 6 (.b (decide (B5 (A7 (X2 { vec:=y18,cloud:=y19:Past } { vec:=x14,cloud:=x15:Past }) (L1 x13 { data:=#[]:ByteArray } (-1:Int)))=0))) z0)))) ?_
 refine sn<|rT<|qR (.b (decide (B5 (A7 (X2 { vec:=y18,cloud:=y19:Past } { vec:=x14,cloud:=x15:Past }) (L1 x13 { data:=#[]:ByteArray } (-1:Int)))=0))) (.eq ?g28);rotate_left
 case g9 =>
  rcases h7 with h7 | h7 | h7
  ·exact absurd (by rw[A0y (y h0)]) h7
  ·exact absurd (by rw[A5e (y h0) (y h0)]) h7
  ·exact absurd (by rw[A5e (y h0) (y h0)];exact B3d (y h0)) h7
 case g16 =>
  rcases h11 with h11 | h11
  ·exact absurd (by rw[A0y (yo h8)]) h11
  ·exact absurd (by rw[A5e (y h0) (yo h8)]) h11
 case g19 =>
  obtain⟨rfl,rfl,rfl,rfl⟩:=h22
  obtain⟨rfl,rfl,rfl,rfl⟩:=h23
  have hm:(spL s o).adds[i12.toNat]!∈(spL s o).adds:=B8r h24 h26
  have e:(spL s o).adds=A8t s.adds ⟨o.gone,C6 o.adds⟩:=by unfold spL;rw[A5e (y h0) (yo h8)];rfl
  generalize (spL s o).adds[i12.toNat]! = z at hm h27
  rw[e]at hm
  have c:=B3e hm
  have h27:C8 o.gone z.dot=true:=h27
  have c:C8 o.gone z.dot=false:=c
  rw[h27]at c
  cases c
 case g28 =>
  obtain⟨rfl,rfl,rfl,rfl⟩:=h22
  obtain⟨rfl,rfl,rfl,rfl⟩:=h23
  refine congrArg AV.b (decide_eq_true ?_)
  rw[show(⟨#[]⟩:ByteArray)=noneS from rfl,P4]
  have e:spL s o=A5s s ⟨o.gone,C6 o.adds⟩:=by unfold spL;rw[A5e (y h0) (yo h8)]
  show B5 (A7 (X2 (spL s o).gone o.gone) (C6 o.adds))=0
  rw[e]
  exact B7a (y h0) (yo h8)
end Go.Proofs.YtphcaholhacnpaaGreat
namespace Go.Proofs.YtphcaholhacnpaaGreat
open Go.E Go.ChangeShapes Go.WideShapes Go.ChangeAt Go.RowKit
set_option maxRecDepth 100000
theorem law8  {a1:AV}(h1:TyA tab 1048576 9 82 a1){a2:AV}(h2:TyA tab 1048576 9 82 a2):Con Tryz.prog 8 [a1,a2] (.b true):=by
 obtain⟨x1,rfl,k1⟩:=ta82 h1
 obtain⟨x2,rfl,k2⟩:=ta82 h2
 exact con8 x1 x2 (Aj2 k1) (Aj2 k2) (Aj3 k1) (Aj3 k2)
theorem DigestSpares_lifted(os:Os)(started:os.Started)(H:Type)(enc:TypeId×Value→H)(F:Stop.Interp) :
  ReturnsInHanded {} Tryz.checked os 8 .any ((Rows.OpenSpec.upto Rows.digestSparesSpec).pre6 enc Tryz.prog Tryz.f8 Rows.digestSparesUptoRow.domain false) (((Rows.OpenSpec.upto Rows.digestSparesSpec).at F).post enc Tryz.prog Tryz.f8 false true false false):=by
 refine L9 (C:=Tryz.checked) (s:=Rows.digestSparesSpec) (k:=Rows.uptoSmall) F [82,82] 4 1048576 9 rfl (fun ds=>A0p ds) A9 Tryz.laidOut Tryz.own started (by kernel_rfl) Tryz.func8 rfl rfl (by kernel_rfl) (by kernel_rfl) rfl ?_
  (OpenSpec.witness (enc:=enc) (C:=Tryz.checked) (s:=Rows.OpenSpec.upto Rows.digestSparesSpec) (k:=Rows.uptoSmall) rfl false ⟨#[],#[.agg #[.slice none 0 0,.slice none 0 0,.slice none 0 0,.slice none 0 0],.agg #[.slice none 0 0,.slice none 0 0,.slice none 0 0,.slice none 0 0]],[]⟩ 8 (by kernel_rfl) (by kernel_rfl) (by kernel_rfl)
   (x:=([.agg [.nil,.agg [.nil,.nil],.nil],.agg [.nil,.agg [.nil,.nil],.nil]],[],[])) (by kernel_rfl) rfl (by kernel_rfl)) ?_
 ·intro ds hds
  rcases ds with _ | ⟨d1,_ | ⟨d2,_ | ⟨d3,l⟩⟩⟩
  ·exact absurd hds (by simp)
  ·exact absurd hds (by simp)
  ·kernel_rfl
  ·exact absurd hds (by simp)
 ·intro avs h
  rcases avs with _ | ⟨a1,_ | ⟨a2,_ | ⟨a3,l⟩⟩⟩
  ·exact h.elim
  ·exact h.2.elim
  ·exact law8 h.1 h.2.1
  ·exact h.2.2.elim
theorem DigestSpares_j1:Rows.digestSparesUptoRow.inPlace=Tryz.prog.inPlace 8:=by kernel_rfl
theorem DigestSpares_j2:Rows.digestSparesUptoRow.unfollowed=Tryz.prog.unfollowed 8:=by kernel_rfl
theorem DigestSpares_j3:Rows.digestSparesUptoRow.recurses=Tryz.prog.recurses 8:=by kernel_rfl
theorem DigestSpares_j4:Rows.digestSparesUptoRow.named=Tryz.prog.varsNamed 8:=by kernel_rfl
theorem DigestSpares_j5:Rows.digestSparesUptoRow.plainKeys=Tryz.prog.plainKeys:=by kernel_rfl
theorem DigestSpares_j6:Rows.digestSparesUptoRow.lifted=Tryz.prog.liftsFinal:=by kernel_rfl
theorem DigestSpares_j7:Tryz.prog.funcNamed Rows.digestSparesUptoRow.func=some 8:=by kernel_rfl
theorem DigestSpares_joined:Go.joinedFacts Tryz.prog 8 Tryz.f8 (Rows.OpenSpec.upto Rows.digestSparesSpec).bare Rows.digestSparesUptoRow=true:=by
 unfold Go.joinedFacts
 rw[Tryz.laidOut,Tryz.rowedM,Tryz.stopsH,Tryz.mayE,← DigestSpares_j1,← DigestSpares_j2,← DigestSpares_j3,← DigestSpares_j4,← DigestSpares_j5,← DigestSpares_j6]
 kernel_rfl
theorem DigestSpares_holds:Rows.DigestSparesUptoSaid :=
 OpenClaim.holds_of_cond 8 Tryz.f8 rfl rfl rfl rfl rfl rfl rfl ⟨rfl,rfl,rfl,rfl,rfl⟩ rfl rfl rfl rfl rfl DigestSpares_j7 Tryz.func8 DigestSpares_joined
  (of_decide_eq_true (by kernel_rfl)) (by unfold Func.isWrapper;first | (rw[if_pos (by decide +kernel)];kernel_rfl) | (rw[if_neg (by decide +kernel)];exact⟨rfl,rfl⟩))
  (fun os started H enc _ F=>DigestSpares_lifted os started H enc F)
end Go.Proofs.YtphcaholhacnpaaGreat
namespace Go.Proofs.YtphcaholhacnpaaGreat
open Go.E Go.ChangeShapes Go.WideShapes Go.ChangeAt Go.RowKit
set_option maxRecDepth 100000
theorem law9  {a1:AV}(h1:TyA tab 1048576 9 36 a1){a2:AV}(h2:TyA tab 1048576 9 82 a2){a3:AV}(h3:TyA tab 1048576 9 84 a3):Con Tryz.prog 9 [a1,a2,a3] (.b true):=by
 obtain⟨x1,rfl,k1⟩:=ta36 h1
 obtain⟨x2,rfl,k2⟩:=ta82 h2
 obtain⟨x3,rfl,k3⟩:=ta84 h3
 exact con9 x1 x2 x3 (Aj2 k1) (Aj2 k2) (B3c k3) (Aj3 k1) (Aj3 k2)
theorem DigestLacks_lifted(os:Os)(started:os.Started)(H:Type)(enc:TypeId×Value→H)(F:Stop.Interp) :
  ReturnsInHanded {} Tryz.checked os 9 .any ((Rows.OpenSpec.upto Rows.digestLacksSpec).pre6 enc Tryz.prog Tryz.f9 Rows.digestLacksUptoRow.domain false) (((Rows.OpenSpec.upto Rows.digestLacksSpec).at F).post enc Tryz.prog Tryz.f9 false true false false):=by
 refine L9 (C:=Tryz.checked) (s:=Rows.digestLacksSpec) (k:=Rows.uptoSmall) F [36,82,84] 4 1048576 9 rfl (fun ds=>A0p ds) A9 Tryz.laidOut Tryz.own started (by kernel_rfl) Tryz.func9 rfl rfl (by kernel_rfl) (by kernel_rfl) rfl ?_
  (OpenSpec.witness (enc:=enc) (C:=Tryz.checked) (s:=Rows.OpenSpec.upto Rows.digestLacksSpec) (k:=Rows.uptoSmall) rfl false ⟨#[],#[.agg #[.slice none 0 0,.slice none 0 0,.slice none 0 0,.slice none 0 0],.agg #[.slice none 0 0,.slice none 0 0,.slice none 0 0,.slice none 0 0],.agg #[.slice none 0 0,.slice none 0 0,.slice none 0 0,.slice none 0 0]],[]⟩ 8 (by kernel_rfl) (by kernel_rfl) (by kernel_rfl)
   (x:=([.agg [.nil,.agg [.nil,.nil],.nil],.agg [.nil,.agg [.nil,.nil],.nil],.agg [.agg [.nil,.nil],.agg [.nil,.nil]]],[],[])) (by kernel_rfl) rfl (by kernel_rfl)) ?_
 ·intro ds hds
  rcases ds with _ | ⟨d1,_ | ⟨d2,_ | ⟨d3,_ | ⟨d4,l⟩⟩⟩⟩
  ·exact absurd hds (by simp)
  ·exact absurd hds (by simp)
  ·exact absurd hds (by simp)
  ·kernel_rfl
  ·exact absurd hds (by simp)
 ·intro avs h
  rcases avs with _ | ⟨a1,_ | ⟨a2,_ | ⟨a3,_ | ⟨a4,l⟩⟩⟩⟩
  ·exact h.elim
  ·exact h.2.elim
  ·exact h.2.2.elim
  ·exact law9 h.1 h.2.1 h.2.2.1
  ·exact h.2.2.2.elim
theorem DigestLacks_j1:Rows.digestLacksUptoRow.inPlace=Tryz.prog.inPlace 9:=by kernel_rfl
theorem DigestLacks_j2:Rows.digestLacksUptoRow.unfollowed=Tryz.prog.unfollowed 9:=by kernel_rfl
theorem DigestLacks_j3:Rows.digestLacksUptoRow.recurses=Tryz.prog.recurses 9:=by kernel_rfl
theorem DigestLacks_j4:Rows.digestLacksUptoRow.named=Tryz.prog.varsNamed 9:=by kernel_rfl
theorem DigestLacks_j5:Rows.digestLacksUptoRow.plainKeys=Tryz.prog.plainKeys:=by kernel_rfl
theorem DigestLacks_j6:Rows.digestLacksUptoRow.lifted=Tryz.prog.liftsFinal:=by kernel_rfl
theorem DigestLacks_j7:Tryz.prog.funcNamed Rows.digestLacksUptoRow.func=some 9:=by kernel_rfl
theorem DigestLacks_joined:Go.joinedFacts Tryz.prog 9 Tryz.f9 (Rows.OpenSpec.upto Rows.digestLacksSpec).bare Rows.digestLacksUptoRow=true:=by
 unfold Go.joinedFacts
 rw[Tryz.laidOut,Tryz.rowedM,Tryz.stopsH,Tryz.mayE,← DigestLacks_j1,← DigestLacks_j2,← DigestLacks_j3,← DigestLacks_j4,← DigestLacks_j5,← DigestLacks_j6]
 kernel_rfl
theorem DigestLacks_holds:Rows.DigestLacksUptoSaid :=
 OpenClaim.holds_of_cond 9 Tryz.f9 rfl rfl rfl rfl rfl rfl rfl ⟨rfl,rfl,rfl,rfl,rfl⟩ rfl rfl rfl rfl rfl DigestLacks_j7 Tryz.func9 DigestLacks_joined
  (of_decide_eq_true (by kernel_rfl)) (by unfold Func.isWrapper;first | (rw[if_pos (by decide +kernel)];kernel_rfl) | (rw[if_neg (by decide +kernel)];exact⟨rfl,rfl⟩))
  (fun os started H enc _ F=>DigestLacks_lifted os started H enc F)
end Go.Proofs.YtphcaholhacnpaaGreat
namespace Go.Proofs.YtphcaholhacnpaaGreat
open Go.E Go.ChangeShapes Go.WideShapes Go.ChangeAt Go.RowKit
set_option maxRecDepth 100000
theorem law10  {a1:AV}(h1:TyA tab 1048576 9 36 a1){a2:AV}(h2:TyA tab 1048576 9 84 a2):Con Tryz.prog 10 [a1,a2] (.b true):=by
 obtain⟨x1,rfl,k1⟩:=ta36 h1
 obtain⟨x2,rfl,k2⟩:=ta84 h2
 exact con10 x1 x2 (Aj2 k1) (B3c k2) (Aj3 k1)
theorem DigestPictures_lifted(os:Os)(started:os.Started)(H:Type)(enc:TypeId×Value→H)(F:Stop.Interp) :
  ReturnsInHanded {} Tryz.checked os 10 .any ((Rows.OpenSpec.upto Rows.digestPicturesSpec).pre6 enc Tryz.prog Tryz.f10 Rows.digestPicturesUptoRow.domain false) (((Rows.OpenSpec.upto Rows.digestPicturesSpec).at F).post enc Tryz.prog Tryz.f10 false true false false):=by
 refine L9 (C:=Tryz.checked) (s:=Rows.digestPicturesSpec) (k:=Rows.uptoSmall) F [36,84] 4 1048576 9 rfl (fun ds=>A0p ds) A9 Tryz.laidOut Tryz.own started (by kernel_rfl) Tryz.func10 rfl rfl (by kernel_rfl) (by kernel_rfl) rfl ?_
  (OpenSpec.witness (enc:=enc) (C:=Tryz.checked) (s:=Rows.OpenSpec.upto Rows.digestPicturesSpec) (k:=Rows.uptoSmall) rfl false ⟨#[],#[.agg #[.slice none 0 0,.slice none 0 0,.slice none 0 0,.slice none 0 0],.agg #[.slice none 0 0,.slice none 0 0,.slice none 0 0,.slice none 0 0]],[]⟩ 8 (by kernel_rfl) (by kernel_rfl) (by kernel_rfl)
   (x:=([.agg [.nil,.agg [.nil,.nil],.nil],.agg [.agg [.nil,.nil],.agg [.nil,.nil]]],[],[])) (by kernel_rfl) rfl (by kernel_rfl)) ?_
 ·intro ds hds
  rcases ds with _ | ⟨d1,_ | ⟨d2,_ | ⟨d3,l⟩⟩⟩
  ·exact absurd hds (by simp)
  ·exact absurd hds (by simp)
  ·kernel_rfl
  ·exact absurd hds (by simp)
 ·intro avs h
  rcases avs with _ | ⟨a1,_ | ⟨a2,_ | ⟨a3,l⟩⟩⟩
  ·exact h.elim
  ·exact h.2.elim
  ·exact law10 h.1 h.2.1
  ·exact h.2.2.elim
theorem DigestPictures_j1:Rows.digestPicturesUptoRow.inPlace=Tryz.prog.inPlace 10:=by kernel_rfl
theorem DigestPictures_j2:Rows.digestPicturesUptoRow.unfollowed=Tryz.prog.unfollowed 10:=by kernel_rfl
theorem DigestPictures_j3:Rows.digestPicturesUptoRow.recurses=Tryz.prog.recurses 10:=by kernel_rfl
theorem DigestPictures_j4:Rows.digestPicturesUptoRow.named=Tryz.prog.varsNamed 10:=by kernel_rfl
theorem DigestPictures_j5:Rows.digestPicturesUptoRow.plainKeys=Tryz.prog.plainKeys:=by kernel_rfl
theorem DigestPictures_j6:Rows.digestPicturesUptoRow.lifted=Tryz.prog.liftsFinal:=by kernel_rfl
theorem DigestPictures_j7:Tryz.prog.funcNamed Rows.digestPicturesUptoRow.func=some 10:=by kernel_rfl
theorem DigestPictures_joined:Go.joinedFacts Tryz.prog 10 Tryz.f10 (Rows.OpenSpec.upto Rows.digestPicturesSpec).bare Rows.digestPicturesUptoRow=true:=by
 unfold Go.joinedFacts
 rw[Tryz.laidOut,Tryz.rowedM,Tryz.stopsH,Tryz.mayE,← DigestPictures_j1,← DigestPictures_j2,← DigestPictures_j3,← DigestPictures_j4,← DigestPictures_j5,← DigestPictures_j6]
 kernel_rfl
theorem DigestPictures_holds:Rows.DigestPicturesUptoSaid :=
 OpenClaim.holds_of_cond 10 Tryz.f10 rfl rfl rfl rfl rfl rfl rfl ⟨rfl,rfl,rfl,rfl,rfl⟩ rfl rfl rfl rfl rfl DigestPictures_j7 Tryz.func10 DigestPictures_joined
  (of_decide_eq_true (by kernel_rfl)) (by unfold Func.isWrapper;first | (rw[if_pos (by decide +kernel)];kernel_rfl) | (rw[if_neg (by decide +kernel)];exact⟨rfl,rfl⟩))
  (fun os started H enc _ F=>DigestPictures_lifted os started H enc F)
end Go.Proofs.YtphcaholhacnpaaGreat
