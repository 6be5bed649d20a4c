/- Pv: past.Meet, Within, Order; span.Within. Conditions: sizes. EZ: what has been drawn is never taken back: a call leaves the count of draws no smaller. Conditions: none. ET3: slices.SortFunc at a row whose cells lead on, by a comparing call that may lay blocks: the row comes into the one order. Conditions: the comparing is a total order of what the row holds. Ko: records put in order, each once, in plain words. Conditions: none. Ta: the act layer's document: entries, records, facts in form. Conditions: sizes. Kw: keep.Waits and the document's; lists of entries in the document's chapter 7. Conditions: sizes. Tt: tomb: in plain words. Conditions: none. Tu: tomb: Check, Less, Within, Order. Conditions: sizes. Lm: lines: Dots, Inside, Outside. Conditions: sizes. Tv: the document's Check, Less, Within, Order, Copy, Equal. Conditions: sizes. Ks: records: slices.SortFunc, CompactFunc, Grow and Concat at them, keep.Sort, keep.Union. Conditions: sizes. Kt: records in the documents: ordered, Union, Bars. Conditions: sizes. Lpa: entries in form, in plain words (first part). Conditions: none. Tx: tomb: Join, Live, Past, Clash, and the document's. Conditions: sizes. Tn: what the tomb's calls come to, in plain words. Conditions: none. Dc: act: the document's Dots, Sum, lines, limits. Conditions: sizes. Xa: the values of more Go types (a state is taken as facts: live, past, waiting). Conditions: none. Sp: compact states: in plain words. Conditions: none. Sw: swot.Check; digest's Check, OfFacts, OfSwot, LackFacts, LackSwot. Conditions: sizes. Rv: the document's Meet. Conditions: sizes. Ea: act.Effect, the document's Effect. Conditions: sizes. Sr: the document's chapters 11 and 14: forms, what is heard of, live, waits; digests. Conditions: sizes. -/
import Derived.Below
import Derived.OwnWalk
import Derived.WalkKit
import Derived.KernelRfl
import Derived.Laws.MakeOwn
import Derived.Laws.OwnMore
import Derived.Laws.Slices
import Derived.Laws.CopyOwn
import Derived.Laws.AppendOwnNone
import Derived.Laws.Rows
import Derived.Orders
import Derived.Test.YtphcaholhacnpaaGreatProg
import Derived.DataReads
import Derived.ChangeOld
import Derived.DataElems
import Derived.SizedLaws
import Derived.ChangeKeysEq
import Derived.Sort.LotA
import Derived.Shelf.SlSortFuncK.RowK2
import Derived.Shelf.SlSortCmp.NoneTotal
import Derived.Lib.Walk
import Derived.Shelf.SlLaysE0
import Derived.Shelf.RegionOpenPlain
import Derived.Deep.LoopGhost
import Derived.Lib.SliceRun
import Derived.Calls
import Derived.Lib.Bytealg
import Derived.Shelf.SlSortFuncK.SWK
import Derived.Deep.Cut
import Derived.Deep.CutRange
import Derived.Deep.DeepCutAuto
import Derived.Lib.ReflectliteSwap
import Derived.Laws.Externs
import Derived.Lib.ReflectliteSlice
import Derived.Lib.AppendZeros
import Derived.BigQuiet
import Derived.Shelf.SlSortFuncK.WholeK
import Derived.Shelf.GgSortFunc.Tiny
import Derived.Maps.RangeRun
import Derived.Test.YtphcaholhacnpaaGreatZd4
set_option linter.unusedVariables false
set_option linter.unusedSimpArgs false
set_option linter.unusedSectionVars false
namespace Go.Proofs.YtphcaholhacnpaaGreat
open Go.E
set_option maxRecDepth 100000
set_option maxHeartbeats 4000000
def Bd7(A B:Nat→List Run)(r:Int)(T:Nat→List Run):Prop:=∀ k:Nat,k < 16→T k=if(k:Int) < r then A5f (A k) (B k)else A k
def Bd8(A B:Nat→List Run)(r:Int)(T U:Nat→List Run):Prop:=U=B∧0≤r∧r≤16∧Bd7 A B r T
theorem B62(A B:Nat→List Run):Bd7 A B 0 A:=fun k _=>by rw[if_neg (by omega)]
theorem eb_at{A B T:Nat→List Run}{r:Int}(h0:0≤r)(h1:r < 16)(h:Bd7 A B r T):T r.toNat=A r.toNat:=by
 rw[h r.toNat (by omega),if_neg (by omega)]
theorem Bd9{A B T:Nat→List Run}{r:Int}(h0:0≤r)(h1:r < 16)(h:Bd7 A B r T):Bd7 A B (r+1) (I1 T r.toNat (A5f (T r.toNat) (B r.toNat))):=by
 intro k hk
 unfold I1
 by_cases e:k=r.toNat
 ·subst e
  rw[if_pos rfl,if_pos (by omega),eb_at h0 h1 h]
 ·rw[if_neg e,h k hk]
  by_cases c:(k:Int) < r
  ·rw[if_pos c,if_pos (by omega)]
  ·rw[if_neg c,if_neg (by omega)]
theorem eb_end{A B T:Nat→List Run}{r:Int}(hr:r≤16)(h1:¬ r < 16)(h:Bd7 A B r T):E4 T=E4 fun k=>A5f (A k) (B k):=K7 fun k hk=>by
 rw[h k hk,if_pos (by omega)]
theorem B63(a b:List Run):(A5f a b).length≤500000000:=L5 (A7r a b)
theorem Be0{l:List Run}(h:M0 l):l=[]↔∀ n,¬ inR l n:=by
 constructor
 ·rintro rfl n ⟨r,hr,_⟩;cases hr
 ·intro k
  cases l with
  | nil=>rfl
  | cons r l =>
   have:=h.2 r (by simp)
   exact absurd ⟨r,by simp,by omega,by omega⟩ (k r.lo)
theorem B25(a b:Past):B5 (A7 a b)=0↔∀ r:Nat,r < 16→W3 (A6 [a] r) (A6 [b] r)=[]:=by
 rw[A0f]
 constructor
 ·intro h r hr
  rw[Be0 (A1u _ _)]
  intro n hn
  have hs:=A1u (A6 [a] r) (A6 [b] r)
  obtain⟨x,hx,h1,h2⟩:=hn
  have hx':=hs.2 x hx
  have:=h ⟨r,n⟩
  have k:C8 (A7 a b) ⟨r,n⟩=true:=by
   unfold A7
   rw[L6]
   refine⟨?_,⟨x,hx,h1,h2⟩⟩
   unfold N1
   simp
   omega
  rw[k]at this
  cases this
 ·intro h d
  rw[← Bool.not_eq_true]
  unfold A7
  rw[L6]
  rintro⟨h1,h2⟩
  have hr:d.rep.toNat < 16:=by
   unfold N1 at h1
   simp at h1
   omega
  rw[h _ hr]at h2
  obtain⟨x,hx,_⟩:=h2
  cases hx
def isWi(A B:Nat→List Run)(r:Int):Prop:=∀ k:Nat,(k:Int) < r→W3 (A k) (B k)=[]
def Be1(A B:Nat→List Run)(r:Int)(T U:Nat→List Run):Prop:=T=A∧U=B∧0≤r∧r≤16∧isWi A B r
theorem B64(b:List Run):W3 [] b=[]:=by
 unfold W3
 have:nrm ([]:List Run)=[]:=A1r ⟨List.Pairwise.nil,fun r hr=>by cases hr⟩
 rw[this,N6]
theorem B65(a b:Past)(ha:a.cloud.length*16≤140737488350000)(hb:b.cloud.length*16≤140737488350000):Con Tryz.prog 196 [.agg (c26 a),.agg (c26 b),.fn (.func 224) [] []] (.agg (c26 (X2 a b))) :=
 by
 refine sC A9 [.cell 6 26] 38 Tryz.func196 ?_
 intro e0 cx
 refine sq<|rG cx [2,3,4,6] [3,4,6] z0<|sn<|sq<|rA cx [2,6,7,8] [6,12,15] (fT (A7o ([a]) (by exact A2v ha)) (fT (A7o ([b]) (by exact A2v hb)) (oV 2 { val:=some (.ptr ((204:Nat)) (0) (0) (0)),row:=(D2 c206 16 (A6 [a])) } (oV 5 { val:=some (.ptr ((204:Nat)) (0) (0) (0)),row:=(D2 c206 16 (A6 [b])) } z0)))) ?_
 refine sn<|sq<|sq<|rG cx [2,6,7,8,16] [6,12,15] z0<|sn<|bL 0<|sL (X:=Int×(Nat→List Run)×(Nat→List Run)) (fun x=>⟨[(2,.fn (Fn.func (224:FuncId)) [] []),(6,.ptr (6) (0) (0) (0)),(7,.ptr (12) (0) (0) (0)),(8,.ptr (15) (0) (0) (0)),(16,.i .i64 (x.1))],[(6,⟨0,26,.var [.nl,.nl]⟩),(12,⟨0,204,.arr (D2 c206 16 x.2.1)⟩),(15,⟨0,204,.arr (D2 c206 16 x.2.2)⟩)]⟩) (fun x ↦ Bb1 x.1 x.2.1 x.2.2) (fun x ↦ Bd8 (A6 [a]) (A6 [b]) x.1 x.2.1 x.2.2) [2,6,7,8,16] [6,12,15] (((0:Int),A6 [a],A6 [b])) (show Bd8 (A6 [a]) (A6 [b]) (0:Int) (A6 [a]) (A6 [b])from(by exact⟨rfl,by omega,by omega,B62 _ _⟩)) ?_
 rintro⟨r0,T1,U2⟩ h_3
 obtain⟨h4,h5,h6,h7⟩:U2=A6 [b]∧0≤r0∧r0≤16∧Bd7 (A6 [a]) (A6 [b]) r0 T1:=h_3
 refine rE cx [2,6,7,8,16,17] [6,12,15] (zB 0 (r0 <(16:Int))) (fun h8=>?_) fun h8=>?_
 refine sK<|sn<|sq<|bL 1<|sq<|rG cx [2,6,7,8,16,9] [6,12,15] z0<|sn<|rA cx [2,6,7,8,16] [6,12,15] (fA (0≤r0) (fO (r0 <(↑(16:Nat):Int)) (fP ((D2 c206 16 T1)[r0.toNat*(1:Nat)+0]?=some (AV.sl (List.map c206 (T1 r0.toNat)))) (by((try simp only [Nat.mul_one,Nat.add_zero,Nat.zero_add]);with_reducible refine D6 ?_;omega)) (fA (0≤r0) (fO (r0 <(↑(16:Nat):Int)) (fP ((D2 c206 16 U2)[r0.toNat*(1:Nat)+0]?=some (AV.sl (List.map c206 (U2 r0.toNat)))) (by((try simp only [Nat.mul_one,Nat.add_zero,Nat.zero_add]);with_reducible refine D6 ?_;omega)) (fT (B80 (T1 r0.toNat) (U2 r0.toNat) (by rw[eb_at h5 h8 h7];exact A19 ha _) (by subst h4;exact A19 hb _)) (fA (0≤r0) (fO (r0 <(↑(16:Nat):Int)) (fP (r0.toNat*(1:Nat)+0 <(D2 c206 16 T1).length) (by rw[N0];omega) (fR [(D7 (AV.sl (List.map c206 (A5f (T1 r0.toNat) (U2 r0.toNat))))).headD AV.dead] (fP ((D2 c206 16 T1).set (r0.toNat*(1:Nat)+0) ((D7 (AV.sl (List.map c206 (A5f (T1 r0.toNat) (U2 r0.toNat))))).headD AV.dead)=D2 c206 16 (I1 T1 r0.toNat (A5f (T1 r0.toNat) (U2 r0.toNat)))) (by((try simp only [Nat.mul_one,Nat.add_zero,Nat.zero_add]);(with_reducible refine Y3 ?_);exact Eq.refl _)) (oR 7 [.sl (List.map c206 (T1 r0.toNat))] (oR 12 [.sl (List.map c206 (U2 r0.toNat))] (oA 13 (.sl (List.map c206 (A5f (T1 r0.toNat) (U2 r0.toNat)))) (oV 16 { rows:=some [(D2 c206 16 (I1 T1 r0.toNat (A5f (T1 r0.toNat) (U2 r0.toNat))))] } z0)))))))))))))))) ?_
 refine bN<|sn<|rG cx [2,6,7,8,16] [6,12,15] (tW 0 (r0+1) z0)<|sn<|nX ((r0+1,I1 T1 r0.toNat (A5f (T1 r0.toNat) (U2 r0.toNat)),U2)) (show(16-(r0+1)).toNat <(16-r0).toNat from(by omega)) (show Bd8 (A6 [a]) (A6 [b]) (r0+1) (I1 T1 r0.toNat (A5f (T1 r0.toNat) (U2 r0.toNat))) U2 from(by subst h4;exact⟨rfl,by omega,by omega,Bd9 h5 h8 h7⟩))
 refine eX 0<|nE<|nE<|bH<|sn<|sq<|rG cx [6] [6] (fT (B0b (T1) ?g7) (oA 1 (.agg [.sl (List.map c3 (E4 T1).vec),.sl (List.map B1 (E4 T1).cloud)]) z0)) ?_;rotate_left
 refine sn<|rT<|qR (.agg [.sl (List.map c3 (E4 T1).vec),.sl (List.map B1 (E4 T1).cloud)]) (.eq (by rw[eb_end h6 h8 h7];rfl))
 case g7=>revert r0 T1 U2 h4 h5 h6 h7 h8;intro r T U k0 k1 k2 k3 k4 q hq;rw[k3 q hq,if_pos (by omega)];have:=B63 (A6 [a] q) (A6 [b] q);omega
theorem con183(a b:Past)(ha:a.cloud.length*16≤140737488350000)(hb:b.cloud.length*16≤140737488350000):Con Tryz.prog 183 [.agg (c26 a),.agg (c26 b)] (.agg (c26 (X2 a b))) :=
 by
 refine sC A9 [.cell 4 26] 8 Tryz.func183 ?_
 intro e0 cx
 refine sq<|rG cx [2,3,4] [2,3,4] z0<|sn<|sq<|rG cx [4] [4] (fT (B65 (a) (b) (by(with_reducible assumption)) (by(with_reducible assumption))) (oA 2 (.agg [.sl (List.map c3 (X2 a b).vec),.sl (List.map B1 (X2 a b).cloud)]) z0))<|sn<|rT<|qR (.agg [.sl (List.map c3 (X2 a b).vec),.sl (List.map B1 (X2 a b).cloud)]) (.eq ?g0);rotate_left
 case g0=>exact rfl
theorem con178(a b:List Run)(ha:a.length*16≤140737488351232)(hb:b.length*16≤140737488351232):Con Tryz.prog 178 [.sl (a.map c206),.sl (b.map c206)] (.b (decide (((W3 a b).length:Int)=0))) :=
 by
 refine lN 0 c206 (a) Tryz.func178 fun hl_0=>lN 1 c206 (b) Tryz.func178 fun hl_1=>sC A9 [.tmp 4] 10 Tryz.func178 ?_
 intro e0 cx
 refine sq<|rG cx [0,1] [] z0<|sn<|sq<|rG cx [4] [] (fT (B81 (a) (b) (by(with_reducible assumption)) (by(with_reducible assumption))) (tL 3 c206 (W3 a b) (tB 4 ((↑(W3 a b).length:Int)=0) (oA 2 (.sl (List.map c206 (W3 a b))) z0))))<|sn<|rT ?_
 exact A3x (r:=.b (decide ((↑(W3 a b).length:Int)=0))) (obl:=[]) (by kernel_rfl) trivial (B9.refl _)
theorem B26(a b:Past)(ha:a.cloud.length*16≤140737488350000)(hb:b.cloud.length*16≤140737488350000):Con Tryz.prog 117 [.agg (c26 a),.agg (c26 b)] (.b (decide (B5 (A7 a b)=0))) :=
 by
 refine sC A9 [.tmp 4] 39 Tryz.func117 ?_
 intro e0 cx
 refine sq<|rG cx [2,3] [2,3] z0<|sn<|sq<|rA cx [5,6] [10,13] (fT (A7o ([a]) (by exact A2v ha)) (fT (A7o ([b]) (by exact A2v hb)) (oV 2 { val:=some (.ptr ((204:Nat)) (0) (0) (0)),row:=(D2 c206 16 (A6 [a])) } (oV 5 { val:=some (.ptr ((204:Nat)) (0) (0) (0)),row:=(D2 c206 16 (A6 [b])) } z0)))) ?_
 refine sn<|sq<|sq<|rG cx [5,6,14] [10,13] z0<|sn<|bL 0<|sL (X:=Int×(Nat→List Run)×(Nat→List Run)) (fun x=>⟨[(5,.ptr (10) (0) (0) (0)),(6,.ptr (13) (0) (0) (0)),(14,.i .i64 (x.1))],[(10,⟨0,204,.arr (D2 c206 16 x.2.1)⟩),(13,⟨0,204,.arr (D2 c206 16 x.2.2)⟩)]⟩) (fun x ↦ Bb1 x.1 x.2.1 x.2.2) (fun x ↦ Be1 (A6 [a]) (A6 [b]) x.1 x.2.1 x.2.2) [5,6,14] [10,13] (((0:Int),A6 [a],A6 [b])) (show Be1 (A6 [a]) (A6 [b]) (0:Int) (A6 [a]) (A6 [b])from(by exact⟨rfl,rfl,by omega,by omega,fun k hk=>by omega⟩)) ?_
 rintro⟨r0,T1,U2⟩ h_3
 obtain⟨hh4,h5,h6,h7,h8⟩:T1=A6 [a]∧U2=A6 [b]∧0≤r0∧r0≤16∧isWi (A6 [a]) (A6 [b]) r0:=h_3
 refine rE cx [5,6,14,15] [10,13] (zB 0 (r0 <(16:Int))) (fun h9=>?_) fun h9=>?_
 refine sK<|sn<|sq<|bL 1<|sq<|rG cx [5,6,14,7] [10,13] z0<|sn<|sq<|B3 (σ':=⟨[(5,.ptr (10) (0) (0) (0)),(6,.ptr (13) (0) (0) (0)),(14,.i .i64 (r0)),(37,.b (decide ((0:Int) <(↑(T1 r0.toNat).length:Int)∧¬(↑(W3 (T1 r0.toNat) (U2 r0.toNat)).length:Int)=0)))],[(10,⟨0,204,.arr (D2 c206 16 T1)⟩),(13,⟨0,204,.arr (D2 c206 16 U2)⟩)]⟩) ?_ ?_
 refine A5 ((0:Int) <(↑(T1 r0.toNat).length:Int)) (fun h11=>?_) (fun h11=>?_)
 refine rA cx [5,6,14,37] [10,13] (fA (0≤r0) (fO (r0 <(↑(16:Nat):Int)) (fP ((D2 c206 16 T1)[r0.toNat*(1:Nat)+0]?=some (AV.sl (List.map c206 (T1 r0.toNat)))) (by((try simp only [Nat.mul_one,Nat.add_zero,Nat.zero_add]);with_reducible refine D6 ?_;omega)) (tL 5 c206 (T1 r0.toNat) (tT 6 (A4 h11) (fA (0≤r0) (fO (r0 <(↑(16:Nat):Int)) (fP ((D2 c206 16 T1)[r0.toNat*(1:Nat)+0]?=some (AV.sl (List.map c206 (T1 r0.toNat)))) (by((try simp only [Nat.mul_one,Nat.add_zero,Nat.zero_add]);with_reducible refine D6 ?_;omega)) (fA (0≤r0) (fO (r0 <(↑(16:Nat):Int)) (fP ((D2 c206 16 U2)[r0.toNat*(1:Nat)+0]?=some (AV.sl (List.map c206 (U2 r0.toNat)))) (by((try simp only [Nat.mul_one,Nat.add_zero,Nat.zero_add]);with_reducible refine D6 ?_;omega)) (fT (con178 (T1 r0.toNat) (U2 r0.toNat) (by subst hh4;exact A19 ha _) (by subst h5;exact A19 hb _)) (tQ 19 ((↑(W3 (T1 r0.toNat) (U2 r0.toNat)).length:Int)=0) (tD 20 (decide ¬(↑(W3 (T1 r0.toNat) (U2 r0.toNat)).length:Int)=0) ((0:Int) <(↑(T1 r0.toNat).length:Int)∧¬(↑(W3 (T1 r0.toNat) (U2 r0.toNat)).length:Int)=0) (by simp only [eq_true h11,tsl]) (oR 4 [.sl (List.map c206 (T1 r0.toNat))] (oR 12 [.sl (List.map c206 (T1 r0.toNat))] (oR 17 [.sl (List.map c206 (U2 r0.toNat))] (oA 18 (.b (decide ((↑(W3 (T1 r0.toNat) (U2 r0.toNat)).length:Int)=0))) z0)))))))))))))))))) ?_
 exact⟨rfl,by kernel_rfl⟩
 refine rA cx [5,6,14,37] [10,13] (fA (0≤r0) (fO (r0 <(↑(16:Nat):Int)) (fP ((D2 c206 16 T1)[r0.toNat*(1:Nat)+0]?=some (AV.sl (List.map c206 (T1 r0.toNat)))) (by((try simp only [Nat.mul_one,Nat.add_zero,Nat.zero_add]);with_reducible refine D6 ?_;omega)) (tL 5 c206 (T1 r0.toNat) (tT 6 (A0 h11) (tD 20 false ((0:Int) <(↑(T1 r0.toNat).length:Int)∧¬(↑(W3 (T1 r0.toNat) (U2 r0.toNat)).length:Int)=0) (by simp only [eq_false h11,tsl]) (oR 4 [.sl (List.map c206 (T1 r0.toNat))] z0))))))) ?_
 exact⟨rfl,by kernel_rfl⟩
 refine sn<|dC ((0:Int) <(↑(T1 r0.toNat).length:Int)∧¬(↑(W3 (T1 r0.toNat) (U2 r0.toNat)).length:Int)=0) (fun h12=>?_) fun h12=>?_
 refine sq<|rG cx [4] [] z0<|sn<|rT<|bR<|nR<|nR<|bR<|nR<|qR (.b (false)) (.eq ?g5);rotate_left
 refine sK<|bN<|sn<|rG cx [5,6,14] [10,13] (tW 0 (r0+1) z0)<|sn<|nX ((r0+1,T1,U2)) (show(16-(r0+1)).toNat <(16-r0).toNat from(by omega)) (show Be1 (A6 [a]) (A6 [b]) (r0+1) T1 U2 from ?g6);rotate_left
 refine eX 0<|nE<|nE<|bH<|sn<|sq<|rG cx [4] [] z0<|sn<|rT<|qR (.b (true)) (.eq ?g7);rotate_left
 case g5 =>
  subst hh4 h5
  refine congrArg AV.b (decide_eq_false fun k=>h12.2 ?_).symm
  rw[(B25 a b).1 k r0.toNat (by omega)]
  rfl
 case g6 =>
  subst hh4 h5
  refine⟨rfl,rfl,by omega,by omega,fun k hk=>?_⟩
  by_cases e:k=r0.toNat
  ·subst e
   by_cases c:A6 [a] r0.toNat=[]
   ·rw[c,B64]
   ·have hp:=List.length_pos_iff.2 c
    exact List.eq_nil_of_length_eq_zero (by
     have:=Classical.not_not.1 fun q=>h12 ⟨by omega,q⟩
     omega)
  ·exact h8 k (by omega)
 case g7 =>
  refine congrArg AV.b (decide_eq_true ?_).symm
  exact(B25 a b).2 fun k hk=>h8 k (by omega)
end Go.Proofs.YtphcaholhacnpaaGreat
namespace Go.E
def rlo{α:Type}(n:Nat):Result α→Prop
 | .ok _ w=>n≤w.drawn
 | .halt _ w=>n≤w.drawn
def glo(n:Nat):GStep→Prop
 | .go _ w _=>n≤w.drawn
 | .comm _ _ _ _ w _=>n≤w.drawn
 | .spawn _ _ w _=>n≤w.drawn
 | .count _ w _=>n≤w.drawn
 | .timer _ _ w _=>n≤w.drawn
 | .alone _ _ w _=>n≤w.drawn
 | .newcoro _ _ _ w _=>n≤w.drawn
 | .coroswitch _ _ _ w _=>n≤w.drawn
 | .collect _ w _=>n≤w.drawn
 | .watch _ w _=>n≤w.drawn
 | .ended _ _ _=>True
def slo(n:Nat):Stepped→Prop
 | .next m=>n≤m.world.drawn
 | .ended _ _=>True
def mlo(n:Nat):Move→Prop
 | .goroutine m _=>n≤m.world.drawn
 | .machine s _=>slo n s
theorem M1{n k:Nat}(h:n≤k){s:GStep}(hs:glo k s):glo n s:=by
 cases s <;> first | trivial | exact Nat.le_trans h hs
theorem A6p{n k:Nat}(h:n≤k){s:Stepped}(hs:slo k s):slo n s:=by
 cases s <;> first | trivial | exact Nat.le_trans h hs
theorem Ac0{n k:Nat}(h:n≤k){s:Move}(hs:mlo k s):mlo n s:=by
 cases s with
 | goroutine m i=>exact Nat.le_trans h hs
 | machine s ops=>exact A6p h hs
theorem Q7(n:Nat)(es:Array Event)(s:GStep):glo n (GStep.after es s)=glo n s:=by cases s <;> rfl
theorem A8a{α:Type}:∀(x:Ask α) (w:World),w.drawn≤(w.ask x).2.drawn
 | .done a,w=>Nat.le_refl _
 | .ask what range k,w=>by
  unfold World.ask
  simp only
  split
  ·exact A8a (k 0) w
  ·exact Nat.le_trans (Nat.le_succ _) (A8a _ { w with drawn:=w.drawn+1 })
theorem Ap3(w:World)(c:Sys):w.drawn≤(w.sys c).2.drawn:=by
 unfold World.sys
 have h:=A8a (Kernel.perform c w.os) w
 split
 ·exact Nat.le_refl _
 ·rename_i heq
  rw[heq]at h
  exact h
theorem B27{p:Program}{w:World}{a k:Addr}{u:TypeId}{v:Value}{t:Bool}{r:World×List Addr}(h:w.viewStore p a u k v t=.ok r):r.1.drawn=w.drawn:=by
 unfold World.viewStore at h
 simp only [bind,Except.bind,pure,Except.pure,throw,throwThe,MonadExceptOf.throw]at h
 repeat' (split at h)
 all_goals first | (cases h;done) | (cases h;rfl) | (injection h with h;subst h;rfl)
theorem Ap4{p:Program}{w w':World}{a:Addr}{v:Value}{t:Bool}{l:List Addr}(h:w.farStore p a v t=.ok (w',l)):w'.drawn=w.drawn:=by
 unfold World.farStore at h
 split at h
 ·split at h
  ·rename_i r heq
   injection h with h
   subst h
   exact B27 heq
  ·cases h
 ·cases h
theorem A4y(w:World)(a:Addr)(n:Nat):(w.freeze a n).drawn=w.drawn:=by
 unfold World.freeze
 split <;> rfl
theorem Ap5{α:Type}{n k:Nat}(h:n≤k){r:Result α}(hr:rlo k r):rlo n r:=by cases r <;> exact Nat.le_trans h hr
theorem A8b{α:Type}(p:Program)(s:Sem α):∀ w:World,rlo w.drawn (s.run p w):=by
 induction s with
 | pure a=>intro w;exact Nat.le_refl _
 | load m a k ih =>
  intro w
  unfold Sem.run
  split
  ·exact ih _ w
  ·split
   ·exact ih _ w
   ·exact Nat.le_refl _
 | store m a v k ih =>
  intro w
  have far:rlo w.drawn (match w.cell? a with
   | some _=>if w.frozen? a then Result.halt (.unsupported (.unsafePointer "a write to bytes that a string shares")) w else k.run p (w.setCell a v)
   | none=>match w.farStore p a v (m == .atomic)with
    | .ok (w,_)=>k.run p w
    | .error h=>Result.halt h w):=by
   split
   ·split
    ·exact Nat.le_refl _
    ·exact ih (w.setCell a v)
   ·split
    ·rename_i heq
     have:=ih ‹World›
     have e:=Ap4 heq
     rw[e]at this
     exact this
    ·exact Nat.le_refl _
  cases v <;> first | exact far | exact Nat.le_refl _
 | new o k ih=>intro w;exact ih w.heap.size { w with heap:=w.heap.push o }
 | shape r k ih=>intro w;exact ih _ w
 | freeze a n k ih=>intro w;have:=ih (w.freeze a n);rw[A4y]at this;exact this
 | frozen a k ih=>intro w;exact ih _ w
 | getObj r k ih =>
  intro w
  unfold Sem.run
  split
  ·exact Nat.le_refl _
  ·exact ih _ w
  ·exact Nat.le_refl _
 | setObj r o k ih =>
  intro w
  unfold Sem.run
  split
  ·exact Nat.le_refl _
  ·exact ih { w with heap:=w.heap.setIfInBounds r o }
  ·exact Nat.le_refl _
 | choose q k ih =>
  intro w
  unfold Sem.run
  split
  ·exact ih _ w
  ·exact Ap5 (Nat.le_succ _) (ih _ { w with drawn:=w.drawn+1 })
 | sys c k ih=>intro w;exact Ap5 (Ap3 w c) (ih _ (w.sys c).2)
 | program k ih=>intro w;exact ih p w
 | mark m k ih=>intro w;exact ih w
 | halt h=>intro w;exact Nat.le_refl _
theorem L8{α:Type}(p:Program)(s:Sem α):∀(w:World) (es:Array Event),rlo w.drawn (s.runT p w es).1:=by
 induction s with
 | pure a=>intro w es;exact Nat.le_refl _
 | load m a k ih =>
  intro w es
  unfold Sem.runT
  split
  ·exact ih _ w _
  ·split
   ·exact ih _ w _
   ·exact Nat.le_refl _
 | store m a v k ih =>
  intro w es
  have far:rlo w.drawn (match w.cell? a with
   | some _=>if w.frozen? a then((Result.halt (.unsupported (.unsafePointer "a write to bytes that a string shares")) w,es):Result _×Array Event)else k.runT p (w.setCell a v) (es.push (⟨.cell a,true,m == Mode.atomic⟩:Event))
   | none=>match w.farStore p a v (m == Mode.atomic)with
    | .ok (w,touched)=>k.runT p w (es++touched.toArray.map (fun x=>(⟨.cell x,true,m == Mode.atomic⟩:Event)))
    | .error h=>(Result.halt h w,es)).1:=by
   split
   ·split
    ·exact Nat.le_refl _
    ·exact ih (w.setCell a v) _
   ·split
    ·rename_i heq
     have:=ih ‹World› (es++(‹List Addr›).toArray.map (fun x=>(⟨.cell x,true,m == Mode.atomic⟩:Event)))
     have e:=Ap4 heq
     rw[e]at this
     exact this
    ·exact Nat.le_refl _
  cases v <;> first | exact far | exact Nat.le_refl _
 | new o k ih=>intro w es;exact ih w.heap.size { w with heap:=w.heap.push o } es
 | shape r k ih=>intro w es;exact ih _ w es
 | freeze a n k ih=>intro w es;have:=ih (w.freeze a n) es;rw[A4y]at this;exact this
 | frozen a k ih=>intro w es;exact ih _ w es
 | getObj r k ih =>
  intro w es
  unfold Sem.runT
  split
  ·exact Nat.le_refl _
  ·exact ih _ w _
  ·exact Nat.le_refl _
 | setObj r o k ih =>
  intro w es
  unfold Sem.runT
  split
  ·exact Nat.le_refl _
  ·exact ih { w with heap:=w.heap.setIfInBounds r o } _
  ·exact Nat.le_refl _
 | choose q k ih =>
  intro w es
  unfold Sem.runT
  split
  ·exact ih _ w es
  ·exact Ap5 (Nat.le_succ _) (ih _ { w with drawn:=w.drawn+1 } es)
 | sys c k ih=>intro w es;exact Ap5 (Ap3 w c) (ih _ (w.sys c).2 _)
 | program k ih=>intro w es;exact ih p w es
 | mark m k ih=>intro w es;exact ih w _
 | halt h=>intro w es;exact Nat.le_refl _
theorem N7{α:Type}{p:Program}{s:Sem α}{w w':World}{a:α}(h:s.run p w=.ok a w'):w.drawn≤w'.drawn:=by have:=A8b p s w;rw[h]at this;exact this
theorem B66{α:Type}{p:Program}{s:Sem α}{w w':World}{a:Halt}(h:s.run p w=.halt a w'):w.drawn≤w'.drawn:=by have:=A8b p s w;rw[h]at this;exact this
theorem A8c{α:Type}{p:Program}{s:Sem α}{w w':World}{a:α}{es es':Array Event}(h:s.runT p w es=(.ok a w',es')):w.drawn≤w'.drawn:=by have:=L8 p s w es;rw[h]at this;exact this
theorem Ac1{α:Type}{p:Program}{s:Sem α}{w w':World}{a:Halt}{es es':Array Event}(h:s.runT p w es=(.halt a w',es')):w.drawn≤w'.drawn:=by have:=L8 p s w es;rw[h]at this;exact this
theorem W8{α:Type}{p:Program}{s:Sem α}{w w':World}{a:α}{es:Array Event}(h:(s.runT p w es).1=.ok a w'):w.drawn≤w'.drawn:=by have:=L8 p s w es;rw[h]at this;exact this
theorem Av1{α:Type}{p:Program}{s:Sem α}{w w':World}{a:Halt}{es:Array Event}(h:(s.runT p w es).1=.halt a w'):w.drawn≤w'.drawn:=by have:=L8 p s w es;rw[h]at this;exact this
theorem A4z{α:Type}{o:Option α}{n:Nat}{a:GStep}{f:α→GStep}(h:glo n a)(hf:∀ x,glo n (f x)):glo n (o.elim a f):=by cases o <;> first | exact h | exact hf _
theorem A8d{n:Nat}{es:Array Event}{s:GStep}(h:glo n s):glo n (GStep.after es s):=by rw[Q7];exact h
theorem K5(p:Program)(main:Bool)(fr:Frame)(cs:List Frame)(d:Option Dying)(v:Value)(w:World):glo w.drawn (doReturn p main fr cs d v w):=by
 unfold doReturn
 repeat' split
 all_goals first | trivial | exact Nat.le_refl _
theorem B67(fr:Frame)(l:List ByteArray)(m:String)(b:Bool)(w:World):glo w.drawn (dieOf fr l m b w):=Nat.le_refl _
theorem M6(fr:Frame)(m:String)(w:World):glo w.drawn (endThrow fr m w):=Nat.le_refl _
theorem Av2(n:Nat)(w:World)(fd:Nat)(t:ByteArray)(o:Outcome):glo n (endWith w fd t o):=by
 unfold endWith
 simp only
 repeat' split
 all_goals trivial
theorem A0x(p:Program)(fr:Frame)(v:Value)(w:World):glo w.drawn (endPrinting p fr v w):=by
 unfold endPrinting
 simp only
 split
 ·exact M6 _ _ _
 ·trivial
theorem A50(p:Program)(fr:Frame)(cs:List Frame)(d:Option Dying)(m:String)(w:World):glo w.drawn (endFatal p fr cs d m w):=by
 unfold endFatal
 simp only
 split
 ·rename_i h
  exact M1 (N7 h) (B67 _ _ _ _ _)
 ·trivial
 ·trivial
theorem Av3(p:Program)(fr:Frame)(d:Dying)(f:Fatal)(w:World):glo w.drawn (writeOn p fr d f w):=by
 unfold writeOn
 simp only
 split
 ·trivial
 ·split
  ·rename_i h;exact A8c h
  ·rename_i h;exact Ac1 h
  ·trivial
  ·trivial
theorem die_lo(p:Program)(fr:Frame)(d:Dying)(w:World):glo w.drawn (die p fr d w):=by
 unfold die
 split
 ·exact Av3 _ _ _ _ _
 ·split
  ·split
   ·exact Nat.le_refl _
   ·exact Av2 _ _ _ _ _
  ·simp only
   split
   ·exact Nat.le_refl _
   ·split
    ·rename_i h;exact N7 h
    ·trivial
   ·rw[Q7]
    have h:=L8 p (invoke (.fn (.method ‹String›) #[]) #[.iface ‹TypeId› ‹Value›]) w #[]
    split <;> first | trivial | (rename_i k;rw[k]at h;first | exact h | exact M1 h (A0x _ _ _ _))
   ·trivial
theorem A51(p:Program)(fr:Frame)(cs:List Frame)(dy:Option Dying)(d:Deferred)(w:World):glo w.drawn (callDeferred p fr cs dy d w):=by
 unfold callDeferred
 by_cases hc:((match d.target with | .nil=>true | _=>false) && (match fr.mode with | .panicking _=>true | _=>false))=true
 ·exact(congrArg (glo w.drawn) (if_pos hc)).mpr trivial
 ·refine(congrArg (glo w.drawn) (if_neg hc)).mpr ?_
  simp only [Q7]
  have h:=L8 p (invoke d.target d.args) w #[]
  generalize (invoke d.target d.args).runT p w #[]=r at h ⊢
  obtain⟨r,es⟩:=r
  simp only at h ⊢
  cases r with
  | ok a w' =>
   have h:w.drawn≤w'.drawn:=h
   cases a with
   | coroswitch c b=>cases b <;> first | trivial | exact h
   | alone b v=>cases b <;> first | trivial | exact h
   | _=>(try simp only) <;>(repeat' split) <;> first | trivial | exact h
  | halt e w' =>
   have h:w.drawn≤w'.drawn:=h
   cases e <;>(try simp only) <;>(repeat' split) <;> first | trivial | exact h | exact M1 h (A50 _ _ _ _ _ _) | exact M1 h (M6 _ _ _)
theorem B28(p:Program)(main:Bool)(fr:Frame)(cs:List Frame)(d:Option Dying)(w:World):glo w.drawn (unwind p main fr cs d w):=by
 unfold unwind
 split
 ·simp only [Q7]
  split
  ·rename_i h
   have:=L8 p (Instr.takeDeferred ‹Nat›) w #[]
   rw[h]at this
   exact this
  ·trivial
 ·exact A51 _ _ _ _ _ _
 ·split
  ·trivial
  ·split
   ·trivial
   ·split
    ·exact Nat.le_refl _
    ·split
     ·split
      ·exact Nat.le_refl _
      ·split
       ·rename_i h;exact N7 h
       ·trivial
       ·trivial
     ·split
      ·exact A0x _ _ _ _
      ·trivial
  ·split
   ·exact K5 _ _ _ _ _ _ _
   ·simp only [Q7]
    rename_i fn hfn
    have h:=L8 p (results fn fr.tmps) w #[]
    split <;> first | trivial | (rename_i k;rw[k]at h;exact M1 h (K5 _ _ _ _ _ _ _))
theorem B68(p:Program)(fr:Frame)(cs:List Frame)(d:Option Dying)(g:Nat)(w:World):glo w.drawn (early p fr cs d g w):=by
 have nt:∀ w:World,glo w.drawn (match w.heap[g]? with
   | some (.pending c elem)=>GStep.go { frame:=fr,callers:=cs,status:=.running,dying:=d } { w with heap:=w.heap.setIfInBounds g (.cells c elem) }
   | _=>.ended (.stuck "early: the variable does not wait" (fr.pos p)) w):=by
  intro w
  split
  ·exact Nat.le_refl _
  ·trivial
 unfold early
 simp only
 split
 ·exact nt w
 ·split
  ·trivial
  ·split
   ·exact nt w
   ·split
    ·exact nt w
    ·split
     ·trivial
     ·exact Nat.le_refl _
     ·trivial
     ·exact nt w
     ·split
      ·exact Nat.le_refl _
      ·split
       ·exact nt w
       ·split
        ·rename_i h;exact M1 (N7 h) (nt _)
        ·rename_i h;exact N7 h
        ·trivial
theorem W9(p:Program)(listen:Bool)(fr:Frame)(cs:List Frame)(d:Option Dying)(s:Sem Next)(w:World):glo w.drawn (stepG.apply p listen fr cs d s w):=by
 unfold stepG.apply
 simp only [Q7]
 have h:rlo w.drawn (if listen=true then s.runT p w #[]else(s.run p w,#[])).1:=by
  split
  ·exact L8 p s w #[]
  ·exact A8b p s w
 generalize (if listen=true then s.runT p w #[]else(s.run p w,#[]))=r at h ⊢
 obtain⟨r,es⟩:=r
 simp only at h ⊢
 cases r with
 | halt hh w' =>
  cases hh with
  | unsupported u=>cases u <;> first | trivial | exact M1 h (B68 _ _ _ _ _ _)
  | _=>(try simp only) <;> first | trivial | exact h | exact M1 h (A50 _ _ _ _ _ _) | exact M1 h (M6 _ _ _)
 | ok a w' =>
  cases a <;>(try simp only) <;>(repeat' split) <;> first
   | trivial
   | exact h
   | exact M1 h (M6 _ _ _)
theorem Be2(p:Program)(listen:Bool)(fr:Frame)(cs:List Frame)(d:Option Dying)(w:World):glo w.drawn (stepG.oper p listen fr cs d w):=by
 unfold stepG.oper
 split
 ·trivial
 ·split
  ·exact W9 _ _ _ _ _ _ _
  ·exact W9 _ _ _ _ _ _ _
theorem Be3(p:Program)(main listen:Bool)(fr:Frame)(cs:List Frame)(d:Option Dying)(w:World):glo w.drawn (stepG.exec p main listen fr cs d w):=by
 unfold stepG.exec
 simp only [Q7]
 repeat' split
 all_goals first
  | trivial
  | exact Nat.le_refl _
  | exact W9 _ _ _ _ _ _ _
  | exact Be2 _ _ _ _ _ _
  | exact N7 ‹_›
  | exact A8c ‹_›
  | exact Ac1 ‹_›
  | exact M1 (A8c ‹_›) (K5 _ _ _ _ _ _ _)
  | exact M1 (A8c ‹_›) (W9 _ _ _ _ _ _ _)
  | exact W8 ‹_›
  | exact Av1 ‹_›
  | exact M1 (W8 ‹_›) (K5 _ _ _ _ _ _ _)
  | exact A8d (M1 (W8 ‹_›) (K5 _ _ _ _ _ _ _))
  | exact M1 (W8 ‹_›) (W9 _ _ _ _ _ _ _)
  | exact A4z trivial (fun _=>Nat.le_refl _)
  | exact A4z (Nat.le_refl _) (fun _=>Nat.le_refl _)
  | exact A4z trivial (fun _=>W9 _ _ _ _ _ _ _)
  | exact A4z (A8d (M1 (W8 ‹_›) (K5 _ _ _ _ _ _ _))) (fun _=>Nat.le_refl _)
  | exact A4z (M1 (W8 ‹_›) (K5 _ _ _ _ _ _ _)) (fun _=>Nat.le_refl _)
  | exact A8d (M1 (W8 ‹_›) (W9 _ _ _ _ _ _ _))
theorem B69(p:Program)(main:Bool)(g:Goroutine)(w:World)(listen:Bool):glo w.drawn (stepG p main g w listen):=by
 unfold stepG
 simp only
 split
 ·exact die_lo _ _ _ _
 ·exact Be3 _ _ _ _ _ _ _
 ·exact B28 _ _ _ _ _ _
theorem Av4{rest:Rest}{cases:Array CommCase}{w w':World}(h:waitingAt rest cases w=some w'):w'.drawn=w.drawn:=by
 unfold waitingAt at h
 split at h
 ·split at h
  ·injection h with h;subst h;rfl
  ·cases h
 ·injection h with h;subst h;rfl
theorem Be4(p:Program)(rest:Rest)(gs:Array Goroutine)(i:Nat)(g:Goroutine)(cases:Array CommCase)(b:Bool)(shape:CommShape)(w:World):slo w.drawn (communicate p rest gs i g cases b shape w).1:=by
 unfold communicate
 simp only
 split
 ·trivial
 ·split
  ·split
   ·split
    ·rename_i h;have:=Av4 h;exact Nat.le_of_eq this.symm
    ·trivial
   ·exact Nat.le_refl _
  ·split
   ·trivial
   ·rename_i h
    have h1:=N7 h
    split
    ·split <;> first | trivial | (rename_i h2;have h3:=B66 h2;exact Nat.le_trans h1 h3)
    ·exact h1
    ·exact h1
    ·split
     ·exact h1
     ·split <;> first | trivial | (rename_i h2;have h3:=N7 h2;exact Nat.le_trans h1 h3)
    ·exact h1
    ·exact h1
    ·trivial
theorem B29(p:Program)(gs:Array Goroutine)(rest:Rest)(w:World):slo w.drawn (Go.look p gs rest w):=by
 unfold Go.look
 split
 ·simp only
  split
  ·trivial
  ·split
   ·trivial
   ·split <;> first | trivial | (rename_i h2;have h3:=N7 h2;exact h3)
 ·trivial
theorem B6a(w:World)(c:Nat):(drain w c).2.drawn=w.drawn:=by
 unfold drain
 split <;> rfl
theorem Ac2(m:Machine)(k:Nat)(t:Timer)(a b:Nat):(retime m k t a b).2.world.drawn=m.world.drawn:=by
 unfold retime
 simp only
 split
 ·exact B6a _ _
 ·rfl
theorem Ap6{m:Machine}{var:Addr}{f:Nat→Timer→Value×Machine}{v:Value}{m':Machine}{n:Nat}(hf:∀ k t,(f k t).2.world.drawn=n)(h:timerOp.named m var f=.ok (v,m')):m'.world.drawn=n:=by
 unfold timerOp.named at h
 split at h
 ·injection h with h
  have:=hf ‹Nat› (m.rest.timers.getD ‹Nat› default)
  rw[h]at this
  exact this
 ·cases h
theorem B2a{m m':Machine}{var:Addr}(h:timerOp.opened m var=some m'):m'.world.drawn=m.world.drawn:=by
 unfold timerOp.opened at h
 split at h
 ·split at h
  ·injection h with h;subst h;rfl
  ·cases h
 ·injection h with h;subst h;rfl
theorem Av5{m m':Machine}{op:TimerOp}{v:Value}(h:timerOp m op=.ok (v,m')):m'.world.drawn=m.world.drawn:=by
 unfold timerOp at h
 split at h
 ·split at h
  ·injection h with h;injection h with _ h;subst h;rfl
  ·split at h
   ·split at h
    ·cases h
    ·injection h with h;injection h with _ h;subst h;rfl
   ·cases h
 ·exact Ap6 (fun k t=>Ac2 _ _ _ _ _) h
 ·split at h
  ·rename_i h2
   rw[← B2a h2]
   exact Ap6 (fun k t=>Ac2 _ _ _ _ _) h
  ·cases h
 ·injection h with h;injection h with _ h;subst h;rfl
theorem B6b(p:Program)(m:Machine)(k:Nat):slo m.world.drawn (serve p m k):=by
 unfold serve
 split
 ·trivial
 ·exact Nat.le_refl _
 ·simp only
  split
  ·trivial
  ·exact Nat.le_refl _
theorem Be5(p:Program)(m:Machine)(i:Nat)(listen:Bool):slo m.world.drawn (Go.runT p m i listen).1:=by
 unfold Go.runT
 simp only
 have h:=B69 p (i == 0) (m.gs.swapAt! i { (default:Goroutine)with status:=.finished }).1 m.world listen
 generalize stepG p (i == 0) (m.gs.swapAt! i { (default:Goroutine)with status:=.finished }).1 m.world listen=s at h ⊢
 cases s with
 | ended o w=>trivial
 | comm g cases b shape w=>exact A6p h (Be4 _ _ _ _ _ _ _ _ _)
 | go g w=>exact h
 | spawn g c w=>exact h
 | count g w =>
  simp only
  split
  ·trivial
  ·exact h
 | alone g on w=>exact h
 | collect g w=>exact A6p h (B29 _ _ _ _)
 | watch g w=>exact h
 | newcoro g c d w=>exact h
 | coroswitch g c e w =>
  simp only
  split
  ·exact h
  ·split
   ·rename_i k
    have:=M6 g.frame "coroswitch on exited coro" w
    rw[k]at this
    exact Nat.le_trans h this
   ·trivial
  ·trivial
 | timer g op w =>
  simp only
  split
  ·rename_i k
   have:=Av5 k
   exact Nat.le_trans h (Nat.le_of_eq this.symm)
  ·split
   ·rename_i k
    have:=M6 g.frame ‹String› w
    rw[k]at this
    exact Nat.le_trans h this
   ·trivial
  ·trivial
  ·trivial
theorem Ah8 (p : Program) (rs : List Nat) (m : Machine) : mlo m.world.drawn (match (choose (.sched rs.length) : Sem Nat).run p m.world with
      | .halt _ w=>Move.machine (.ended (.stuck "sched" "") w)
      | .ok k world =>
        if rs.length≤1 then .goroutine { m with world } (rs.getD k 0)else
        match (choose (.extern "sched.slice" 65536):Sem Nat).run p world with
        | .halt _ w=>.machine (.ended (.stuck "sched.slice" "") w)
        | .ok n world => .goroutine { m with world, rest := { m.rest with slice := if n = 0 then none else some (rs.getD k 0, n) } } (rs.getD k 0)) := by
  split
  · trivial
  · rename_i h
    have h1:=N7 h
    split
    · exact h1
    · split
      · trivial
      · rename_i h2
        have h3:=N7 h2
        exact Nat.le_trans h1 h3
theorem adv_lo{m:Machine}{t:Nat}{s:Move}(h:mlo (m.advanceTo t).world.drawn s):mlo m.world.drawn s:=h
theorem A8e(p:Program)(m:Machine):mlo m.world.drawn (askOn p m):=by
 unfold askOn
 simp only
 split
 ·trivial
 ·rename_i h
  have h1:=N7 h
  split
  ·exact A6p h1 (B6b p { m with world:=‹World› } _)
  ·split
   ·split
    ·exact h1
    ·split
     ·exact h1
     ·split <;> trivial
   ·split
    ·exact Ac0 h1 (Ah8 p _ { m with world:=‹World› })
    ·split
     ·trivial
     ·rename_i h2
      have h3:=N7 h2
      exact Ac0 (Nat.le_trans h1 h3) (Ah8 p _ { m with world:=‹World› })
     ·rename_i h2
      have h3:=N7 h2
      exact Nat.le_trans h1 h3
     ·rename_i h2
      have h3:=N7 h2
      exact Ac0 (Nat.le_trans h1 h3) (adv_lo (Ah8 p _ _))
theorem B8c(p:Program)(m:Machine):mlo m.world.drawn (ask p m):=by
 unfold ask
 split
 ·split
  ·trivial
  ·rename_i h
   have h1:=N7 h
   have h2:=B29 p m.gs m.rest ‹World›
   split
   ·rename_i k
    rw[k]at h2
    exact Ac0 (Nat.le_trans h1 h2) (A8e _ _)
   ·exact A6p h1 h2
  ·rename_i h
   exact Ac0 (N7 h) (A8e p { m with world:=‹World› })
 ·exact A8e _ _
theorem Be6(p:Program)(m:Machine):mlo m.world.drawn (move p m):=by
 unfold move
 split
 ·split
  ·exact Nat.le_refl _
  ·trivial
 ·split
  ·split
   ·exact Nat.le_refl _
   ·exact B8c p { m with rest:={ m.rest with slice:=none } }
  ·exact B8c _ _
theorem Be7(p:Program)(m:Machine):slo m.world.drawn (step p m):=by
 unfold step stepT
 have h:=Be6 p m
 split
 ·rename_i k;rw[k]at h;exact A6p h (Be5 _ _ _ _)
 ·rename_i k;rw[k]at h;exact h
theorem Ap7{p:Program}{m m':Machine}(h:Steps p m m'):m.world.drawn≤m'.world.drawn:=by
 obtain⟨n,h⟩:=h
 induction n generalizing m with
 | zero=>simp only [runN]at h;injection h with h;subst h;exact Nat.le_refl _
 | succ n ih =>
  simp only [runN]at h
  have h1:=Be7 p m
  split at h
  ·rename_i k;rw[k]at h1;exact Nat.le_trans h1 (ih h)
  ·rename_i k;rw[h]at k;exact absurd rfl (k _)
theorem B6c{P:Program}{f:FuncId}{args:Array Value}{w:World}{R:Ending→World→Prop}(hR:∀ w',¬ R .outgrown w')(h:Calls P f args w R):Calls P f args w fun e w'=>R e w'∧w.drawn≤w'.drawn:=by
 intro cs
 obtain⟨e,w',fr,h1,h2,h3,h4⟩:=h cs
 refine⟨e,w',fr,⟨h1,?_⟩,h2,h3,h4⟩
 cases e with
 | returned v=>exact Ap7 h2
 | panicked c=>exact Ap7 h2
 | outgrown=>exact absurd h1 (hR _)
end Go.E
namespace Go.E
open Go Go.Sort Go.RowKit Go.Lib Go.Shelf Go.Proofs
structure TotC {β:Type} (c:β→β→Int):Prop where
 neg:∀ x y,c x y < 0↔0 < c y x
 tr:∀ x y z,c x y≤0→c y z≤0→c x z≤0
 anti:∀ x y,c x y=0→x=y
theorem TotC.self{β:Type}{c:β→β→Int}(h:TotC c)(x:β):c x x=0:=by
 have:=h.neg x x
 omega
theorem TotC.swo{β:Type}{c:β→β→Int}(h:TotC c):SWO (ltOf c):=by
 refine⟨fun x=>?_,fun x y z h1 h2=>?_,fun x y z h1 h2=>?_⟩
 ·unfold ltOf
  rw[decide_eq_false_iff_not,h.self x]
  omega
 ·unfold ltOf at *
  rw[decide_eq_true_iff]at *
  have h3:=h.tr x y z (by omega) (by omega)
  apply Classical.byContradiction
  intro h4
  have e:=h.anti x z (by omega)
  subst e
  have:=(h.neg x y).1 h1
  omega
 ·unfold ltOf at *
  rw[decide_eq_false_iff_not]at *
  have a1:=h.neg x y
  have a2:=h.neg y z
  have a3:=h.neg x z
  have b1:=h.neg y x
  have b2:=h.neg z y
  have b3:=h.neg z x
  have:=h.tr z y x (by omega) (by omega)
  omega
def B6d{β:Type}(c:β→β→Int)(l:List β):List β:=l.mergeSort (fun x y=>decide (c x y≤0))
def risO{β:Type}(c:β→β→Int)(l:List β):Prop:=l.Pairwise fun x y=>c x y≤0
theorem U7{β:Type}(c:β→β→Int)(l:List β):(B6d c l).Perm l:=List.mergeSort_perm _ _
theorem Ap8{β:Type}{c:β→β→Int}(h:TotC c)(l:List β):risO c (B6d c l):=by
 have:=List.pairwise_mergeSort (le:=fun x y=>decide (c x y≤0)) (fun x y z h1 h2=>by
  rw[decide_eq_true_iff]at *
  exact h.tr x y z h1 h2) (fun x y=>by
  rw[Bool.or_eq_true,decide_eq_true_iff,decide_eq_true_iff]
  have:=h.neg x y
  have:=h.neg y x
  omega) l
 exact this.imp fun h=>of_decide_eq_true h
theorem Be8{β:Type}{c:β→β→Int}(h:TotC c){a b:List β}(hp:a.Perm b)(ha:risO c a)(hb:risO c b):a=b :=
 List.Perm.eq_of_pairwise (le:=fun x y=>c x y≤0) (fun x y _ _ h1 h2=>by
  apply h.anti
  have:=h.neg x y
  have:=h.neg y x
  omega) ha hb hp
theorem Be9{β:Type}{c:β→β→Int}(h:TotC c){a l:List β}(hp:a.Perm l)(ha:risO c a):a=B6d c l:=Be8 h (hp.trans (U7 c l).symm) ha (Ap8 h l)
section
variable {P : Program} {ρ : Ren} {β : Type} {enc : β → List AV} {k : Nat} {S : Nat → Prop} {w : World}
structure Cel (enc:β→List AV) (k:Nat) (S:Nat→Prop) (w:World) where
 el:β
 vs:List Value
 len:vs.length=k
 one:∀ u∈vs,u.oneCell'=true
 rel:∀(j:Nat) (a:AV) (u:Value),(enc el)[j]?=some a→vs[j]?=some u→RelV0 S w a u
theorem cels(hk:∀ x,(enc x).length=k):∀(l:List β) (xs:List Value),xs.length=l.length*k→(∀ u∈xs,u.oneCell'=true) →
  (∀(j:Nat) (a:AV) (u:Value),(l.map enc).flatten[j]?=some a→xs[j]?=some u→RelV0 S w a u) →
  ∃ ds:List (Cel enc k S w),ds.map Cel.el=l∧(ds.map Cel.vs).flatten=xs
 | [],xs,h,_,_=>⟨[],rfl,(List.eq_nil_of_length_eq_zero (by simpa using h)).symm⟩
 | x :: l,xs,h,h1,h2=>by
  rw[List.length_cons,Nat.succ_mul]at h
  obtain⟨ds,e1,e2⟩:=cels hk l (xs.drop k) (by rw[List.length_drop];omega) (fun u hu=>h1 u (List.mem_of_mem_drop hu)) (fun j a u ha hu=>by
   refine h2 (k+j) a u ?_ (by rw[List.getElem?_drop]at hu;exact hu)
   rw[List.map_cons,List.flatten_cons,List.getElem?_append_right (by rw[hk];omega),hk,Nat.add_sub_cancel_left]
   exact ha)
  refine⟨⟨x,xs.take k,by rw[List.length_take];omega,fun u hu=>h1 u (List.mem_of_mem_take hu),fun j a u ha hu=>?_⟩ :: ds,by rw[List.map_cons,e1],by rw[List.map_cons,List.flatten_cons,e2];exact List.take_append_drop k xs⟩
  have hj:j < k:=by
   have:=(List.getElem?_eq_some_iff.1 ha).1
   rwa [hk]at this
  refine h2 j a u ?_ (by rw[List.getElem?_take,if_pos hj]at hu;exact hu)
  rw[List.map_cons,List.flatten_cons,List.getElem?_append_left (by rw[hk];exact hj)]
  exact ha
theorem A8f{W W':World}(hb:Below W.heap.size W W')(hd:W.drawn≤W'.drawn):∃ q os,W'=grow (W.drewN q) os:=by
 refine⟨W'.drawn-W.drawn,W'.heap.extract W.heap.size W'.heap.size,?_⟩
 have hh:W'.heap=W.heap++W'.heap.extract W.heap.size W'.heap.size:=by
  apply Array.ext'
  rw[Array.toList_append,Array.toList_extract]
  apply List.ext_getElem?
  intro i
  by_cases hi:i < W.heap.size
  ·rw[List.getElem?_append_left (by simpa using hi)]
   have:=hb.block i hi
   simpa using this
  ·rw[List.getElem?_append_right (by simpa using hi)]
   simp only [List.extract,Array.length_toList,List.getElem?_take,List.getElem?_drop]
   have hs:=hb.size
   have e2:W.heap.size+(i-W.heap.size)=i:=by omega
   rw[e2]
   split
   ·rfl
   ·rw[List.getElem?_eq_none (by simp;omega)]
 have h1:=hb.os
 have h2:=hb.tape
 have h3:=hb.output
 have h4:W.drawn+(W'.drawn-W.drawn)=W'.drawn:=by omega
 cases W' with
 | mk heap tape drawn os output =>
  simp only [World.drewN,grow]at *
  subst h1 h2 h3
  rw[← hh,h4]
set_option maxHeartbeats 1000000 in
/-- slices.SortFunc at a row of one's own whose cells lead on. -/
theorem Av6 (L:SlLaysF0.n6 P ρ) (hcal:H3 P (ρ.f 6)) (g ty:Nat) (eg:∀ args w,(callFunc g args).run P w=.ok (.enter g args) w)
  (aE:∀ w,(isAgg (ρ.t 24)).run P w=.ok true w) (zE:∀ w,(Go.sizeOf (ρ.t 24)).run P w=.ok k w) (hk:∀ x,(enc x).length=k) (cf:β→β→Int) (hO:TotC cf)
  (hcon:∀ x y:β,Con P g [.agg (enc x),.agg (enc y)] (.i .i64 (cf x y))) (l:List β) (hlen:l.length < 4611686018427387904) :
  A1f P (ρ.f 6) g none false ty k (l.map enc) ((B6d cf l).map enc):=by
 have hsz:∀ m:List β,∀ r∈m.map enc,r.length=k:=fun m r hr=>by obtain⟨x,_,rfl⟩:=List.mem_map.1 hr;exact hk x
 refine⟨hcal,by rw[List.length_map,List.length_map,(U7 cf l).length_eq],hsz _,fun w base v cv S xs hS hb ho hx1 hxr _=>?_⟩
 rw[List.length_map]at ho ⊢
 simp only [Bool.false_eq_true,if_false,Ax0]
 obtain⟨ds,e1,e2⟩:=cels (S:=S) (w:=w) hk l xs ho.1 hx1 hxr
 have hl:ds.length=l.length:=by rw[← e1,List.length_map]
 rcases ho.2 with⟨rfl,h0⟩ | ⟨b,cap,cur,rfl,hb',hh,h1,h2,h3,h4⟩
 ·have:l=[]:=List.eq_nil_of_length_eq_zero h0
  subst this
  refine(AnyF.slices_SortFunc_none (P:=P) (ρ:=ρ) L none 0 _ w).mono ?_
  rintro e' w' ⟨rfl,rfl⟩
  have e0:B6d cf ([]:List β)=[]:=List.eq_nil_of_length_eq_zero (by rw[(U7 cf []).length_eq];rfl)
  rw[e0]
  exact⟨rfl,[],⟨by simp,.inl ⟨rfl,rfl⟩⟩,fun u hu=>by simp at hu,fun j a u ha hu=>by simp at hu,fun j _ _=>rfl,rfl,rfl,rfl,Nat.le_refl _⟩
 ·have hbl:b < w.heap.size:=(Array.getElem?_eq_some_iff.1 hh).1
  by_cases hn:l.length=0
  ·have:l=[]:=List.eq_nil_of_length_eq_zero hn
   subst this
   refine(AnyF.slices_SortFunc_none (P:=P) (ρ:=ρ) L (some ⟨b,0,none⟩) cap _ w).mono ?_
   rintro e' w' ⟨rfl,rfl⟩
   have e0:B6d cf ([]:List β)=[]:=List.eq_nil_of_length_eq_zero (by rw[(U7 cf []).length_eq];rfl)
   rw[e0]
   have hxs:xs=[]:=List.eq_nil_of_length_eq_zero (by simpa using ho.1)
   subst hxs
   exact⟨rfl,[],ho,fun u hu=>by simp at hu,fun j a u ha hu=>by simp at hu,fun j _ _=>rfl,rfl,rfl,rfl,Nat.le_refl _⟩
  ·haveI:Inhabited (Cel enc k S w):=⟨ds[0]'(by omega)⟩
   have hvk:∀ x:Cel enc k S w,x.vs.length=k:=fun x=>x.len
   have hv1:∀ x:Cel enc k S w,∀ v∈x.vs,v.oneCell'=true:=fun x=>x.one
   rw[← e2]at ho
   have hnb:∀ j,S j→j≠b:=fun j hj e=>hb j (by rw[e];rfl) hj
   have hHd:HoldsK Cel.vs k w b 0 ds.toArray:=V8 hvk ho (by simp [hl]) (by simp)
   have hSW:SWO (ltOf fun x y:Cel enc k S w=>cf x.el y.el):=⟨fun x=>hO.swo.irrefl _,fun x y z=>hO.swo.trans _ _ _,fun x y z=>hO.swo.ntrans _ _ _⟩
   have hcmp:CmpLays P g #[] Cel.vs k (fun x y:Cel enc k S w=>cf x.el y.el) b 0 ds.toArray.size w:=by
    intro m os dk hs x y
    have hF:Fam Cel.vs k b 0 w dk (sortWorldK Cel.vs k w b 0 m dk os):=⟨w.drawn+m,os,rfl⟩
    have hf:=hF.facts
    have hkeep:∀ j,S j→(sortWorldK Cel.vs k w b 0 m dk os).heap[j]?=w.heap[j]?:=fun j hj=>hf.2.2.2 j (hS j hj) (hnb j hj)
    have hc:=(hcon x.el y.el).2 (sortWorldK Cel.vs k w b 0 m dk os) S [.agg x.vs.toArray,.agg y.vs.toArray] (fun j hj=>Nat.lt_of_lt_of_le (hS j hj) hF.size) rfl (fun j a u ha hu=>by
     match j with
     | 0 =>
      simp only [List.getElem?_cons_zero,Option.some.injEq]at ha hu
      subst ha hu
      refine RelV0.agg _ _ (by rw[hvk,hk]) (hv1 x) fun j a u ha hu=>(x.rel j a u ha hu).mono (fun _ h=>h) hkeep
     | 1 =>
      simp only [List.getElem?_cons_succ,List.getElem?_cons_zero,Option.some.injEq]at ha hu
      subst ha hu
      refine RelV0.agg _ _ (by rw[hvk,hk]) (hv1 y) fun j a u ha hu=>(y.rel j a u ha hu).mono (fun _ h=>h) hkeep
     | n+2=>simp at ha)
    refine(B6c (fun w' h=>by obtain⟨v,hv,_⟩:=h;cases hv) hc).mono ?_
    rintro e' w' ⟨⟨v,rfl,hr,hbel⟩,hd⟩
    refine⟨?_,A8f hbel hd⟩
    cases hr
    rfl
   have hw:=AnyQ.slices_SortFunc (P:=P) (ρ:=ρ) L k aE zE Cel.vs hvk hv1 (fun x y:Cel enc k S w=>cf x.el y.el) hSW g #[] b 0 cap ds.toArray w eg hcmp hHd hbl (by simpa [hl]using hlen)
   have hsize:ds.toArray.size=l.length:=by simp [hl]
   rw[hsize]at hw
   refine hw.mono ?_
   rintro e' w' ⟨rfl,d',n,os,hper,hsor,hw'⟩
   have hF:Fam Cel.vs k b 0 w d' w':=⟨w.drawn+n,os,by rw[hw'];rfl⟩
   have f:=hF.facts
   obtain⟨hsz',_,hp⟩:=hper
   have e3:d'.extract 0 l.length=d':=by rw[← hsize,← hsz'];exact Array.extract_size
   have e4:ds.toArray.extract 0 l.length=ds.toArray:=by rw[← hsize];exact Array.extract_size
   rw[e3,e4]at hp
   have hpl:d'.toList.Perm ds:=by
    simpa using hp
   have hel:d'.toList.map Cel.el=B6d cf l:=by
    refine Be9 hO ?_ ?_
    ·have:=hpl.map Cel.el
     rwa [e1]at this
    ·unfold risO
     rw[List.pairwise_map,List.pairwise_iff_getElem]
     intro i j hi hj hij
     rw[Array.length_toList]at hi hj
     have:=hsor i j (Nat.zero_le _) hij (by rw[hsz']at hj;simpa [hl]using hj)
     unfold ltOf at this
     rw[decide_eq_false_iff_not,getElem!_pos _ j hj,getElem!_pos _ i hi]at this
     rw[Array.getElem_toList,Array.getElem_toList]
     have this:¬ cf d'[j].el d'[i].el < 0:=this
     have a1:=hO.neg d'[j].el d'[i].el
     have a2:=hO.neg d'[i].el d'[j].el
     omega
   have ow:=hF.owns (d:=ds.toArray) hvk (by rw[hsz']) (by simp) (by simp [hl]) ho
   refine⟨rfl,(d'.toList.map Cel.vs).flatten,ow,fun u hu=>?_,fun j a u ha hu=>?_,fun j hj hjb=>f.2.2.2 j hj (fun e=>hjb (by rw[e];rfl)),f.1,f.2.1,f.2.2.1,hF.size⟩
   ·obtain⟨r,hr,hu⟩:=List.mem_flatten.1 hu
    obtain⟨x,_,rfl⟩:=List.mem_map.1 hr
    exact hv1 x u hu
   ·rw[← hel,List.map_map]at ha
    have hj:=(List.getElem?_eq_some_iff.1 hu).1
    rw[C9 (sz:=k) (fun r hr=>by obtain⟨x,_,rfl⟩:=List.mem_map.1 hr;exact hvk x),List.length_map]at hj
    have k0:0 < k:=Nat.pos_of_ne_zero fun h=>by
     have:d'.toList.length*k=0:=Nat.mul_eq_zero.2 (.inr h)
     omega
    have hq:j % k < k:=Nat.mod_lt _ k0
    have hi:j / k < d'.toList.length:=(Nat.div_lt_iff_lt_mul k0).2 hj
    have ej:j / k*k+j % k=j:=by rw[Nat.mul_comm];exact Nat.div_add_mod j k
    have g1:=F1 (sz:=k) (rows:=d'.toList.map Cel.vs) (fun r hr=>by obtain⟨x,_,rfl⟩:=List.mem_map.1 hr;exact hvk x) (j:=j / k) (q:=j % k) (r:=(d'.toList[j / k]).vs) (by rw[List.getElem?_map,List.getElem?_eq_getElem hi];rfl) hq
    have g2:=F1 (sz:=k) (rows:=d'.toList.map (enc ∘ Cel.el)) (fun r hr=>by obtain⟨x,_,rfl⟩:=List.mem_map.1 hr;exact hk _) (j:=j / k) (q:=j % k) (r:=enc (d'.toList[j / k]).el) (by rw[List.getElem?_map,List.getElem?_eq_getElem hi];rfl) hq
    rw[ej]at g1 g2
    rw[g1]at hu
    rw[g2]at ha
    exact((d'.toList[j / k]).rel _ _ _ ha hu).mono (fun _ h=>h) (fun q hq=>f.2.2.2 q (hS q hq) (hnb q hq))
end
end Go.E
namespace Go.Proofs.YtphcaholhacnpaaGreat
open Go.E
set_option maxRecDepth 100000
set_option maxHeartbeats 4000000
def Av7{α:Type}(p:α→α→Bool):α→List α→List α
 | _,[]=>[]
 | a,b :: l=>if p b a then Av7 p b l else b :: Av7 p b l
def Ah9{α:Type}(p:α→α→Bool):List α→List α
 | []=>[]
 | a :: l=>a :: Av7 p a l
theorem Ap9{α:Type}(p:α→α→Bool)(x:α):∀(t:List α) (a:α),Av7 p a (t++[x])=Av7 p a t++(if p x ((a :: t).getLast (by simp))then[]else[x])
 | [],a=>rfl
 | b :: t,a=>by
  have ih:=Ap9 p x t b
  simp only [List.cons_append,Av7,List.getLast_cons_cons]
  split
  ·exact ih
  ·rw[ih];rfl
theorem A0m{α:Type}[Inhabited α](p:α→α→Bool){l:List α}{j:Nat}(h1:1≤j)(hj:j < l.length):Ah9 p (l.take (j+1))=Ah9 p (l.take j)++(if p l[j]! l[j-1]! then[]else[l[j]!]):=by
 have e:l.take (j+1)=l.take j++[l[j]!]:=by rw[List.take_succ_eq_append_getElem hj,getElem!_pos l j hj]
 rw[e]
 cases hl:l.take j with
 | nil =>
  have:=congrArg List.length hl
  rw[List.length_take,List.length_nil]at this
  omega
 | cons a t =>
  have hlen:(a :: t).length=j:=by rw[← hl,List.length_take];omega
  have hlast:(a :: t).getLast (by simp)=l[j-1]!:=by
   rw[List.getLast_eq_getElem,getElem!_pos l (j-1) (by omega)]
   simp only [← hl,List.getElem_take]
   congr 1
   rw[hl,hlen]
  show a :: Av7 p a (t++[l[j]!])=_
  rw[Ap9,hlast]
  rfl
theorem A2j{α:Type}[Inhabited α](p:α→α→Bool)(l:List α):∀ k:Nat,k≤l.length→(∀ j:Nat,1≤j→j < k→p l[j]! l[j-1]! = false)→Ah9 p (l.take k)=l.take k
 | 0,_,_=>by simp [Ah9]
 | 1,hk,_=>by
  cases l with
  | nil=>simp at hk
  | cons a l=>simp [Ah9,Av7]
 | k+2,hk,h=>by
  rw[A0m p (by omega) (by omega),A2j p l (k+1) (by omega) (fun j h1 h2=>h j h1 (by omega)),h (k+1) (by omega) (by omega)]
  simp only [Bool.false_eq_true,if_false]
  rw[List.take_succ_eq_append_getElem (show k+1 < l.length by omega),getElem!_pos l (k+1) (by omega)]
def eqR(a b:Record):Bool:=decide (F0 a b=0)
def J0(l:List Record):List Record:=Ah9 eqR l
theorem B2b:∀(l:List Record) (a:Record),(a :: l).Pairwise (fun x y=>F0 x y≤0)→(∀ r∈a :: l,r.past=A3 r.past) →
  (∀ y∈Av7 eqR a l,F0 a y < 0)∧upR (Av7 eqR a l)∧∀ y,y∈a :: Av7 eqR a l↔y∈a :: l
 | [],a,_,_=>⟨fun y hy=>(by cases hy),List.Pairwise.nil,fun y=>by simp [Av7]⟩
 | b :: l,a,hp,hn=>by
  have h1:=List.pairwise_cons.1 hp
  have ih:=B2b l b h1.2 (fun r hr=>hn r (List.mem_cons_of_mem _ hr))
  simp only [Av7]
  by_cases e:eqR b a=true
  ·have e':b=a:=An4 (hn b (by simp)) (hn a (by simp)) (by simpa [eqR]using e)
   subst e'
   rw[if_pos e]
   refine⟨ih.1,ih.2.1,fun y=>?_⟩
   rw[ih.2.2 y]
   simp
  ·rw[if_neg e]
   have hab:F0 a b < 0:=by
    have h2:=h1.1 b (by simp)
    have h3:¬ F0 b a=0:=by simpa [eqR]using e
    have:=A4k.neg a b
    omega
   refine⟨fun y hy=>?_,List.pairwise_cons.2 ⟨ih.1,ih.2.1⟩,fun y=>?_⟩
   ·rcases List.mem_cons.1 hy with rfl | hy
    ·exact hab
    ·have:=ih.1 y hy
     exact A4k.lt hab (by omega)
   ·have:=ih.2.2 y
    simp only [List.mem_cons]at this ⊢
    rw[this]
theorem Aq0{l:List Record}(hp:l.Pairwise (fun x y=>F0 x y≤0))(hn:∀ r∈l,r.past=A3 r.past):upR (J0 l)∧∀ y,y∈J0 l↔y∈l:=by
 unfold J0
 cases l with
 | nil=>exact⟨List.Pairwise.nil,fun y=>by simp [Ah9]⟩
 | cons a l =>
  have h:=B2b l a hp hn
  exact⟨List.pairwise_cons.2 ⟨h.1,h.2.1⟩,h.2.2⟩
def Bk3:Type:={r:Record // r.past=A3 r.past}
theorem B6e:(⟨noneS,⟨[],[]⟩⟩:Record).past=A3 (⟨noneS,⟨[],[]⟩⟩:Record).past:=A4h.symm
instance:Inhabited Bk3:=⟨⟨⟨noneS,⟨[],[]⟩⟩,B6e⟩⟩
noncomputable def B2c(r:Record):Bk3:=if h:r.past=A3 r.past then⟨r,h⟩else default
def Bf0(x y:Bk3):Int:=F0 x.1 y.1
def Bf1(x:Bk3):List AV:=c54 x.1
theorem totRB:TotC Bf0:=by
 refine⟨fun x y=>?_,fun x y z h1 h2=>A4k.tr x.1 y.1 z.1 h1 h2,fun x y h=>Subtype.ext (An4 x.2 y.2 h)⟩
 unfold Bf0
 have:=A4k.neg x.1 y.1
 omega
noncomputable def srtB(l:List Record):List Bk3:=B6d Bf0 (l.map B2c)
noncomputable def Ad6(l:List Record):List Record:=(srtB l).map (·.1)
def Z3(l:List Record):Prop:=∀ r∈l,r.past=A3 r.past
theorem Aq1{l:List Record}(h:Z3 l):(l.map B2c).map (·.1)=l:=by
 rw[List.map_map]
 conv=>rhs;rw[← List.map_id l]
 refine List.map_congr_left fun r hr=>?_
 have e:B2c r=⟨r,h r hr⟩:=by unfold B2c;exact dif_pos (h r hr)
 show(B2c r).1=r
 rw[e]
theorem B2d{l:List Record}(h:Z3 l):(Ad6 l).Perm l:=by
 have:=(U7 Bf0 (l.map B2c)).map (·.1)
 rw[Aq1 h]at this
 exact this
theorem A52(l:List Record):Z3 (Ad6 l):=by
 intro r hr
 obtain⟨x,_,rfl⟩:=List.mem_map.1 hr
 exact x.2
theorem A6q(l:List Record):(Ad6 l).Pairwise (fun x y=>F0 x y≤0):=by
 have:=Ap8 totRB (l.map B2c)
 unfold Ad6 srtB
 rw[List.pairwise_map]
 exact this
noncomputable def Bf2(l:List Record):List Record:=J0 (Ad6 l)
theorem Bf3(l:List Record):upR (Bf2 l):=(Aq0 (A6q l) (A52 l)).1
theorem Aq2{l:List Record}(h:Z3 l)(r:Record):r∈Bf2 l↔r∈l:=by
 unfold Bf2
 rw[(Aq0 (A6q l) (A52 l)).2 r]
 exact(B2d h).mem_iff
theorem B2e{l:List Record}(h:Z3 l):Z3 (Bf2 l):=fun r hr=>h r ((Aq2 h r).1 hr)
theorem B6f{a l:List Record}(h:Z3 l)(ha:upR a)(hm:∀ r,r∈a↔r∈l):a=Bf2 l :=
 A6h ha (Bf3 l) (fun r hr=>h r ((hm r).1 hr)) (B2e h) (fun r=>by rw[hm r,Aq2 h r])
theorem Aq3{l:List Record}(h:Z3 l):B3k l:=fun r hr=>by have:=W5 (h r hr);unfold szR;omega
def clnR(r:Record):Record:=⟨r.sku,A3 r.past⟩
noncomputable def lsR(rs:List Record):List Record:=(rs.filter fun r=>decide (¬ B5 r.past=0)).map clnR
def Ac3(r:Record):Bool:=decide (r.sku=noneS) || K0 r.sku
noncomputable def H1(rs:List Record):List Record×Int:=if rs.all Ac3=true then(Bf2 (lsR rs),0)else([],5)
theorem B6g(rs:List Record):Z3 (lsR rs):=by
 intro r hr
 obtain⟨x,_,rfl⟩:=List.mem_map.1 hr
 exact(B0j x.past).symm
theorem B6h{rs:List Record}(h:∀ r∈rs,ckR r=0):lsR rs=rs:=by
 unfold lsR
 have e:rs.filter (fun r=>decide (¬ B5 r.past=0))=rs:=List.filter_eq_self.2 fun r hr=>by
  rw[decide_eq_true_iff];exact(Au1.1 (h r hr)).2.2
 rw[e]
 conv=>rhs;rw[← List.map_id rs]
 refine List.map_congr_left fun r hr=>?_
 unfold clnR
 rw[←(Au1.1 (h r hr)).2.1]
 rfl
theorem B6i{rs:List Record}(h:∀ r∈rs,ckR r=0):rs.all Ac3=true:=by
 rw[List.all_eq_true]
 intro r hr
 unfold Ac3
 rw[Bool.or_eq_true,decide_eq_true_iff]
 exact(Au1.1 (h r hr)).1
theorem A2k{a:List Record}(h:G0 a=0):Z3 a:=fun r hr=>(Au1.1 (((A0h a).1 h).1 r hr)).2.1
end Go.Proofs.YtphcaholhacnpaaGreat
namespace Go.Proofs.YtphcaholhacnpaaGreat
open Go.E
set_option maxRecDepth 100000
set_option maxHeartbeats 4000000
theorem B2f{e:Entry}:A0s e=0↔N1 e.dot=true∧K0 e.sku=true∧1≤e.qty∧e.qty≤1000000:=by
 unfold A0s N1
 rw[decide_eq_true_iff]
 by_cases a:e.dot.rep < 0∨16≤e.dot.rep
 ·rw[if_pos a];omega
 ·rw[if_neg a]
  by_cases b:e.dot.num < 1∨1000000000 < e.dot.num
  ·rw[if_pos b];omega
  ·rw[if_neg b]
   cases c:K0 e.sku with
   | false=>simp
   | true =>
    rw[if_neg (by simp)]
    by_cases d:e.qty < 1∨1000000 < e.qty
    ·rw[if_pos d]
     exact⟨fun h=>by omega,fun h=>by have:=h.2.2.1;have:=h.2.2.2;omega⟩
    ·rw[if_neg d]
     exact⟨fun _=>⟨by omega,rfl,by omega,by omega⟩,fun _=>rfl⟩
theorem rec_lt{r s:Record}:F0 r s < 0↔sLt r.sku s.sku=true∨r.sku=s.sku∧A37 r.past s.past < 0:=by
 unfold F0
 by_cases e:Y8 r.sku s.sku=0
 ·rw[if_neg (by simpa using e)]
  have e2:=A0g.1 e
  constructor
  ·exact fun h=>.inr ⟨e2,h⟩
  ·rintro(h | h)
   ·rw[e2]at h;exact absurd h (Y7 _)
   ·exact h.2
 ·rw[if_pos e,M5]
  by_cases a:sLt r.sku s.sku=true
  ·rw[if_pos a];exact⟨fun _=>.inl a,fun _=>by omega⟩
  ·rw[if_neg a]
   constructor
   ·intro h
    split at h <;> omega
   ·rintro(h | h)
    ·exact absurd h a
    ·exact absurd (A0g.2 h.1) e
theorem B8d(f:Facts):∃ b:Bool,b=decide (E5 f.adds=0∧f.gone=A3 f.gone∧G0 f.recs=0):=⟨_,rfl⟩
noncomputable def okF(f:Facts):Bool:=Classical.choose (B8d f)
theorem B8e(f:Facts):okF f=decide (E5 f.adds=0∧f.gone=A3 f.gone∧G0 f.recs=0):=Classical.choose_spec (B8d f)
def szF(f:Facts):Prop:=szP f.gone∧szQ f.recs
theorem Ac4(e:Entry):Con Tryz.prog 148 [.agg (c46 e)] (.b (decide (A0s e=0))) :=
 by
 refine sC A9 [.tmp 2] 21 Tryz.func148 ?_
 intro e0 cx
 refine sq<|rG cx [1] [1] z0<|sn<|sq<|B3 (σ':=⟨[(2,.b (decide (N1 e.dot=true∧K0 e.sku=true∧1≤e.qty∧e.qty≤1000000)))],[]⟩) ?_ ?_
 refine A5 (N1 e.dot=true) (fun h_1=>?_) (fun h_1=>?_)
 refine A5 (K0 e.sku=true) (fun h_2=>?_) (fun h_2=>?_)
 refine A5 (1≤e.qty) (fun h_3=>?_) (fun h_3=>?_)
 refine rg (A:=_∧_∧_∧_∧_∧(AV.b (decide (e.qty≤1000000))=AV.b (decide (e.qty≤1000000)))∧(AV.b (decide (e.qty≤1000000))=AV.b (decide (N1 e.dot=true∧K0 e.sku=true∧1≤e.qty∧e.qty≤1000000)))) cx [(2,{ val:=some (.b (N1 e.dot)),tell:=some (.b (true)) }),(6,{ val:=some (.b (K0 e.sku)),tell:=some (.b (true)) }),(11,{ tell:=some (.b (true)) }),(16,{ tell:=some (.b (decide (e.qty≤1000000))) }),(18,{ tell:=some (.b (decide (N1 e.dot=true∧K0 e.sku=true∧1≤e.qty∧e.qty≤1000000))) })] [2] [] ⟨(L4 h_1),(B1l (e.dot)),(L4 h_2),(A6g (e.sku)),(A4 h_3),(by kernel_rfl),(by simp only [eq_true h_1,eq_true h_2,eq_true h_3,tsl])⟩ ?_
 exact⟨rfl,by kernel_rfl⟩
 refine rg (A:=_∧_∧_∧_∧_∧(AV.b false=AV.b (decide (N1 e.dot=true∧K0 e.sku=true∧1≤e.qty∧e.qty≤1000000)))) cx [(2,{ val:=some (.b (N1 e.dot)),tell:=some (.b (true)) }),(6,{ val:=some (.b (K0 e.sku)),tell:=some (.b (true)) }),(11,{ tell:=some (.b (false)) }),(18,{ tell:=some (.b (decide (N1 e.dot=true∧K0 e.sku=true∧1≤e.qty∧e.qty≤1000000))) })] [2] [] ⟨(L4 h_1),(B1l (e.dot)),(L4 h_2),(A6g (e.sku)),(A0 h_3),(by simp only [eq_true h_1,eq_true h_2,eq_false h_3,tsl])⟩ ?_
 exact⟨rfl,by kernel_rfl⟩
 refine rg (A:=_∧_∧_∧_∧(AV.b false=AV.b (decide (N1 e.dot=true∧K0 e.sku=true∧1≤e.qty∧e.qty≤1000000)))) cx [(2,{ val:=some (.b (N1 e.dot)),tell:=some (.b (true)) }),(6,{ val:=some (.b (K0 e.sku)),tell:=some (.b (false)) }),(18,{ tell:=some (.b (decide (N1 e.dot=true∧K0 e.sku=true∧1≤e.qty∧e.qty≤1000000))) })] [2] [] ⟨(L4 h_1),(B1l (e.dot)),(M9 h_2),(A6g (e.sku)),(by simp only [eq_true h_1,eq_false h_2,tsl])⟩ ?_
 exact⟨rfl,by kernel_rfl⟩
 refine rg (A:=_∧_∧(AV.b false=AV.b (decide (N1 e.dot=true∧K0 e.sku=true∧1≤e.qty∧e.qty≤1000000)))) cx [(2,{ val:=some (.b (N1 e.dot)),tell:=some (.b (false)) }),(18,{ tell:=some (.b (decide (N1 e.dot=true∧K0 e.sku=true∧1≤e.qty∧e.qty≤1000000))) })] [2] [] ⟨(M9 h_1),(B1l (e.dot)),(by simp only [eq_false h_1,tsl])⟩ ?_
 exact⟨rfl,by kernel_rfl⟩
 refine sn<|rT<|qR (.b (decide (N1 e.dot=true∧K0 e.sku=true∧1≤e.qty∧e.qty≤1000000))) (.eq ?g0);rotate_left
 case g0=>rw[decide_eq_decide.2 B2f]
theorem con149(a b:Dot):Con Tryz.prog 149 [.agg (c44 a),.agg (c44 b)] (.b (dLt a b)) :=
 by
 refine sC A9 [.tmp 4] 24 Tryz.func149 ?_
 intro e0 cx
 refine sq<|rG cx [2,3] [2,3] z0<|sn<|sq<|B3 (σ':=⟨[(4,.b (decide (a.rep < b.rep∨a.rep=b.rep∧a.num < b.num)))],[]⟩) ?_ ?_
 refine A5 (a.rep < b.rep) (fun h_1=>?_) (fun h_1=>?_)
 refine rG cx [4] [] (tT 4 (A4 h_1) (tD 19 true (a.rep < b.rep∨a.rep=b.rep∧a.num < b.num) (by simp only [eq_true h_1,tsl]) z0)) ?_
 exact⟨rfl,by kernel_rfl⟩
 refine A5 (a.rep=b.rep) (fun h_2=>?_) (fun h_2=>?_)
 refine rG cx [4] [] (tT 4 (A0 h_1) (tT 10 (A4 h_2) (tB 16 (a.num < b.num) (tD 19 (decide (a.num < b.num)) (a.rep < b.rep∨a.rep=b.rep∧a.num < b.num) (by simp only [eq_false h_1,eq_true h_2,tsl]) z0)))) ?_
 exact⟨rfl,by kernel_rfl⟩
 refine rG cx [4] [] (tT 4 (A0 h_1) (tT 10 (A0 h_2) (tD 19 false (a.rep < b.rep∨a.rep=b.rep∧a.num < b.num) (by simp only [eq_false h_1,eq_false h_2,tsl]) z0))) ?_
 exact⟨rfl,by kernel_rfl⟩
 refine sn<|rT<|qR (.b (decide (a.rep < b.rep∨a.rep=b.rep∧a.num < b.num))) (.eq ?g0);rotate_left
 case g0=>exact rfl
theorem Ac5(es:List Entry):Con Tryz.prog 73 [.sl (es.map c46)] (.b (decide (E5 es=0))) :=
 by
 have e:∀ {i:Int},0≤i→(i-1).toNat=i.toNat-1:=fun {i} h=>by omega
 refine lN 0 c46 (es) Tryz.func73 fun hl_0=>sC A9 [.tmp 2] 35 Tryz.func73 ?_
 intro e0 cx
 refine sq<|rG cx [0] [] z0<|sn<|sq<|sq<|rG cx [0,3] [] z0<|sn<|bL 0<|sL (X:=Int) (fun x=>⟨[(0,.sl (List.map c46 es)),(3,.i .i64 (x))],[]⟩) (fun x ↦ decL es x) (fun x ↦ Ba2 es x) [0,3] [] ((0:Int)) (show Ba2 es (0:Int)from(by exact⟨by omega,by omega,fun j hj=>by omega⟩)) ?_
 intro i0 h_1
 obtain⟨hh2,hh3,hh4⟩:0≤i0∧i0≤(↑es.length:Int)∧∀(j:Nat),(↑j:Int) < i0→Aw5 es j=true:=h_1
 refine sq<|rD cx [0,3,7] [] (tL 2 c46 es (zB 3 (i0 <(↑es.length:Int)))) (fun hh5=>?_) fun hh5=>?_
 refine sK<|sn<|sq<|bL 1<|sq<|B3 (σ':=⟨[(0,.sl (List.map c46 es)),(3,.i .i64 (i0)),(34,.b (decide (¬A0s es[i0.toNat]! =(0:Int)∨(0:Int) < i0∧¬dLt es[(i0-1).toNat]!.dot es[i0.toNat]!.dot=true)))],[]⟩) ?_ ?_
 refine A5 (¬A0s es[i0.toNat]! =(0:Int)) (fun h_7=>?_) (fun h_7=>?_)
 refine ra (A:=(0≤i0)∧((List.map c46 es)[i0.toNat]?=some (c46 es[i0.toNat]!))∧((c46 es[i0.toNat]!).length=(4:Nat))∧((4:Nat)≤[AV.i .i64 es[i0.toNat]!.dot.rep,AV.i .i64 es[i0.toNat]!.dot.num,AV.s es[i0.toNat]!.sku,AV.i .i64 es[i0.toNat]!.qty].length)∧_∧_∧(AV.b true=AV.b (decide (¬A0s es[i0.toNat]! =(0:Int)∨(0:Int) < i0∧¬dLt es[(i0-1).toNat]!.dot es[i0.toNat]!.dot=true)))) cx [(2,{ row:=(c46 es[i0.toNat]!) }),(4,{ val:=some (.b (decide (A0s es[i0.toNat]! =(0:Int)))),tell:=some (.b (false)) }),(24,{ tell:=some (.b (decide (¬A0s es[i0.toNat]! =(0:Int)∨(0:Int) < i0∧¬dLt es[(i0-1).toNat]!.dot es[i0.toNat]!.dot=true))) })] [0,3,34] [] ⟨(by(with_reducible assumption)),(by(with_reducible refine H0 ?_;omega)),(by kernel_rfl),(by(simp only [List.length_append,List.length_cons,List.length_nil];omega)),(A0 h_7),(Ac4 (es[i0.toNat]!)),(by simp only [eq_false h_7,tsl])⟩ ?_
 exact⟨rfl,by kernel_rfl⟩
 refine A5 ((0:Int) < i0) (fun h_8=>?_) (fun h_8=>?_)
 refine rA cx [0,3,34] [] (fA (0≤i0) (fG c46 es i0.toNat (fR 4 (fN 4 4 (fT (Ac4 (es[i0.toNat]!)) (tQ 5 (A0s es[i0.toNat]! =(0:Int)) (tT 6 (A0 h_7) (tT 8 (A4 h_8) (tW 12 (i0-1) (fO (0≤i0-1) (fG c46 es ((i0-1).toNat) (fR 4 (fN 2 4 (fA (0≤i0) (fG c46 es i0.toNat (fR 4 (fN 2 4 (fT (con149 (es[(i0-1).toNat]!.dot) (es[i0.toNat]!.dot)) (tT 22 (E2:(AV.b !dLt es[(i0-1).toNat]!.dot es[i0.toNat]!.dot)=AV.b (decide ¬dLt es[(i0-1).toNat]!.dot es[i0.toNat]!.dot=true)) (tT 24 (by first | (simp only [eq_false h_7,eq_true h_8,tsl];done) | simp_all:AV.b (decide ¬dLt es[(i0-1).toNat]!.dot es[i0.toNat]!.dot=true)=AV.b (decide (¬A0s es[i0.toNat]! =(0:Int)∨(0:Int) < i0∧¬dLt es[(i0-1).toNat]!.dot es[i0.toNat]!.dot=true))) (oR 2 (c46 es[i0.toNat]!) (oA 4 (B9f (Ac4 (es[i0.toNat]!))) (oR 13 (c46 es[(i0-1).toNat]!) (oR 18 (c46 es[i0.toNat]!) (oA 21 (.b (dLt es[(i0-1).toNat]!.dot es[i0.toNat]!.dot)) z0))))))))))))))))))))))))) ?_
 exact⟨rfl,by kernel_rfl⟩
 refine rA cx [0,3,34] [] (fA (0≤i0) (fG c46 es i0.toNat (fR 4 (fN 4 4 (fT (Ac4 (es[i0.toNat]!)) (tQ 5 (A0s es[i0.toNat]! =(0:Int)) (tT 6 (A0 h_7) (tT 8 (A0 h_8) (tT 24 (by first | (simp only [eq_false h_7,eq_false h_8,tsl];done) | simp_all:AV.b false=AV.b (decide (¬A0s es[i0.toNat]! =(0:Int)∨(0:Int) < i0∧¬dLt es[(i0-1).toNat]!.dot es[i0.toNat]!.dot=true))) (oR 2 (c46 es[i0.toNat]!) (oA 4 (B9f (Ac4 (es[i0.toNat]!))) z0))))))))))) ?_
 exact⟨rfl,by kernel_rfl⟩
 refine sn<|dC (¬A0s es[i0.toNat]! =(0:Int)∨(0:Int) < i0∧¬dLt es[(i0-1).toNat]!.dot es[i0.toNat]!.dot=true) (fun h9=>?_) fun h9=>?_
 refine sq<|rG cx [2] [] z0<|sn<|rT<|bR<|nR<|nR<|bR<|nR<|qR (.b (false)) (.eq ?g1);rotate_left
 refine sK<|bN<|sn<|rG cx [0,3] [] (tW 1 (i0+1) z0)<|sn<|nX (i0+1) (show((↑es.length:Int)-(i0+1)).toNat <((↑es.length:Int)-i0).toNat from(by omega)) (show Ba2 es (i0+1)from ?g2);rotate_left
 refine eX 0<|nE<|nE<|bH<|sn<|sq<|rG cx [2] [] z0<|sn<|rT<|qR (.b (true)) (.eq (by rw[B1b fun j hj=>hh4 j (by omega)];rfl))
 case g1 =>
  revert i0 hh2 hh3 hh4 hh5 h9
  intro i h0 h1 h2 h3 h4
  rw[An5 (i:=i.toNat) (by omega) (An6 _)]
  ·rfl
  rw[e h0]at h4
  rw[A0i];rintro⟨a,b⟩
  rcases h4 with h4 | ⟨h4,h5⟩
  ·exact h4 a
  ·rcases b with b | b
   ·omega
   ·exact h5 b
 case g2 =>
  rw[e hh2]at h9
  refine Aa4 hh2 hh5 hh4 ((A0i _ _).2 ⟨Classical.byContradiction fun a=>h9 (.inl a),?_⟩)
  by_cases c:i0.toNat=0
  ·exact .inl c
  ·exact .inr (Classical.byContradiction fun a=>h9 (.inr ⟨by omega,a⟩))
theorem con184(r:Record)(hb:szP r.past):Con Tryz.prog 184 [.agg (c54 r)] (.b (decide (ckR r=0))) :=
 by
 refine sC A9 [.tmp 2] 22 Tryz.func184 ?_
 intro e0 cx
 refine sq<|rG cx [1] [1] z0<|sn<|sq<|B3 (σ':=⟨[(2,.b (decide (r.sku={ data:=#[]:ByteArray }∧r.past=A3 r.past∧¬B5 r.past=0∨¬r.sku={ data:=#[]:ByteArray }∧K0 r.sku=true∧r.past=A3 r.past∧¬B5 r.past=0)))],[]⟩) ?_ ?_
 refine A5 (r.sku={ data:=#[]:ByteArray }) (fun h1=>?_) (fun h1=>?_)
 refine A5 (r.past=A3 r.past) (fun h2=>?_) (fun h2=>?_)
 refine rg (A:=(AV.b (r.sku.toList == { data:=#[]:ByteArray }.toList)=AV.b true)∧_∧_∧_∧((AV.b !decide (B5 r.past=0))=AV.b (decide ¬B5 r.past=0))∧(AV.b (decide ¬B5 r.past=0)=AV.b (decide (r.sku={ data:=#[]:ByteArray }∧r.past=A3 r.past∧¬B5 r.past=0∨¬r.sku={ data:=#[]:ByteArray }∧K0 r.sku=true∧r.past=A3 r.past∧¬B5 r.past=0)))) cx [(2,{ tell:=some (.b (true)) }),(11,{ val:=some (.b (decide (r.past=A3 r.past))),tell:=some (.b (true)) }),(16,{ val:=some (.b (decide (B5 r.past=0))) }),(17,{ tell:=some (.b (decide ¬B5 r.past=0)) }),(19,{ tell:=some (.b (decide (r.sku={ data:=#[]:ByteArray }∧r.past=A3 r.past∧¬B5 r.past=0∨¬r.sku={ data:=#[]:ByteArray }∧K0 r.sku=true∧r.past=A3 r.past∧¬B5 r.past=0))) })] [2] [] ⟨(I5 h1),(A4 h2),(A2i (r.past) ?g0 ?g1),(Bd4 (r.past) ?g2),(X9),(by simp only [eq_true h1,eq_true h2,tsl])⟩ ?_;rotate_left 3
 exact⟨rfl,by kernel_rfl⟩
 refine rg (A:=(AV.b (r.sku.toList == { data:=#[]:ByteArray }.toList)=AV.b true)∧_∧_∧(AV.b false=AV.b (decide (r.sku={ data:=#[]:ByteArray }∧r.past=A3 r.past∧¬B5 r.past=0∨¬r.sku={ data:=#[]:ByteArray }∧K0 r.sku=true∧r.past=A3 r.past∧¬B5 r.past=0)))) cx [(2,{ tell:=some (.b (true)) }),(11,{ val:=some (.b (decide (r.past=A3 r.past))),tell:=some (.b (false)) }),(19,{ tell:=some (.b (decide (r.sku={ data:=#[]:ByteArray }∧r.past=A3 r.past∧¬B5 r.past=0∨¬r.sku={ data:=#[]:ByteArray }∧K0 r.sku=true∧r.past=A3 r.past∧¬B5 r.past=0))) })] [2] [] ⟨(I5 h1),(A0 h2),(A2i (r.past) ?g3 ?g4),(by simp only [eq_true h1,eq_false h2,tsl])⟩ ?_;rotate_left 2
 exact⟨rfl,by kernel_rfl⟩
 refine A5 (K0 r.sku=true) (fun h3=>?_) (fun h3=>?_)
 refine A5 (r.past=A3 r.past) (fun h4=>?_) (fun h4=>?_)
 refine rg (A:=(AV.b (r.sku.toList == { data:=#[]:ByteArray }.toList)=AV.b false)∧_∧_∧_∧_∧_∧((AV.b !decide (B5 r.past=0))=AV.b (decide ¬B5 r.past=0))∧(AV.b (decide ¬B5 r.past=0)=AV.b (decide (r.sku={ data:=#[]:ByteArray }∧r.past=A3 r.past∧¬B5 r.past=0∨¬r.sku={ data:=#[]:ByteArray }∧K0 r.sku=true∧r.past=A3 r.past∧¬B5 r.past=0)))) cx [(2,{ tell:=some (.b (false)) }),(6,{ val:=some (.b (K0 r.sku)),tell:=some (.b (true)) }),(11,{ val:=some (.b (decide (r.past=A3 r.past))),tell:=some (.b (true)) }),(16,{ val:=some (.b (decide (B5 r.past=0))) }),(17,{ tell:=some (.b (decide ¬B5 r.past=0)) }),(19,{ tell:=some (.b (decide (r.sku={ data:=#[]:ByteArray }∧r.past=A3 r.past∧¬B5 r.past=0∨¬r.sku={ data:=#[]:ByteArray }∧K0 r.sku=true∧r.past=A3 r.past∧¬B5 r.past=0))) })] [2] [] ⟨(G4 h1),(L4 h3),(A6g (r.sku)),(A4 h4),(A2i (r.past) ?g5 ?g6),(Bd4 (r.past) ?g7),(X9),(by simp only [eq_false h1,eq_true h3,eq_true h4,tsl])⟩ ?_;rotate_left 3
 exact⟨rfl,by kernel_rfl⟩
 refine rg (A:=(AV.b (r.sku.toList == { data:=#[]:ByteArray }.toList)=AV.b false)∧_∧_∧_∧_∧(AV.b false=AV.b (decide (r.sku={ data:=#[]:ByteArray }∧r.past=A3 r.past∧¬B5 r.past=0∨¬r.sku={ data:=#[]:ByteArray }∧K0 r.sku=true∧r.past=A3 r.past∧¬B5 r.past=0)))) cx [(2,{ tell:=some (.b (false)) }),(6,{ val:=some (.b (K0 r.sku)),tell:=some (.b (true)) }),(11,{ val:=some (.b (decide (r.past=A3 r.past))),tell:=some (.b (false)) }),(19,{ tell:=some (.b (decide (r.sku={ data:=#[]:ByteArray }∧r.past=A3 r.past∧¬B5 r.past=0∨¬r.sku={ data:=#[]:ByteArray }∧K0 r.sku=true∧r.past=A3 r.past∧¬B5 r.past=0))) })] [2] [] ⟨(G4 h1),(L4 h3),(A6g (r.sku)),(A0 h4),(A2i (r.past) ?g8 ?g9),(by simp only [eq_false h1,eq_true h3,eq_false h4,tsl])⟩ ?_;rotate_left 2
 exact⟨rfl,by kernel_rfl⟩
 refine rg (A:=(AV.b (r.sku.toList == { data:=#[]:ByteArray }.toList)=AV.b false)∧(AV.b (K0 r.sku)=AV.b false)∧_∧(AV.b false=AV.b (decide (r.sku={ data:=#[]:ByteArray }∧r.past=A3 r.past∧¬B5 r.past=0∨¬r.sku={ data:=#[]:ByteArray }∧K0 r.sku=true∧r.past=A3 r.past∧¬B5 r.past=0)))) cx [(2,{ tell:=some (.b (false)) }),(6,{ val:=some (.b (K0 r.sku)),tell:=some (.b (false)) }),(19,{ tell:=some (.b (decide (r.sku={ data:=#[]:ByteArray }∧r.past=A3 r.past∧¬B5 r.past=0∨¬r.sku={ data:=#[]:ByteArray }∧K0 r.sku=true∧r.past=A3 r.past∧¬B5 r.past=0))) })] [2] [] ⟨(G4 h1),(M9 h3),(A6g (r.sku)),(by simp only [eq_false h1,eq_false h3,tsl])⟩ ?_
 exact⟨rfl,by kernel_rfl⟩
 refine sn<|rT<|qR (.b (decide (r.sku={ data:=#[]:ByteArray }∧r.past=A3 r.past∧¬B5 r.past=0∨¬r.sku={ data:=#[]:ByteArray }∧K0 r.sku=true∧r.past=A3 r.past∧¬B5 r.past=0))) (.eq ?g10);rotate_left
 revert h1 h2;rotate_left
 revert h1 h2;rotate_left
 revert h1 h2;rotate_left
 revert h1 h2;rotate_left
 revert h1 h2;rotate_left
 revert h1 h3 h4;rotate_left
 revert h1 h3 h4;rotate_left
 revert h1 h3 h4;rotate_left
 revert h1 h3 h4;rotate_left
 revert h1 h3 h4;rotate_left
 rotate_left
 case g10 =>
  refine congrArg AV.b (decide_eq_decide.2 (Iff.trans ?_ Au1.symm))
  show(r.sku=noneS∧_∨¬ r.sku=noneS∧_)↔_
  by_cases c:r.sku=noneS
  ·simp [c]
  ·simp [c]
 all_goals (intros;first | exact hb.1 | exact hb.2)
theorem B8f(rs:List Record)(hb:szQ rs):Con Tryz.prog 120 [.sl (rs.map c54)] (.b (decide (G0 rs=0))) :=
 by
 have e:∀ {i:Int},0≤i→(i-1).toNat=i.toNat-1:=fun {i} h=>by omega
 have L:∀ {r s:Record},(¬(sLt r.sku s.sku=true∨r.sku=s.sku)∨r.sku=s.sku∧0≤A37 r.past s.past)↔¬ F0 r s < 0:=by
  intro r s
  rw[rec_lt]
  constructor
  ·rintro(h | ⟨h1,h2⟩) (k | ⟨k1,k2⟩)
   ·exact h (.inl k)
   ·exact h (.inr k1)
   ·rw[h1]at k;exact Y7 _ k
   ·omega
  ·intro h
   by_cases c:r.sku=s.sku
   ·exact .inr ⟨c,Int.not_lt.1 fun k=>h (.inr ⟨c,k⟩)⟩
   ·exact .inl fun k=>by
     rcases k with k | k
     ·exact h (.inl k)
     ·exact c k
 refine lN 0 c54 (rs) Tryz.func120 fun hl_0=>sC A9 [.tmp 2] 49 Tryz.func120 ?_
 intro e0 cx
 refine sq<|rG cx [0] [] z0<|sn<|sq<|sq<|rG cx [0,3] [] z0<|sn<|bL 0<|sL (X:=Int) (fun x=>⟨[(0,.sl (List.map c54 rs)),(3,.i .i64 (x))],[]⟩) (fun x ↦ decKc rs x) (fun x ↦ Aa3 rs x) [0,3] [] ((0:Int)) (show Aa3 rs (0:Int)from(by exact⟨by omega,by omega,fun j hj=>by omega⟩)) ?_
 intro i0 h_1
 obtain⟨hh2,hh3,hh4⟩:0≤i0∧i0≤(↑rs.length:Int)∧∀(j:Nat),(↑j:Int) < i0→B3j rs j=true:=h_1
 refine sq<|rD cx [0,3,9] [] (tL 2 c54 rs (zB 3 (i0 <(↑rs.length:Int)))) (fun hh5=>?_) fun hh5=>?_
 refine sK<|sn<|sq<|bL 1<|sq<|sq<|rG cx [0,3,17] [] (fA (0≤i0) (fG c54 rs i0.toNat (fR 3 (fN 3 3 (fT (con184 (rs[i0.toNat]!) (by exact A2y hb hh2 hh5)) (tQ 5 (ckR rs[i0.toNat]! =(0:Int)) (oR 2 (c54 rs[i0.toNat]!) (oA 4 (.b (decide (ckR rs[i0.toNat]! =(0:Int)))) z0)))))))) ?_
 refine sn<|dC (¬ckR rs[i0.toNat]! =(0:Int)) (fun hh6=>?_) fun hh6=>?_
 refine sq<|rG cx [2] [] z0<|sn<|rT<|nR<|bR<|nR<|nR<|bR<|nR<|qR (.b (false)) (.eq ?g2);rotate_left
 refine sK<|sn<|rD cx [0,3,19] [] (zB 1 ((0:Int) < i0)) (fun hh7=>?_) fun hh7=>?_
 refine sq<|rA cx [0,3,4,5] [4,5] (tW 2 (i0-1) (fO (0≤i0-1) (fG c54 rs ((i0-1).toNat) (fR 3 (fN 3 3 (fA (0≤i0) (fG c54 rs i0.toNat (fR 3 (fN 3 3 (oR 3 (c54 rs[(i0-1).toNat]!) (oR 7 (c54 rs[i0.toNat]!) z0)))))))))))<|sn<|sq<|B3 (σ':=⟨[(0,.sl (List.map c54 rs)),(3,.i .i64 (i0)),(48,.b (decide (¬(sLt rs[(i0-1).toNat]!.sku rs[i0.toNat]!.sku=true∨rs[(i0-1).toNat]!.sku=rs[i0.toNat]!.sku)∨rs[(i0-1).toNat]!.sku=rs[i0.toNat]!.sku∧0≤A37 rs[(i0-1).toNat]!.past rs[i0.toNat]!.past)))],[]⟩) ?_ ?_
 refine A5 (¬(sLt rs[(i0-1).toNat]!.sku rs[i0.toNat]!.sku=true∨rs[(i0-1).toNat]!.sku=rs[i0.toNat]!.sku)) (fun h9=>?_) (fun h9=>?_)
 refine rG cx [0,3,48] [] (tT 4 (A7c:(AV.b !(Op.bytesLess rs[(i0-1).toNat]!.sku.toList rs[i0.toNat]!.sku.toList || rs[(i0-1).toNat]!.sku.toList == rs[i0.toNat]!.sku.toList))=AV.b (decide ¬(sLt rs[(i0-1).toNat]!.sku rs[i0.toNat]!.sku=true∨rs[(i0-1).toNat]!.sku=rs[i0.toNat]!.sku))) (tT 5 (A4 h9) (tD 19 true (¬(sLt rs[(i0-1).toNat]!.sku rs[i0.toNat]!.sku=true∨rs[(i0-1).toNat]!.sku=rs[i0.toNat]!.sku)∨rs[(i0-1).toNat]!.sku=rs[i0.toNat]!.sku∧0≤A37 rs[(i0-1).toNat]!.past rs[i0.toNat]!.past) (by simp only [eq_false h9,tsl]) z0))) ?_
 exact⟨rfl,by kernel_rfl⟩
 refine A5 (rs[(i0-1).toNat]!.sku=rs[i0.toNat]!.sku) (fun h10=>?_) (fun h10=>?_)
 refine rG cx [0,3,48] [] (tT 4 (A7c:(AV.b !(Op.bytesLess rs[(i0-1).toNat]!.sku.toList rs[i0.toNat]!.sku.toList || rs[(i0-1).toNat]!.sku.toList == rs[i0.toNat]!.sku.toList))=AV.b (decide ¬(sLt rs[(i0-1).toNat]!.sku rs[i0.toNat]!.sku=true∨rs[(i0-1).toNat]!.sku=rs[i0.toNat]!.sku))) (tT 5 (A0 h9) (tT 10 (I5 h10:AV.b (rs[(i0-1).toNat]!.sku.toList == rs[i0.toNat]!.sku.toList)=AV.b true) (fT (con185 (rs[(i0-1).toNat]!.past) (rs[i0.toNat]!.past) (by exact(Bd6 hb hh7 hh5).1) (by exact(A2y hb hh2 hh5).1)) (tB 17 (0≤A37 rs[(i0-1).toNat]!.past rs[i0.toNat]!.past) (tT 19 (by first | (simp only [eq_false h9,eq_true h10,tsl];done) | simp_all:AV.b (decide (0≤A37 rs[(i0-1).toNat]!.past rs[i0.toNat]!.past))=AV.b (decide (¬(sLt rs[(i0-1).toNat]!.sku rs[i0.toNat]!.sku=true∨rs[(i0-1).toNat]!.sku=rs[i0.toNat]!.sku)∨rs[(i0-1).toNat]!.sku=rs[i0.toNat]!.sku∧0≤A37 rs[(i0-1).toNat]!.past rs[i0.toNat]!.past))) (oA 16 (.i .i64 (A37 rs[(i0-1).toNat]!.past rs[i0.toNat]!.past)) z0))))))) ?_
 exact⟨rfl,by kernel_rfl⟩
 refine rG cx [0,3,48] [] (tT 4 (A7c:(AV.b !(Op.bytesLess rs[(i0-1).toNat]!.sku.toList rs[i0.toNat]!.sku.toList || rs[(i0-1).toNat]!.sku.toList == rs[i0.toNat]!.sku.toList))=AV.b (decide ¬(sLt rs[(i0-1).toNat]!.sku rs[i0.toNat]!.sku=true∨rs[(i0-1).toNat]!.sku=rs[i0.toNat]!.sku))) (tT 5 (A0 h9) (tT 10 (G4 h10:AV.b (rs[(i0-1).toNat]!.sku.toList == rs[i0.toNat]!.sku.toList)=AV.b false) (tT 19 (by first | (simp only [eq_false h9,eq_false h10,tsl];done) | simp_all:AV.b false=AV.b (decide (¬(sLt rs[(i0-1).toNat]!.sku rs[i0.toNat]!.sku=true∨rs[(i0-1).toNat]!.sku=rs[i0.toNat]!.sku)∨rs[(i0-1).toNat]!.sku=rs[i0.toNat]!.sku∧0≤A37 rs[(i0-1).toNat]!.past rs[i0.toNat]!.past))) z0)))) ?_
 exact⟨rfl,by kernel_rfl⟩
 refine sn<|dC (¬(sLt rs[(i0-1).toNat]!.sku rs[i0.toNat]!.sku=true∨rs[(i0-1).toNat]!.sku=rs[i0.toNat]!.sku)∨rs[(i0-1).toNat]!.sku=rs[i0.toNat]!.sku∧0≤A37 rs[(i0-1).toNat]!.past rs[i0.toNat]!.past) (fun h11=>?_) fun h11=>?_
 refine sq<|rG cx [2] [] z0<|sn<|rT<|bR<|nR<|nR<|bR<|nR<|qR (.b (false)) (.eq ?g5);rotate_left
 refine sK<|bN<|sn<|rG cx [0,3] [] (tW 1 (i0+1) z0)<|sn<|nX (i0+1) (show((↑rs.length:Int)-(i0+1)).toNat <((↑rs.length:Int)-i0).toNat from(by omega)) (show Aa3 rs (i0+1)from ?g6);rotate_left
 refine sK<|bN<|sn<|rG cx [0,3] [] (tW 1 (i0+1) z0)<|sn<|nX (i0+1) (show((↑rs.length:Int)-(i0+1)).toNat <((↑rs.length:Int)-i0).toNat from(by omega)) (show Aa3 rs (i0+1)from ?g7);rotate_left
 refine eX 0<|nE<|nE<|bH<|sn<|sq<|rG cx [2] [] z0<|sn<|rT<|qR (.b (true)) (.eq (by rw[B18 fun j hj=>hh4 j (by omega)];rfl))
 case g2 =>
  revert i0 hh2 hh3 hh4 hh5 hh6
  intro i h0 h1 h2 h3 h4
  rw[A7x (i:=i.toNat) (by omega)]
  ·rfl
  ·rw[P2]
   exact fun c=>h4 c.1
 case g5 =>
  revert i0 hh2 hh3 hh4 hh5 hh6 hh7 h11
  intro i h0 h1 h2 h3 h4 h5 h6
  rw[A7x (i:=i.toNat) (by omega)]
  ·rfl
  ·rw[L,e h0]at h6
   rw[P2]
   rintro⟨a,b⟩
   rcases b with b | b
   ·omega
   ·exact h6 b
 case g6 =>
  rw[L,e hh2]at h11
  exact A2f hh2 hh5 hh4 ((P2 _ _).2 ⟨Classical.not_not.1 hh6,.inr (Classical.not_not.1 h11)⟩)
 case g7 =>
  exact A2f hh2 hh5 hh4 ((P2 _ _).2 ⟨Classical.not_not.1 hh6,.inl (by omega)⟩)
theorem Av8(f:Facts)(hb:szF f):Con Tryz.prog 52 [.agg (c36 f)] (.b (okF f)) :=
 by
 refine sC A9 [.tmp 2] 16 Tryz.func52 ?_
 intro e0 cx
 refine sq<|rG cx [1] [1] z0<|sn<|sq<|B3 (σ':=⟨[(2,.b (decide (E5 f.adds=0∧f.gone=A3 f.gone∧G0 f.recs=0)))],[]⟩) ?_ ?_
 refine A5 (E5 f.adds=0) (fun h1=>?_) (fun h1=>?_)
 refine A5 (f.gone=A3 f.gone) (fun h2=>?_) (fun h2=>?_)
 refine rg (A:=_∧_∧_∧_∧_∧(AV.b (decide (G0 f.recs=0))=AV.b (decide (E5 f.adds=0∧f.gone=A3 f.gone∧G0 f.recs=0)))) cx [(2,{ val:=some (.b (decide (E5 f.adds=0))),tell:=some (.b (true)) }),(6,{ val:=some (.b (decide (f.gone=A3 f.gone))),tell:=some (.b (true)) }),(11,{ val:=some (.b (decide (G0 f.recs=0))) }),(13,{ tell:=some (.b (decide (E5 f.adds=0∧f.gone=A3 f.gone∧G0 f.recs=0))) })] [2] [] ⟨(A4 h1),(Ac5 (f.adds)),(A4 h2),(A2i (f.gone) ?g0 ?g1),(B8f (f.recs) ?g2),(by simp only [eq_true h1,eq_true h2,tsl])⟩ ?_;rotate_left 3
 exact⟨rfl,by kernel_rfl⟩
 refine rg (A:=_∧_∧_∧_∧(AV.b false=AV.b (decide (E5 f.adds=0∧f.gone=A3 f.gone∧G0 f.recs=0)))) cx [(2,{ val:=some (.b (decide (E5 f.adds=0))),tell:=some (.b (true)) }),(6,{ val:=some (.b (decide (f.gone=A3 f.gone))),tell:=some (.b (false)) }),(13,{ tell:=some (.b (decide (E5 f.adds=0∧f.gone=A3 f.gone∧G0 f.recs=0))) })] [2] [] ⟨(A4 h1),(Ac5 (f.adds)),(A0 h2),(A2i (f.gone) ?g3 ?g4),(by simp only [eq_true h1,eq_false h2,tsl])⟩ ?_;rotate_left 2
 exact⟨rfl,by kernel_rfl⟩
 refine rg (A:=_∧_∧(AV.b false=AV.b (decide (E5 f.adds=0∧f.gone=A3 f.gone∧G0 f.recs=0)))) cx [(2,{ val:=some (.b (decide (E5 f.adds=0))),tell:=some (.b (false)) }),(13,{ tell:=some (.b (decide (E5 f.adds=0∧f.gone=A3 f.gone∧G0 f.recs=0))) })] [2] [] ⟨(A0 h1),(Ac5 (f.adds)),(by simp only [eq_false h1,tsl])⟩ ?_
 exact⟨rfl,by kernel_rfl⟩
 refine sn<|rT<|qR (.b (decide (E5 f.adds=0∧f.gone=A3 f.gone∧G0 f.recs=0))) (.eq ?g5);rotate_left
 revert h1 h2;rotate_left
 revert h1 h2;rotate_left
 revert h1 h2;rotate_left
 revert h1 h2;rotate_left
 revert h1 h2;rotate_left
 rotate_left
 case g2=>intros;exact hb.2
 case g5=>rw[B8e]
 all_goals (intros;first | exact hb.1.1 | exact hb.1.2)
end Go.Proofs.YtphcaholhacnpaaGreat
namespace Go.Proofs.YtphcaholhacnpaaGreat
open Go.E
set_option maxRecDepth 100000
set_option maxHeartbeats 4000000
noncomputable def I3(rs:List Record)(p:Past):List Record:=rs.filter fun r=>decide (¬ B5 (A7 r.past p)=0)
noncomputable def P3(rs:List Record)(p:Past):List Record×Int:=if G0 rs=0∧p=A3 p then(I3 rs p,0)else([],1)
def A5r(rs:List Record)(p:Past)(i:Int)(v:List Int)(c:List Span)(out:List Record):Prop:=v=p.vec∧c=p.cloud∧0≤i∧i≤rs.length∧(out.length:Int)≤i∧out=I3 (rs.take i.toNat) p
def decWt(rs:List Record)(i:Int)(v:List Int)(c:List Span)(out:List Record):Nat:=(rs.length-i).toNat
theorem Ai0{rs:List Record}{p:Past}{i:Int}{o:List Record}(h0:0≤i)(hi:i < rs.length)(ho:o=I3 (rs.take i.toNat) p) :
  I3 (rs.take (i+1).toNat) p=o++if B5 (A7 rs[i.toNat]!.past p)=0 then[]else[rs[i.toNat]!]:=by
 unfold I3 at *
 rw[← D3 h0 hi,List.filter_append,ho]
 congr 1
 generalize rs[i.toNat]! = x
 split
 ·rename_i h;simp [List.filter_cons,h]
 ·rename_i h;simp [List.filter_cons,h]
theorem Bf4{rs:List Record}(h:G0 rs=0){i:Int}(h0:0≤i)(hi:i < rs.length):(⟨rs[i.toNat]!.sku,A3 rs[i.toNat]!.past⟩:Record)=rs[i.toNat]!:=by
 have:=(Au1.1 (((A0h rs).1 h).1 _ (E3 (l:=rs) (i:=i.toNat) (by omega)))).2.1
 rw[← this]
theorem B2g{rs:List Record}{p:Past}(h:¬G0 rs=0∨¬p=A3 p):P3 rs p=([],1):=by unfold P3;rw[if_neg (fun k=>h.elim (fun g=>g k.1) (fun g=>g k.2))]
theorem A24{rs:List Record}{p:Past}(h:¬(¬G0 rs=0∨¬p=A3 p)):G0 rs=0∧p=A3 p:=⟨Classical.not_not.1 fun k=>h (.inl k),Classical.not_not.1 fun k=>h (.inr k)⟩
theorem A8g{rs:List Record}{p:Past}(h:G0 rs=0)(k:p=A3 p):P3 rs p=(I3 rs p,0):=by unfold P3;rw[if_pos ⟨h,k⟩]
theorem wt_yes{rs:List Record}{p:Past}{i:Int}{o:List Record}(hr:G0 rs=0)(h0:0≤i)(hi:i < rs.length)(h1:(o.length:Int)≤i)(ho:o=I3 (rs.take i.toNat) p)(h:¬ B5 (A7 rs[i.toNat]!.past p)=0):A5r rs p (i+1) p.vec p.cloud (o++[⟨rs[i.toNat]!.sku,A3 rs[i.toNat]!.past⟩]) :=
 ⟨rfl,rfl,by omega,by omega,by rw[List.length_append,List.length_singleton];omega,by rw[Ai0 h0 hi ho,if_neg h,Bf4 hr h0 hi]⟩
theorem B2h{rs:List Record}{p:Past}{i:Int}{o:List Record}(h0:0≤i)(hi:i < rs.length)(h1:(o.length:Int)≤i)(ho:o=I3 (rs.take i.toNat) p)(h:¬ ¬ B5 (A7 rs[i.toNat]!.past p)=0):A5r rs p (i+1) p.vec p.cloud o :=
 ⟨rfl,rfl,by omega,by omega,by omega,by rw[Ai0 h0 hi ho,if_pos (Classical.not_not.1 h),List.append_nil]⟩
theorem B8g(rs:List Record)(p:Past)(hb:B3k rs)(hl:rs.length*64≤140737488350000)(hp:p.cloud.length*16≤140737488350000):Con Tryz.prog 128 [.sl (rs.map c54),.agg (c26 p)] (.tup [.sl ((P3 rs p).1.map c54),.i .i64 (P3 rs p).2]) :=
 by
 refine lN 0 c54 (rs) Tryz.func128 fun hl_0=>sC A9 [.tmp 4,.tmp 5] 35 Tryz.func128 ?_
 intro e0 cx
 refine sq<|rG cx [0,3] [3] z0<|sn<|sq<|sq<|B3 (σ':=⟨[(0,.sl (List.map c54 rs)),(3,.ptr (3) (0) (0) (0)),(16,.b (decide (¬G0 rs=0∨¬p=A3 p)))],[(3,⟨0,26,.var [.sl (List.map c3 p.vec),.sl (List.map B1 p.cloud)]⟩)]⟩) ?_ ?_
 refine A5 (¬G0 rs=0) (fun h_1=>?_) (fun h_1=>?_)
 refine rG cx [0,3,16] [3] (fT (A6j (rs) (by(with_reducible assumption))) (tT 2 (F3 h_1:AV.b (G0 rs !=0)=AV.b true) (tD 7 true (¬G0 rs=0∨¬p=A3 p) (by simp only [eq_false h_1,tsl]) (oA 1 (.i .i64 (G0 rs)) z0)))) ?_
 exact⟨rfl,by kernel_rfl⟩
 refine rG cx [0,3,16] [3] (fT (A6j (rs) (by(with_reducible assumption))) (tN 2 (G0 rs) (0:Int) (tT 3 (A0 h_1) (fT (A2e (p) (by(with_reducible assumption))) (tQ 6 (p=A3 p) (tT 7 (by first | (simp only [eq_false h_1,tsl];done) | simp_all:AV.b (decide ¬p=A3 p)=AV.b (decide (¬G0 rs=0∨¬p=A3 p))) (oA 1 (.i .i64 (G0 rs)) (oA 5 (.b (decide (p=A3 p))) z0)))))))) ?_
 exact⟨rfl,by kernel_rfl⟩
 refine sn<|dC (¬G0 rs=0∨¬p=A3 p) (fun hh2=>?_) fun hh2=>?_
 refine sq<|rG cx [4,5] [] z0<|sn<|rT<|nR<|qR (.tup [.nl,.i .i64 ((1:Int))]) (B9.tup (ZLe.cons (B9.nl' (show List.map c54 (P3 rs p).1=[]from(by rw[B2g hh2];rfl))) (ZLe.cons (B9.eq (show AV.i .i64 1=AV.i .i64 (P3 rs p).2 from(by rw[B2g hh2]))) ZLe.nil)))
 refine sK<|sn<|sq<|rG cx [0,3,6] [3] z0<|sn<|sq<|sq<|rG cx [3,6,17,18,19] [3] (tL 1 c54 rs z0)<|sn<|bL 0<|E9 6 1006 54 3 (σ':=⟨[(3,.ptr (3) (0) (0) (0)),(6,.own 1006 0),(17,.sl (List.map c54 rs)),(18,.i .i64 ((↑rs.length:Int))),(19,.i .i64 ((0:Int)))],[(3,⟨0,26,.var [.sl (List.map c3 p.vec),.sl (List.map B1 p.cloud)]⟩),(1006,⟨0,54,.row 3 (List.map c54 [])⟩)]⟩) (by kernel_rfl)<|sL (X:=Int×List Int×List Span×List Record) (fun x=>⟨[(3,.ptr (3) (0) (0) (0)),(6,.own 1006 0),(17,.sl (List.map c54 rs)),(18,.i .i64 ((↑rs.length:Int))),(19,.i .i64 (x.1))],[(3,⟨0,26,.var [.sl (List.map c3 x.2.1),.sl (List.map B1 x.2.2.1)]⟩),(1006,⟨0,54,.row 3 (List.map c54 x.2.2.2)⟩)]⟩) (fun x ↦ decWt rs x.1 x.2.1 x.2.2.1 x.2.2.2) (fun x ↦ A5r rs p x.1 x.2.1 x.2.2.1 x.2.2.2) [3,6,17,18,19] [3,1006] (((0:Int),p.vec,p.cloud,[])) (show A5r rs p (0:Int) p.vec p.cloud []from(by exact⟨rfl,rfl,by omega,by omega,by simp,rfl⟩)) ?_
 rintro⟨i3,v4,c5,o6⟩ h_7
 obtain⟨h8,h9,h10,h11,h12,h13⟩:v4=p.vec∧c5=p.cloud∧0≤i3∧i3≤(↑rs.length:Int)∧(↑o6.length:Int)≤i3∧o6=I3 (List.take i3.toNat rs) p:=h_7
 refine rE cx [3,6,17,18,19,20] [3,1006] (zB 0 (i3 <(↑rs.length:Int))) (fun h14=>?_) fun h14=>?_
 refine sK<|sn<|sq<|bL 1<|sq<|rG cx [3,6,17,18,19,8] [3,1006,8] (fA (0≤i3) (fG c54 rs i3.toNat (fR 3 (fN 3 3 (oR 0 (c54 rs[i3.toNat]!) z0)))))<|sn<|sq<|rG cx [3,6,17,18,19,8,27] [3,1006,8] (fT (B26 (rs[i3.toNat]!.past) ({ vec:=v4,cloud:=c5:Past }) (by exact Y9 hb h10 h14) (by subst h9;exact hp)) (tQ 4 (B5 (A7 rs[i3.toNat]!.past { vec:=v4,cloud:=c5:Past })=0) (oA 3 (.b (decide (B5 (A7 rs[i3.toNat]!.past { vec:=v4,cloud:=c5:Past })=0))) z0))) ?_
 refine sn<|dC (¬B5 (A7 rs[i3.toNat]!.past { vec:=v4,cloud:=c5:Past })=0) (fun h15=>?_) fun h15=>?_
 refine rG cx [3,6,17,18,19] [3,1006] (fT (B1j (rs[i3.toNat]!) (by exact Y9 hb h10 h14)) (fR 54 (fR 3 (fR 3 (fX c54 [{ sku:=rs[i3.toNat]!.sku,past:=A3 rs[i3.toNat]!.past:Record }] 3 (fS c54 o6 c54 [{ sku:=rs[i3.toNat]!.sku,past:=A3 rs[i3.toNat]!.past:Record }] (fP (((List.map c54 o6).length+(List.map c54 [{ sku:=rs[i3.toNat]!.sku,past:=A3 rs[i3.toNat]!.past:Record }]).length)*(64:Nat)≤(140737488355328:Nat)) (by(simp only [Go.maxLen,List.length_map,List.length_append,List.length_cons,List.length_nil];omega)) (fM c54 o6 [{ sku:=rs[i3.toNat]!.sku,past:=A3 rs[i3.toNat]!.past:Record }] (oA 2 (.agg [.s ({ sku:=rs[i3.toNat]!.sku,past:=A3 rs[i3.toNat]!.past:Record }.sku),.sl (List.map c3 { sku:=rs[i3.toNat]!.sku,past:=A3 rs[i3.toNat]!.past:Record }.past.vec),.sl (List.map B1 { sku:=rs[i3.toNat]!.sku,past:=A3 rs[i3.toNat]!.past:Record }.past.cloud)]) (oV 4 { rows:=some (List.map c54 (o6++[{ sku:=rs[i3.toNat]!.sku,past:=A3 rs[i3.toNat]!.past:Record }])) } z0)))))))))) ?_
 refine bN<|sn<|rG cx [3,6,17,18,19] [3,1006] (tW 0 (i3+1) z0)<|sn<|nX ((i3+1,v4,c5,o6++[{ sku:=rs[i3.toNat]!.sku,past:=A3 rs[i3.toNat]!.past:Record }])) (show((↑rs.length:Int)-(i3+1)).toNat <((↑rs.length:Int)-i3).toNat from(by omega)) (show A5r rs p (i3+1) v4 c5 (o6++[{ sku:=rs[i3.toNat]!.sku,past:=A3 rs[i3.toNat]!.past:Record }])from(by subst h8 h9;exact wt_yes (A24 hh2).1 h10 h14 h12 h13 h15))
 refine sK<|bN<|sn<|rG cx [3,6,17,18,19] [3,1006] (tW 0 (i3+1) z0)<|sn<|nX ((i3+1,v4,c5,o6)) (show((↑rs.length:Int)-(i3+1)).toNat <((↑rs.length:Int)-i3).toNat from(by omega)) (show A5r rs p (i3+1) v4 c5 o6 from(by subst h8 h9;exact B2h h10 h14 h12 h13 h15))
 refine eX 0<|nE<|nE<|bH<|sn<|sq<|rG cx [4,5] [1006] z0<|sn<|rT<|qR (.tup [.sl (List.map c54 o6),.i .i64 ((0:Int))]) (B9.tup (ZLe.cons (B9.eq (show AV.sl (List.map c54 o6)=AV.sl (List.map c54 (P3 rs p).1)from(by rw[A8g (A24 hh2).1 (A24 hh2).2,h13,List.take_of_length_le (by omega)]))) (ZLe.cons (B9.eq (show AV.i .i64 0=AV.i .i64 (P3 rs p).2 from(by rw[A8g (A24 hh2).1 (A24 hh2).2]))) ZLe.nil)))
end Go.Proofs.YtphcaholhacnpaaGreat
namespace Go.Proofs.YtphcaholhacnpaaGreat
open Go.E
set_option maxRecDepth 100000
set_option maxHeartbeats 4000000
noncomputable def A2z(f:Facts):Int:=if okF f=true then 0 else 1
def Ai1:Facts:=⟨[],⟨[],[]⟩,[]⟩
theorem D9{f:Facts}:okF f=true↔E5 f.adds=0∧f.gone=A3 f.gone∧G0 f.recs=0:=by rw[B8e,decide_eq_true_iff]
end Go.Proofs.YtphcaholhacnpaaGreat
namespace Go.Proofs.YtphcaholhacnpaaGreat
open Go.E
set_option maxRecDepth 100000
set_option maxHeartbeats 4000000
theorem A0n{f:Facts}:A2z f=0↔okF f=true:=by
 unfold A2z
 by_cases h:okF f=true
 ·rw[if_pos h];exact⟨fun _=>h,fun _=>rfl⟩
 ·rw[if_neg h];exact⟨fun k=>by omega,fun k=>absurd k h⟩
theorem Aq4(f:Facts)(hb:szF f):Con Tryz.prog 127 [.agg (c36 f)] (.i .i64 (A2z f)) :=
 by
 have no:(¬E5 f.adds=0∨¬f.gone=A3 f.gone∨¬G0 f.recs=0)↔¬ okF f=true:=by
  rw[D9]
  constructor
  ·rintro(h | h | h) k
   ·exact h k.1
   ·exact h k.2.1
   ·exact h k.2.2
  ·intro h
   by_cases a:E5 f.adds=0
   ·by_cases b:f.gone=A3 f.gone
    ·exact .inr (.inr fun c=>h ⟨a,b,c⟩)
    ·exact .inr (.inl b)
   ·exact .inl a
 refine sC A9 [.tmp 2] 19 Tryz.func127 ?_
 intro e0 cx
 refine sq<|rG cx [1] [1] z0<|sn<|sq<|sq<|B3 (σ':=⟨[(18,.b (decide (¬E5 f.adds=0∨¬f.gone=A3 f.gone∨¬G0 f.recs=0)))],[]⟩) ?_ ?_
 refine A5 (¬E5 f.adds=0) (fun h1=>?_) (fun h1=>?_)
 refine rG cx [18] [] (fT (A4l (f.adds)) (tT 3 (F3 h1:AV.b (E5 f.adds !=0)=AV.b true) (tD 15 true (¬E5 f.adds=0∨¬f.gone=A3 f.gone∨¬G0 f.recs=0) (by simp only [eq_false h1,tsl]) (oA 2 (.i .i64 (E5 f.adds)) z0)))) ?_
 exact⟨rfl,by kernel_rfl⟩
 refine A5 (¬f.gone=A3 f.gone) (fun h2=>?_) (fun h2=>?_)
 refine rg (A:=_∧(AV.b (E5 f.adds !=0)=AV.b (decide ¬E5 f.adds=0))∧_∧_∧_∧(AV.b true=AV.b (decide (¬E5 f.adds=0∨¬f.gone=A3 f.gone∨¬G0 f.recs=0)))) cx [(2,{ val:=some (.i .i64 (E5 f.adds)) }),(3,{ tell:=some (.b (decide ¬E5 f.adds=0)) }),(4,{ tell:=some (.b (false)) }),(7,{ val:=some (.b (decide (f.gone=A3 f.gone))),tell:=some (.b (false)) }),(15,{ tell:=some (.b (decide (¬E5 f.adds=0∨¬f.gone=A3 f.gone∨¬G0 f.recs=0))) })] [18] [] ⟨(A4l (f.adds)),(A3c),(A0 h1),(A0 h2),(A2e (f.gone) (by exact hb.1.1)),(by first | (simp only [eq_false h1,eq_false h2,tsl];done) | simp_all)⟩ ?_
 exact⟨rfl,by kernel_rfl⟩
 refine rG cx [18] [] (fT (A4l (f.adds)) (tN 3 (E5 f.adds) (0:Int) (tT 4 (A0 h1) (fT (A2e (f.gone) (by exact hb.1.1)) (tQ 8 (f.gone=A3 f.gone) (tT 9 (A0 h2) (fT (A6j (f.recs) (by exact Ah7 hb.2)) (tN 14 (G0 f.recs) (0:Int) (tT 15 (by first | (simp only [eq_false h1,eq_false h2,tsl];done) | simp_all:AV.b (decide ¬G0 f.recs=0)=AV.b (decide (¬E5 f.adds=0∨¬f.gone=A3 f.gone∨¬G0 f.recs=0))) (oA 2 (.i .i64 (E5 f.adds)) (oA 7 (.b (decide (f.gone=A3 f.gone))) (oA 13 (.i .i64 (G0 f.recs)) z0)))))))))))) ?_
 exact⟨rfl,by kernel_rfl⟩
 refine sn<|dC (¬E5 f.adds=0∨¬f.gone=A3 f.gone∨¬G0 f.recs=0) (fun h3=>?_) fun h3=>?_
 refine sq<|rG cx [2] [] z0<|sn<|rT<|nR<|qR (.i .i64 ((1:Int))) (.eq (by unfold A2z;rw[if_neg (no.1 h3)]))
 refine sK<|sn<|sq<|rG cx [2] [] z0<|sn<|rT<|qR (.i .i64 ((0:Int))) (.eq (by unfold A2z;rw[if_pos (Classical.not_not.1 fun k=>h3 (no.2 k))]))
end Go.Proofs.YtphcaholhacnpaaGreat
namespace Go.Proofs.YtphcaholhacnpaaGreat
open Go.E
set_option maxRecDepth 100000
set_option maxHeartbeats 4000000
def C5(es:List Entry):Past×Int:=if okL es=true then(E4 (ofT (es.map fun e=>e.dot)),0)else(⟨[],[]⟩,1)
def F6(es:List Entry)(p:Past)(t:Bool):List Entry×Int:=if okL es=true∧p=A3 p then(es.filter (fun e=>C8 p e.dot == t),0)else([],1)
theorem A8h{es:List Entry}(h:¬ E5 es=0):C5 es=(⟨[],[]⟩,1):=by unfold C5;rw[if_neg (B7z h)]
theorem Aq5{es:List Entry}(h:E5 es=0):C5 es=(E4 (ofT (es.map fun e=>e.dot)),0):=by unfold C5;rw[if_pos (Z0 h)]
theorem Aq6{es:List Entry}{p:Past}{t:Bool}(h:¬ E5 es=0∨¬ p=A3 p):F6 es p t=([],1):=by
 unfold F6
 rw[if_neg]
 rintro⟨h1,h2⟩
 exact h.elim (fun k=>B7z k h1) (fun k=>k h2)
theorem Aq7{es:List Entry}{p:Past}{t:Bool}(h:E5 es=0)(h2:p=A3 p):F6 es p t=(es.filter (fun e=>C8 p e.dot == t),0):=by unfold F6;rw[if_pos ⟨Z0 h,h2⟩]
def Ac6(es:List Entry)(i:Int)(l:List Dot):Prop:=l.length=es.length∧l.take i.toNat=(es.take i.toNat).map fun e=>e.dot
def invD(es:List Entry)(i:Int)(l:List Dot):Prop:=0≤i∧i≤es.length∧l.length=es.length∧Ac6 es i l
def decD(es:List Entry)(i:Int)(l:List Dot):Nat:=(es.length-i).toNat
theorem Ai2{es:List Entry}{i:Int}{l:List Dot}(h0:0≤i)(h:i < es.length)(hs:Ac6 es i l):Ac6 es (i+1) (l.set i.toNat es[i.toNat]!.dot):=by
 obtain⟨h1,h2⟩:=hs
 refine⟨by rw[List.length_set];exact h1,?_⟩
 rw[← D3 h0 h,List.map_append,← h2,show(i+1).toNat=i.toNat+1 by omega,List.take_succ_eq_append_getElem (by rw[List.length_set];omega)]
 simp [List.take_set_of_le]
theorem Av9{es:List Entry}{i:Int}{l:List Dot}(h:¬ i < es.length)(hs:Ac6 es i l):l=es.map fun e=>e.dot:=by
 obtain⟨h1,h2⟩:=hs
 rwa [List.take_of_length_le (by omega),List.take_of_length_le (by omega)]at h2
theorem ok_len{es:List Entry}(h:¬ ¬ E5 es=0):es.length≤16000000000:=A4n (Z0 (Classical.not_not.1 h))
theorem A53{es:List Entry}{p:Past}(h:¬(¬ E5 es=0∨¬ p=A3 p)):E5 es=0∧p=A3 p:=⟨Classical.not_not.1 fun k=>h (.inl k),Classical.not_not.1 fun k=>h (.inr k)⟩
theorem B2i(es:List Entry):(C5 es).1.cloud.length≤8000000000∧(C5 es).1.vec.length≤16:=by
 unfold C5
 split
 ·exact N2 _
 ·simp
theorem A54(es:List Entry):Con Tryz.prog 113 [.sl (es.map c46)] (.tup [.agg (c26 (C5 es).1),.i .i64 (C5 es).2]) :=
 by
 refine lN 0 c46 (es) Tryz.func113 fun hl_0=>sC A9 [.cell 2 26,.tmp 3] 29 Tryz.func113 ?_
 intro e0 cx
 refine sq<|rG cx [0,2] [2] z0<|sn<|sq<|sq<|rG cx [0,2,9] [2] (fT (A4l (es)) (tN 2 (E5 es) (0:Int) (oA 1 (.i .i64 (E5 es)) z0)))<|sn<|dC (¬E5 es=0) (fun hh0=>?_) fun hh0=>?_
 refine sq<|rG cx [2,3] [2] z0<|sn<|rT<|nR<|qR (.tup [.agg [.nl,.nl],.i .i64 ((1:Int))]) (B9.tup (ZLe.cons (B9.agg (ZLe.cons (B9.nl' (show List.map c3 (C5 es).1.vec=[]from(by rw[A8h hh0];rfl))) (ZLe.cons (B9.nl' (show List.map B1 (C5 es).1.cloud=[]from(by rw[A8h hh0];rfl))) ZLe.nil))) (ZLe.cons (B9.eq (show AV.i .i64 1=AV.i .i64 (C5 es).2 from(by rw[A8h hh0]))) ZLe.nil)))
 refine sK<|sn<|sq<|rG cx [0,2,4] [2,13] (tL 1 c46 es (fR (↑es.length:Int) (fR (↑es.length:Int) (fP ((16:Nat)*es.length≤(281474976710656:Nat)) (by have:=ok_len hh0;omega) (fP (es.length≤maxLen) (by(simp only [Go.maxLen];omega)) (fR 2 (fP (ZLe [AV.i .i64 (0:Int),AV.i .i64 (0:Int)] [AV.i .i64 { rep:=(0:Int),num:=(0:Int):Dot }.rep,AV.i .i64 { rep:=(0:Int),num:=(0:Int):Dot }.num]) (by(with_reducible exact ZLe.refl _)) (fP (List.replicate es.length [AV.i .i64 { rep:=(0:Int),num:=(0:Int):Dot }.rep,AV.i .i64 { rep:=(0:Int),num:=(0:Int):Dot }.num]=List.map c44 (List.replicate es.length { rep:=(0:Int),num:=(0:Int):Dot })) (by(with_reducible refine Af1 ?_;kernel_rfl)) (oV 2 { row:=[.i .i64 ({ rep:=(0:Int),num:=(0:Int):Dot }.rep),.i .i64 ({ rep:=(0:Int),num:=(0:Int):Dot }.num)],rows:=some (List.map c44 (List.replicate es.length { rep:=(0:Int),num:=(0:Int):Dot })),n:=es.length } z0))))))))) ?_
 refine sn<|sq<|sq<|rG cx [2,4,14,15,16] [2,13] (tL 1 c46 es z0)<|sn<|bL 0<|sL (X:=Int×List Dot) (fun x=>⟨[(2,.ptr (2) (0) (0) (0)),(4,.own 13 0),(14,.sl (List.map c46 es)),(15,.i .i64 ((↑es.length:Int))),(16,.i .i64 (x.1))],[(2,⟨0,26,.var [.nl,.nl]⟩),(13,⟨0,44,.row 2 (List.map c44 x.2)⟩)]⟩) (fun x ↦ decD es x.1 x.2) (fun x ↦ invD es x.1 x.2) [2,4,14,15,16] [2,13] (((0:Int),List.replicate es.length { rep:=(0:Int),num:=(0:Int):Dot })) (show invD es (0:Int) (List.replicate es.length { rep:=(0:Int),num:=(0:Int):Dot })from(by exact⟨by omega,by omega,by simp,by simp,by simp⟩)) ?_
 rintro⟨i1,l2⟩ h_3
 obtain⟨hh4,h5,h6,h7⟩:0≤i1∧i1≤(↑es.length:Int)∧l2.length=es.length∧Ac6 es i1 l2:=h_3
 refine rE cx [2,4,14,15,16,17] [2,13] (zB 0 (i1 <(↑es.length:Int))) (fun h8=>?_) fun h8=>?_
 refine sK<|sn<|sq<|bL 1<|sq<|rG cx [2,4,14,15,16,6,5] [2,13,6] (fA (0≤i1) (fG c46 es i1.toNat (fR 4 (fN 4 4 (oR 1 (c46 es[i1.toNat]!) z0)))))<|sn<|rG cx [2,4,14,15,16] [2,13] (fA (0≤i1) (fP (i1.toNat <(List.map c44 l2).length) (by(first | omega | (simp only [List.length_map];omega))) (fR 2 (fG c44 l2 i1.toNat (fR 2 (fP (0+(2:Nat)≤2) (by(first | omega | (simp only [List.length_map];omega))) (fP ((List.map c44 l2).set i1.toNat (List.take (0) (c44 l2[i1.toNat]!)++D7 (AV.agg [AV.i .i64 es[i1.toNat]!.dot.rep,AV.i .i64 es[i1.toNat]!.dot.num])++List.drop (0+(2:Nat)) (c44 l2[i1.toNat]!))=List.map c44 (l2.set i1.toNat es[i1.toNat]!.dot)) (by(with_reducible refine A2d ?_;kernel_rfl)) (oV 5 { row:=(c44 l2[i1.toNat]!),rows:=some (List.map c44 (l2.set i1.toNat es[i1.toNat]!.dot)) } z0)))))))) ?_
 refine bN<|sn<|rG cx [2,4,14,15,16] [2,13] (tW 0 (i1+1) z0)<|sn<|nX ((i1+1,l2.set i1.toNat es[i1.toNat]!.dot)) (show((↑es.length:Int)-(i1+1)).toNat <((↑es.length:Int)-i1).toNat from(by omega)) (show invD es (i1+1) (l2.set i1.toNat es[i1.toNat]!.dot)from(by exact⟨by omega,by omega,by rw[List.length_set];exact h6,Ai2 hh4 h8 h7⟩))
 refine eX 0<|nE<|nE<|bH<|sn<|sq<|rG cx [2,3] [2] (fT (con108 (l2) (by have:=ok_len hh0;omega)) (oA 1 (.agg [.sl (List.map c3 (E4 (ofT l2)).vec),.sl (List.map B1 (E4 (ofT l2)).cloud)]) z0)) ?_
 refine sn<|rT<|qR (.tup [.agg [.sl (List.map c3 (E4 (ofT l2)).vec),.sl (List.map B1 (E4 (ofT l2)).cloud)],.i .i64 ((0:Int))]) (B9.tup (ZLe.cons (B9.eq (show AV.agg [AV.sl (List.map c3 (E4 (ofT l2)).vec),AV.sl (List.map B1 (E4 (ofT l2)).cloud)]=AV.agg [AV.sl (List.map c3 (C5 es).1.vec),AV.sl (List.map B1 (C5 es).1.cloud)]from(by rw[Aq5 (Classical.not_not.1 hh0),Av9 h8 h7]))) (ZLe.cons (B9.eq (show AV.i .i64 0=AV.i .i64 (C5 es).2 from(by rw[Aq5 (Classical.not_not.1 hh0)]))) ZLe.nil)))
theorem B8h(e:Entry)(p:Past):Con Tryz.prog 153 [.agg (c46 e),.eptr (c26 p)] (.b (C8 p e.dot == false)) :=
 by
 refine sC A9 [.tmp 3] 9 Tryz.func153 ?_
 intro e0 cx
 refine sq<|rG cx [1,2] [2] z0<|sn<|sq<|rG cx [3] [] (fN 2 2 (fT (B0f (p) (e.dot)) (tT 4 (E2:(AV.b !C8 p e.dot)=AV.b (decide ¬C8 p e.dot=true)) (oA 3 (.b (C8 p e.dot)) z0))))<|sn<|rT<|qR (.b (decide ¬C8 p e.dot=true)) (.eq ?g0);rotate_left
 case g0=>exact(by cases C8 p e.dot <;> rfl)
theorem B6j(es:List Entry)(p:Past)(hs:es.length*40≤140737488351232):Con Tryz.prog 103 [.sl (es.map c46),.fn (.func 153) [] [.eptr (c26 p)]] (.sl ((es.filter (fun e=>C8 p e.dot == false)).map c46)) :=
 by
 refine lN 0 c46 (es) Tryz.func103 fun hl_0=>sC A9 [.tmp 4] 23 Tryz.func103 ?_
 intro e0 cx
 refine sq<|rG cx [0,1] [] z0<|sn<|sq<|rG cx [0,1,5] [] z0<|sn<|sq<|sq<|rG cx [1,5,8,9,10] [] (tL 1 c46 es z0)<|sn<|bL 0<|E9 5 1005 46 4 (σ':=⟨[(1,.fn (Fn.func (153:FuncId)) [] [.eptr [.sl (List.map c3 p.vec),.sl (List.map B1 p.cloud)]]),(5,.own 1005 0),(8,.sl (List.map c46 es)),(9,.i .i64 ((↑es.length:Int))),(10,.i .i64 ((0:Int)))],[(1005,⟨0,46,.row 4 (List.map c46 [])⟩)]⟩) (by kernel_rfl)<|sL (X:=Int×List Entry) (fun x=>⟨[(1,.fn (Fn.func (153:FuncId)) [] [.eptr [.sl (List.map c3 p.vec),.sl (List.map B1 p.cloud)]]),(5,.own 1005 0),(8,.sl (List.map c46 es)),(9,.i .i64 ((↑es.length:Int))),(10,.i .i64 (x.1))],[(1005,⟨0,46,.row 4 (List.map c46 x.2)⟩)]⟩) (fun x ↦ decP es x.1 x.2) (fun x ↦ Ba4 (fun e ↦ C8 p e.dot == false) es x.1 x.2) [1,5,8,9,10] [1005] (((0:Int),[])) (show Ba4 (fun e ↦ C8 p e.dot == false) es (0:Int) []from(by exact(B1c _ _))) ?_
 rintro⟨i0,l1⟩ h_2
 obtain⟨hh3,hh4,hh5,h6⟩:0≤i0∧i0≤(↑es.length:Int)∧l1=List.filter (fun e ↦ C8 p e.dot == false) (List.take i0.toNat es)∧(↑l1.length:Int)≤i0:=h_2
 refine rE cx [1,5,8,9,10,11] [1005] (zB 0 (i0 <(↑es.length:Int))) (fun h7=>?_) fun h7=>?_
 refine sK<|sn<|sq<|bL 1<|sq<|rG cx [1,5,8,9,10,7] [1005,7] (fA (0≤i0) (fG c46 es i0.toNat (fR 4 (fN 4 4 (oR 0 (c46 es[i0.toNat]!) z0)))))<|sn<|sq<|rG cx [1,5,8,9,10,7,16] [1005,7] (fT (B8h (es[i0.toNat]!) (p)) (oA 2 (B9f (B8h (es[i0.toNat]!) (p))) z0))<|sn<|Y1 (C8 p es[i0.toNat]!.dot == false) (by kernel_rfl) (by kernel_rfl) (fun h8=>?_) (fun h8=>?_)
 refine rG cx [1,5,8,9,10] [1005] (fR 46 (fR 4 (fR 4 (fX c46 [es[i0.toNat]!] 4 (fS c46 l1 c46 [es[i0.toNat]!] (fP (((List.map c46 l1).length+(List.map c46 [es[i0.toNat]!]).length)*(40:Nat)≤(140737488355328:Nat)) (by(simp only [Go.maxLen,List.length_map,List.length_append,List.length_cons,List.length_nil];omega)) (fM c46 l1 [es[i0.toNat]!] (oV 3 { rows:=some (List.map c46 (l1++[es[i0.toNat]!])) } z0))))))))<|bN<|sn<|rG cx [1,5,8,9,10] [1005] (tW 0 (i0+1) z0)<|sn<|nX ((i0+1,l1++[es[i0.toNat]!])) (show((↑es.length:Int)-(i0+1)).toNat <((↑es.length:Int)-i0).toNat from(by omega)) (show Ba4 (fun e ↦ C8 p e.dot == false) es (i0+1) (l1++[es[i0.toNat]!])from(by exact(B56 hh3 hh5 h6 h7 h8)))
 refine sK<|bN<|sn<|rG cx [1,5,8,9,10] [1005] (tW 0 (i0+1) z0)<|sn<|nX ((i0+1,l1)) (show((↑es.length:Int)-(i0+1)).toNat <((↑es.length:Int)-i0).toNat from(by omega)) (show Ba4 (fun e ↦ C8 p e.dot == false) es (i0+1) l1 from(by exact(B1d hh3 hh5 h6 h7 (by simpa using h8))))
 refine eX 0<|nE<|nE<|bH<|sn<|sq<|rG cx [4] [1005] z0<|sn<|rT<|qR (.sl (List.map c46 l1)) (.eq (by exact(by rw[B1e hh5 h7])))
theorem Bf5(es:List Entry)(p:Past)(hb:p.cloud.length*16≤140737488350000):Con Tryz.prog 82 [.sl (es.map c46),.agg (c26 p)] (.tup [.sl ((F6 es p false).1.map c46),.i .i64 (F6 es p false).2]) :=
 by
 refine lN 0 c46 (es) Tryz.func82 fun hl_0=>sC A9 [.tmp 4,.tmp 5] 17 Tryz.func82 ?_
 intro e0 cx
 refine sq<|rG cx [0,3] [3] z0<|sn<|sq<|sq<|B3 (σ':=⟨[(0,.sl (List.map c46 es)),(3,.ptr (3) (0) (0) (0)),(13,.b (decide (¬E5 es=0∨¬p=A3 p)))],[(3,⟨0,26,.var [.sl (List.map c3 p.vec),.sl (List.map B1 p.cloud)]⟩)]⟩) ?_ ?_
 refine A5 (¬E5 es=0) (fun h_1=>?_) (fun h_1=>?_)
 refine rG cx [0,3,13] [3] (fT (A4l (es)) (tT 2 (F3 h_1:AV.b (E5 es !=0)=AV.b true) (tD 7 true (¬E5 es=0∨¬p=A3 p) (by simp only [eq_false h_1,tsl]) (oA 1 (.i .i64 (E5 es)) z0)))) ?_
 exact⟨rfl,by kernel_rfl⟩
 refine rG cx [0,3,13] [3] (fT (A4l (es)) (tN 2 (E5 es) (0:Int) (tT 3 (A0 h_1) (fT (A2e (p) (by(with_reducible assumption))) (tQ 6 (p=A3 p) (tT 7 (by first | (simp only [eq_false h_1,tsl];done) | simp_all:AV.b (decide ¬p=A3 p)=AV.b (decide (¬E5 es=0∨¬p=A3 p))) (oA 1 (.i .i64 (E5 es)) (oA 5 (.b (decide (p=A3 p))) z0)))))))) ?_
 exact⟨rfl,by kernel_rfl⟩
 refine sn<|dC (¬E5 es=0∨¬p=A3 p) (fun h2=>?_) fun h2=>?_
 refine sq<|rG cx [4,5] [] z0<|sn<|rT<|nR<|qR (.tup [.nl,.i .i64 ((1:Int))]) (B9.tup (ZLe.cons (B9.nl' (show List.map c46 (F6 es p false).1=[]from(by exact(by rw[Aq6 h2];rfl)))) (ZLe.cons (B9.eq (show AV.i .i64 1=AV.i .i64 (F6 es p false).2 from(by exact(by rw[Aq6 h2])))) ZLe.nil)))
 refine sK<|sn<|sq<|rG cx [4,5] [] (fT (B6j (es) (p) (by exact(by have:=A4n (Z0 (A53 h2).1);omega))) (oA 2 (.sl (List.map c46 (List.filter (fun e ↦ C8 p e.dot == false) es))) z0)) ?_
 refine sn<|rT<|qR (.tup [.sl (List.map c46 (List.filter (fun e ↦ C8 p e.dot == false) es)),.i .i64 ((0:Int))]) (B9.tup (ZLe.cons (B9.eq (show AV.sl (List.map c46 (List.filter (fun e ↦ C8 p e.dot == false) es))=AV.sl (List.map c46 (F6 es p false).1)from(by exact(by rw[Aq7 (A53 h2).1 (A53 h2).2])))) (ZLe.cons (B9.eq (show AV.i .i64 0=AV.i .i64 (F6 es p false).2 from(by exact(by rw[Aq7 (A53 h2).1 (A53 h2).2])))) ZLe.nil)))
end Go.Proofs.YtphcaholhacnpaaGreat
namespace Go.Proofs.YtphcaholhacnpaaGreat
open Go.E
set_option maxRecDepth 100000
set_option maxHeartbeats 4000000
theorem B2j(r:Record):(⟨r.sku,r.past⟩:Record)=r:=rfl
end Go.Proofs.YtphcaholhacnpaaGreat
namespace Go.Proofs.YtphcaholhacnpaaGreat
open Go.E
set_option maxRecDepth 100000
set_option maxHeartbeats 4000000
open Go Go.Sort Go.RowKit Go.Lib Go.Shelf Go.Proofs
def renSk:Go.Shelf.Ren:=⟨fun
 | 6=>180 | 14=>223 | 15=>221 | 20=>263 | 21=>264 | 22=>265
 | 23=>266 | 24=>267 | 25=>268 | 26=>269 | 27=>270 | 28=>253 | 29=>254
 | 46=>283 | 47=>284 | 48=>285 | 49=>286 | 50=>287 | 57=>291 | n=>n,
 fun | 0=>0 | 3=>3 | 4=>4 | 5=>5 | 9=>9 | 22=>34 | 24=>54 | 25=>192 | 39=>255 | 45=>281 | 46=>282 | 50=>278 | 53=>270 | 55=>51 | 66=>298 | 70=>296 | 76=>304 | 77=>127 | n=>n,
 fun n=>n⟩
theorem laysSk:Go.Proofs.SlLaysF0.n6 Tryz.prog renSk:={
 mixed:=(by kernel_rfl),
 f6:=⟨Tryz.f180.name,by decide,Tryz.func180.trans (congrArg some (by kernel_rfl))⟩,
 f14:=⟨Tryz.f223.name,by decide,Tryz.func223.trans (congrArg some (by kernel_rfl))⟩,
 f15:=Tryz.func221.trans (congrArg some (by kernel_rfl)),
 f20:=⟨Tryz.f263.name,by decide,Tryz.func263.trans (congrArg some (by kernel_rfl))⟩,
 f21:=⟨Tryz.f264.name,by decide,Tryz.func264.trans (congrArg some (by kernel_rfl))⟩,
 f22:=⟨Tryz.f265.name,by decide,Tryz.func265.trans (congrArg some (by kernel_rfl))⟩,
 f23:=⟨Tryz.f266.name,by decide,Tryz.func266.trans (congrArg some (by kernel_rfl))⟩,
 f24:=⟨Tryz.f267.name,by decide,Tryz.func267.trans (congrArg some (by kernel_rfl))⟩,
 f25:=⟨Tryz.f268.name,by decide,Tryz.func268.trans (congrArg some (by kernel_rfl))⟩,
 f26:=⟨Tryz.f269.name,by decide,Tryz.func269.trans (congrArg some (by kernel_rfl))⟩,
 f27:=⟨Tryz.f270.name,by decide,Tryz.func270.trans (congrArg some (by kernel_rfl))⟩,
 f28:=Tryz.func253.trans (congrArg some (by kernel_rfl)),
 f29:=Tryz.func254.trans (congrArg some (by kernel_rfl)),
 f46:=⟨Tryz.f283.name,by decide,Tryz.func283.trans (congrArg some (by kernel_rfl))⟩,
 f47:=Tryz.func284.trans (congrArg some (by kernel_rfl)),
 f48:=Tryz.func285.trans (congrArg some (by kernel_rfl)),
 f49:=⟨Tryz.f286.name,by decide,Tryz.func286.trans (congrArg some (by kernel_rfl))⟩,
 f50:=⟨Tryz.f287.name,by decide,Tryz.func287.trans (congrArg some (by kernel_rfl))⟩,
 f57:=⟨Tryz.f291.name,by decide,Tryz.func291.trans (congrArg some (by kernel_rfl))⟩,
 t0:=Tryz.underlying0,a0:=Tryz.isAgg0,z0:=Tryz.sizeOf0,v0:=Tryz.zeroValue0,
 t3:=Tryz.underlying3,a3:=Tryz.isAgg3,z3:=Tryz.sizeOf3,v3:=Tryz.zeroValue3,
 t4:=Tryz.underlying4,a4:=Tryz.isAgg4,z4:=Tryz.sizeOf4,v4:=Tryz.zeroValue4,
 t5:=Tryz.underlying5,a5:=Tryz.isAgg5,z5:=Tryz.sizeOf5,v5:=Tryz.zeroValue5,
 t9:=Tryz.underlying9,a9:=Tryz.isAgg9,z9:=Tryz.sizeOf9,v9:=Tryz.zeroValue9,
 t22:=Tryz.underlying34,a22:=Tryz.isAgg34,z22:=Tryz.sizeOf34,v22:=Tryz.zeroValue34,
 t25:=Tryz.underlying192,a25:=Tryz.isAgg192,z25:=Tryz.sizeOf192,v25:=Tryz.zeroValue192,
 t39:=Tryz.underlying255,a39:=Tryz.isAgg255,z39:=Tryz.sizeOf255,v39:=Tryz.zeroValue255,
 t45:=Tryz.underlying281,a45:=Tryz.isAgg281,z45:=Tryz.sizeOf281,v45:=Tryz.zeroValue281,
 t46:=Tryz.underlying282,a46:=Tryz.isAgg282,z46:=Tryz.sizeOf282,v46:=Tryz.zeroValue282,
 t50:=Tryz.underlying278,a50:=Tryz.isAgg278,z50:=Tryz.sizeOf278,v50:=Tryz.zeroValue278,
 t53:=Tryz.underlying270,a53:=Tryz.isAgg270,z53:=Tryz.sizeOf270,v53:=Tryz.zeroValue270,
 t55:=Tryz.underlying51,a55:=Tryz.isAgg51,z55:=Tryz.sizeOf51,v55:=Tryz.zeroValue51,
 t66:=Tryz.underlying298,a66:=Tryz.isAgg298,z66:=Tryz.sizeOf298,v66:=Tryz.zeroValue298,
 t70:=Tryz.underlying296,a70:=Tryz.isAgg296,z70:=Tryz.sizeOf296,v70:=Tryz.zeroValue296,
 t76:=Tryz.underlying304,a76:=Tryz.isAgg304,z76:=Tryz.sizeOf304,v76:=Tryz.zeroValue304,
 t77:=Tryz.underlying127,a77:=Tryz.isAgg127,z77:=Tryz.sizeOf127,v77:=Tryz.zeroValue127 }
theorem io180(l:List Record)(hn:Z3 l)(hlen:l.length < 4611686018427387904) :
  A1f Tryz.prog 180 141 none false 54 3 (l.map c54) ((Ad6 l).map c54):=by
 have h:=Av6 (P:=Tryz.prog) (ρ:=renSk) (β:=Bk3) (enc:=Bf1) (k:=3) laysSk ⟨_,Tryz.func180,by kernel_rfl,by kernel_rfl⟩ 141 54
  (fun args w=>X6 ⟨_,Tryz.func141,by kernel_rfl,by kernel_rfl⟩ w) (fun _=>by kernel_rfl) (fun _=>by kernel_rfl) (fun _=>rfl) Bf0 totRB
  (fun x y=>B1a x.1 y.1 (by have:=W5 x.2;unfold szR;omega) (by have:=W5 y.2;unfold szR;omega)) (l.map B2c) (by simpa using hlen)
 have e1:(l.map B2c).map Bf1=l.map c54:=by
  conv=>rhs;rw[← Aq1 hn,List.map_map]
  rfl
 have e2:(B6d Bf0 (l.map B2c)).map Bf1=(Ad6 l).map c54:=by
  unfold Ad6 srtB
  rw[List.map_map]
  rfl
 rw[e1,e2]at h
 exact h
theorem B8i(a b:Record)(ha:szR a)(hb:szR b):Con Tryz.prog 182 [.agg (c54 a),.agg (c54 b)] (.b (eqR a b)) :=
 by
 refine sC A9 [.tmp 4] 9 Tryz.func182 ?_
 intro e0 cx
 refine sq<|rG cx [2,3] [2,3] z0<|sn<|sq<|rG cx [4] [] (fT (B1a (a) (b) (by(with_reducible assumption)) (by(with_reducible assumption))) (tB 3 (F0 a b=0) (oA 2 (.i .i64 (F0 a b)) z0)))<|sn<|rT<|qR (.b (decide (F0 a b=0))) (.eq ?g0);rotate_left
 case g0=>exact rfl
def B6k(l:List Record)(q k:Int)(m:List Record):Prop:=m=J0 (l.take q.toNat)++l.drop k.toNat∧k=((J0 (l.take q.toNat)).length:Int)
def Bf6(l:List Record)(k:Int)(m:List Record):Prop:=m=l∧1≤k∧k≤l.length∧∀ j:Nat,1≤j→(j:Int) < k→eqR l[j]! l[j-1]! = false
def decC1(l:List Record)(k:Int)(m:List Record):Nat:=(l.length-k).toNat
def B6l(l:List Record)(k0:Int)(k k2:Int)(m:List Record):Prop:=1≤k2∧k0+k2≤l.length∧k0≤k∧k≤k0+k2-1∧m.length=l.length∧B6k l (k0+k2) k m
def decC2(l:List Record)(k0:Int)(k k2:Int)(m:List Record):Nat:=(l.length-k0-k2).toNat
theorem Ac7{out:List Record}{b:Go.E.Blk}{n m:Nat}(hb:b.k=.row m (out.map c54))(h:n < out.length):Go.E.rowAt b n (c54 out[n]!):=by
 unfold Go.E.rowAt
 rw[hb]
 exact H0 h
theorem A55{l m:List Record}{q k:Int}(h:B6k l q k m){j:Nat}(h1:k≤j)(h2:j < l.length):m[j]! = l[j]!:=by
 obtain⟨e,hk⟩:=h
 have hlen:m.length=(J0 (l.take q.toNat)).length+(l.length-k.toNat):=by rw[e,List.length_append,List.length_drop]
 rw[getElem!_pos m j (by omega),getElem!_pos l j h2]
 simp only [e]
 rw[List.getElem_append_right (by omega),List.getElem_drop]
 congr 1
 omega
theorem Bf7{l m:List Record}{q k:Int}(h1:1≤q)(hq:q < l.length)(hk:k < l.length)(he:eqR l[q.toNat]! l[q.toNat-1]! = false)(h:B6k l q k m):B6k l (q+1) (k+1) (m.set k.toNat l[q.toNat]!):=by
 obtain⟨e,hl⟩:=h
 have hs:J0 (l.take (q+1).toNat)=J0 (l.take q.toNat)++[l[q.toNat]!]:=by
  unfold J0
  rw[show(q+1).toNat=q.toNat+1 by omega,A0m eqR (by omega) (by omega),he]
  rfl
 refine⟨?_,by rw[hs,List.length_append,List.length_singleton];omega⟩
 rw[hs,e,List.set_append_right _ _ (by omega),show k.toNat-(J0 (l.take q.toNat)).length=0 by omega,List.drop_eq_getElem_cons (show k.toNat < l.length by omega),show(k+1).toNat=k.toNat+1 by omega,List.append_assoc]
 rfl
theorem Bf8{l m:List Record}{q k:Int}(h1:1≤q)(hq:q < l.length)(he:eqR l[q.toNat]! l[q.toNat-1]! = true)(h:B6k l q k m):B6k l (q+1) k m:=by
 obtain⟨e,hl⟩:=h
 have hs:J0 (l.take (q+1).toNat)=J0 (l.take q.toNat):=by
  unfold J0
  rw[show(q+1).toNat=q.toNat+1 by omega,A0m eqR (by omega) (by omega),he]
  simp
 exact⟨by rw[hs];exact e,by rw[hs];exact hl⟩
theorem B6m{l:List Record}{k:Int}(h1:1≤k)(hk:k < l.length)(h:∀ j:Nat,1≤j→(j:Int) < k→eqR l[j]! l[j-1]! = false)(he:eqR l[k.toNat]! l[(k-1).toNat]! = true):B6k l (k+1) k l:=by
 have hs:J0 (l.take (k+1).toNat)=l.take k.toNat:=by
  unfold J0
  rw[show(k+1).toNat=k.toNat+1 by omega,A0m eqR (by omega) (by omega),← show(k-1).toNat=k.toNat-1 by omega,he,A2j eqR l k.toNat (by omega) (fun j h1 h2=>h j h1 (by omega))]
  simp
 refine⟨by rw[hs,List.take_append_drop],by rw[hs,List.length_take];omega⟩
theorem cm_end{l m:List Record}{q k:Int}(hq:q=l.length)(h:B6k l q k m):m.take k.toNat=J0 l:=by
 obtain⟨e,hl⟩:=h
 rw[List.take_of_length_le (by omega)]at e hl
 rw[e,List.take_append_of_le_length (by omega),List.take_of_length_le (by omega)]
theorem cm_all{l:List Record}{k:Int}(hk:¬ k < l.length)(h:∀ j:Nat,1≤j→(j:Int) < k→eqR l[j]! l[j-1]! = false):l=J0 l:=by
 have:=A2j eqR l l.length (Nat.le_refl _) (fun j h1 h2=>h j h1 (by omega))
 rw[List.take_length]at this
 exact this.symm
theorem B6n{l:List Record}(h:(l.length:Int) < 2):l=J0 l:=by
 match l,h with
 | [],_=>rfl
 | [a],_=>rfl
 | a :: b :: l,h=>simp only [List.length_cons]at h;omega
theorem A2l{α:Type}(c:α→List AV){m m':List α}{k:Int}(h0:0≤k)(h1:k≤m.length)(h:m'.length=m.length):((List.take ((none:Option Int).getD ((List.map c m).length:Int)-k).toNat (List.drop k.toNat (List.map c m'))).length:Int)=m.length-k:=by
 simp only [List.length_take,List.length_drop,List.length_map,Option.getD_none]
 omega
theorem cm_no(c:Record→List AV)(m:List Record):(none:Option Int).getD ((List.map c m).length:Int)=m.length:=by simp
theorem cm_cut{m X Y:List Record}{k:Nat}(h:k≤m.length):List.take k (List.take k m++X++Y)=m.take k:=by
 rw[List.append_assoc,List.take_append_of_le_length (by rw[List.length_take];omega),List.take_take,Nat.min_self]
theorem con181(l:List Record)(hs:B3k l)(hl:l.length≤1000000000000000):Bj4 Tryz.prog 181 54 3 (l.map c54) [.fn (.func 182) [] []] ((J0 l).map c54) :=
 by
 have nn:=fun m:List Record=>cm_no c54 m
 refine Az8 A9 (by kernel_rfl) (.tmp 4) 66 Tryz.func181 (by kernel_rfl) (by kernel_rfl) (by(with_reducible refine O0 (fun _=>?_) _);kernel_rfl) (by(with_reducible refine O0 (fun _=>?_) _);kernel_rfl) ?_
 intro e0 cx
 refine sq<|rG cx [0,1] [0] z0<|sn<|sq<|rD cx [0,1,10] [0] (tL 1 c54 l (zB 2 ((↑l.length:Int) <(2:Int)))) (fun hh0=>?_) fun hh0=>?_
 refine sq<|rG cx [4] [0] z0<|sn<|rT<|nR<|A5x (rows':=(List.map c54 l)) .ret (.inr rfl) 4 0 0 (by kernel_rfl) (by kernel_rfl) (by kernel_rfl) (by rw[← B6n hh0])
 refine sK<|sn<|sq<|sq<|rG cx [0,1,5] [0] z0<|sn<|bL 0<|sL (X:=Int×List Record) (fun x=>⟨[(0,.own 0 0),(1,.fn (Fn.func (182:FuncId)) [] []),(5,.i .i64 (x.1))],[(0,⟨0,54,.row 3 (List.map c54 x.2)⟩)]⟩) (fun x ↦ decC1 l x.1 x.2) (fun x ↦ Bf6 l x.1 x.2) [0,1,5] [0] (((1:Int),l)) (show Bf6 l (1:Int) l from(by exact⟨rfl,by omega,by omega,fun j h1 h2=>by omega⟩)) ?_
 rintro⟨k1,m2⟩ h_3
 obtain⟨hh4,hh5,h6,h7⟩:m2=l∧1≤k1∧k1≤(↑l.length:Int)∧∀(j:Nat),(1:Nat)≤j→(↑j:Int) < k1→eqR l[j]! l[j-(1:Nat)]! = false:=h_3
 refine sq<|rD cx [0,1,5,15] [0] (tL 2 c54 m2 (zB 3 (k1 <(↑m2.length:Int)))) (fun h8=>?_) fun h8=>?_
 refine sK<|sn<|sq<|bL 1<|sq<|rA cx [0,1,5,28] [0] (fO (0≤k1) (fP (k1.toNat <(List.map c54 m2).length) (by(first | omega | (simp only [List.length_map];omega))) (fR 3 (fP (E.rowAt { ver:=0,ty:=54,k:=BK.row (3) (List.map c54 m2):Blk } k1.toNat (c54 m2[k1.toNat]!)) (by subst hh4;exact Ac7 rfl (by omega)) (fP (0+(3:Nat)≤(c54 m2[k1.toNat]!).length) (by exact Nat.le_refl 3) (tW 7 (k1-1) (fO (0≤k1-1) (fP ((k1-1).toNat <(List.map c54 m2).length) (by(first | omega | (simp only [List.length_map];omega))) (fR 3 (fP (E.rowAt { ver:=0,ty:=54,k:=BK.row (3) (List.map c54 m2):Blk } (k1-1).toNat (c54 m2[(k1-1).toNat]!)) (by subst hh4;exact Ac7 rfl (by omega)) (fP (0+(3:Nat)≤(c54 m2[(k1-1).toNat]!).length) (by exact Nat.le_refl 3) (fT (B8i (m2[k1.toNat]!) (m2[(k1-1).toNat]!) (by subst hh4;exact hs _ (E3 (by omega))) (by subst hh4;exact hs _ (E3 (by omega)))) (oR 4 (c54 m2[k1.toNat]!) (oR 9 (c54 m2[(k1-1).toNat]!) (oA 10 (.b (eqR m2[k1.toNat]! m2[(k1-1).toNat]!)) z0))))))))))))))) ?_
 refine sn<|Y1 (eqR m2[k1.toNat]! m2[(k1-1).toNat]!) (by kernel_rfl) (by kernel_rfl) (fun h9=>?_) (fun h9=>?_)
 refine sq<|rG cx [0,1,5,6] [0] (fO (0≤k1) (fP (k1≤none.getD (↑(List.map c54 m2).length:Int)) (by rw[nn];omega) (fP (none.getD (↑(List.map c54 m2).length:Int)≤(↑(List.map c54 m2).length:Int)) (by rw[nn,List.length_map];exact Int.le_refl _) (fP (k1 <(↑(List.map c54 m2).length:Int)) (by(first | omega | (simp only [List.length_map];omega))) (fR (some (3)) z0))))) ?_
 refine sn<|sq<|sq<|rG cx [0,1,5,6,7] [0] z0<|sn<|bL 2<|sL (X:=Int×Int×List Record) (fun x=>⟨[(0,.own 0 0),(1,.fn (Fn.func (182:FuncId)) [] []),(5,.i .i64 (x.1)),(6,.vw (0) (0) (k1.toNat) ((none.getD (↑(List.map c54 m2).length:Int)-k1).toNat)),(7,.i .i64 (x.2.1))],[(0,⟨0,54,.row 3 (List.map c54 x.2.2)⟩)]⟩) (fun x ↦ decC2 l k1 x.1 x.2.1 x.2.2) (fun x ↦ B6l l k1 x.1 x.2.1 x.2.2) [0,1,5,6,7] [0] ((k1,(1:Int),m2)) (show B6l l k1 k1 (1:Int) m2 from(by subst hh4;exact⟨by omega,by omega,by omega,by omega,rfl,B6m hh5 h8 h7 h9⟩)) ?_
 rintro⟨k10,k11,m12⟩ h_13
 obtain⟨h14,h15,h16,h17,h18,h19⟩:1≤k11∧k1+k11≤(↑l.length:Int)∧k1≤k10∧k10≤k1+k11-1∧m12.length=l.length∧B6k l (k1+k11) k10 m12:=h_13
 refine sq<|rD cx [0,1,5,6,7,35] [0] (zB 3 (k11 <(↑(List.take (none.getD (↑(List.map c54 m2).length:Int)-k1).toNat (List.drop k1.toNat (List.map c54 m12))).length:Int))) (fun h20=>?_) fun h20=>?_
 refine sK<|sn<|sq<|bL 3<|sq<|rA cx [0,1,5,6,7,49] [0] (fO (0≤k11) (fP (k11.toNat <(none.getD (↑(List.map c54 m2).length:Int)-k1).toNat) (by subst hh4;rw[A2l _ (by omega) h6 h18]at h20;rw[nn];omega) (fR 3 (fP (E.rowAt { ver:=0,ty:=54,k:=BK.row (3) (List.map c54 m12):Blk } (k1.toNat+k11.toNat) (c54 m12[k1.toNat+k11.toNat]!)) (by subst hh4;rw[A2l _ (by omega) h6 h18]at h20;exact Ac7 rfl (by omega)) (fP (0+(3:Nat)≤(c54 m12[k1.toNat+k11.toNat]!).length) (by exact Nat.le_refl 3) (tW 7 (k11-1) (fO (0≤k11-1) (fP ((k11-1).toNat <(none.getD (↑(List.map c54 m2).length:Int)-k1).toNat) (by subst hh4;rw[A2l _ (by omega) h6 h18]at h20;rw[nn];omega) (fR 3 (fP (E.rowAt { ver:=0,ty:=54,k:=BK.row (3) (List.map c54 m12):Blk } (k1.toNat+(k11-1).toNat) (c54 m12[k1.toNat+(k11-1).toNat]!)) (by subst hh4;rw[A2l _ (by omega) h6 h18]at h20;exact Ac7 rfl (by omega)) (fP (0+(3:Nat)≤(c54 m12[k1.toNat+(k11-1).toNat]!).length) (by exact Nat.le_refl 3) (fT (B8i (m12[k1.toNat+k11.toNat]!) (m12[k1.toNat+(k11-1).toNat]!) (by subst hh4;rw[A2l _ (by omega) h6 h18]at h20;rw[A55 h19 (by omega) (by omega)];exact hs _ (E3 (by omega))) (by subst hh4;rw[A2l _ (by omega) h6 h18]at h20;rw[A55 h19 (by omega) (by omega)];exact hs _ (E3 (by omega)))) (tT 11 (E2:(AV.b !eqR m12[k1.toNat+k11.toNat]! m12[k1.toNat+(k11-1).toNat]!)=AV.b (decide ¬eqR m12[k1.toNat+k11.toNat]! m12[k1.toNat+(k11-1).toNat]! = true)) (oR 4 (c54 m12[k1.toNat+k11.toNat]!) (oR 9 (c54 m12[k1.toNat+(k11-1).toNat]!) (oA 10 (.b (eqR m12[k1.toNat+k11.toNat]! m12[k1.toNat+(k11-1).toNat]!)) z0)))))))))))))))) ?_
 refine sn<|dC (¬eqR m12[k1.toNat+k11.toNat]! m12[k1.toNat+(k11-1).toNat]! = true) (fun h21=>?_) fun h21=>?_
 refine sq<|rG cx [0,1,5,6,7] [0] (fO (0≤k11) (fP (k11.toNat <(none.getD (↑(List.map c54 m2).length:Int)-k1).toNat) (by subst hh4;rw[A2l _ (by omega) h6 h18]at h20;rw[nn];omega) (fR 3 (fP (E.rowAt { ver:=0,ty:=54,k:=BK.row (3) (List.map c54 m12):Blk } (k1.toNat+k11.toNat) (c54 m12[k1.toNat+k11.toNat]!)) (by subst hh4;rw[A2l _ (by omega) h6 h18]at h20;exact Ac7 rfl (by omega)) (fP (0+(3:Nat)≤(c54 m12[k1.toNat+k11.toNat]!).length) (by exact Nat.le_refl 3) (fO (0≤k10) (fP (k10.toNat <(List.map c54 m12).length) (by(first | omega | (simp only [List.length_map];omega))) (fR 3 (fG c54 m12 k10.toNat (fR 3 (fP (0+(3:Nat)≤3) (by(first | omega | (simp only [List.length_map];omega))) (fP ((List.map c54 m12).set k10.toNat (List.take (0) (c54 m12[k10.toNat]!)++D7 (AV.agg [AV.s m12[k1.toNat+k11.toNat]!.sku,AV.sl (List.map c3 m12[k1.toNat+k11.toNat]!.past.vec),AV.sl (List.map B1 m12[k1.toNat+k11.toNat]!.past.cloud)])++List.drop (0+(3:Nat)) (c54 m12[k10.toNat]!))=List.map c54 (m12.set k10.toNat m12[k1.toNat+k11.toNat]!)) (by(with_reducible refine A2d ?_;kernel_rfl)) (oR 5 (c54 m12[k1.toNat+k11.toNat]!) (oV 7 { row:=(c54 m12[k10.toNat]!),rows:=some (List.map c54 (m12.set k10.toNat m12[k1.toNat+k11.toNat]!)) } z0)))))))))))))) ?_
 refine sn<|rG cx [0,1,5,6,7] [0] (tW 1 (k10+1) z0)<|bN<|sn<|rG cx [0,1,5,6,7] [0] (tW 1 (k11+1) z0)<|sn<|nX ((k10+1,k11+1,m12.set k10.toNat m12[k1.toNat+k11.toNat]!)) (show((↑l.length:Int)-k1-(k11+1)).toNat <((↑l.length:Int)-k1-k11).toNat from(by subst hh4;rw[A2l _ (by omega) h6 h18]at h20;omega)) (show B6l l k1 (k10+1) (k11+1) (m12.set k10.toNat m12[k1.toNat+k11.toNat]!)from ?g23);rotate_left
 refine sK<|bN<|sn<|rG cx [0,1,5,6,7] [0] (tW 1 (k11+1) z0)<|sn<|nX ((k10,k11+1,m12)) (show((↑l.length:Int)-k1-(k11+1)).toNat <((↑l.length:Int)-k1-k11).toNat from(by subst hh4;rw[A2l _ (by omega) h6 h18]at h20;omega)) (show B6l l k1 k10 (k11+1) m12 from ?g25);rotate_left
 refine eX 2<|nE<|nE<|bH<|sn<|sq<|rG cx [0,5] [0] (fO (0≤k10) (fP (k10≤none.getD (↑(List.map c54 m12).length:Int)) (by rw[nn];omega) (fP (none.getD (↑(List.map c54 m12).length:Int)≤(↑(List.map c54 m12).length:Int)) (by rw[nn,List.length_map];exact Int.le_refl _) (fP (k10 <(↑(List.map c54 m12).length:Int)) (by(first | omega | (simp only [List.length_map];omega))) (fR (some (3)) (fR 3 (fR 3 (fP (ZLe [AV.s { data:=#[]:ByteArray },AV.nl,AV.nl] [AV.s { sku:={ data:=#[]:ByteArray },past:={ vec:=[],cloud:=[]:Past }:Record }.sku,AV.sl (List.map c3 { sku:={ data:=#[]:ByteArray },past:={ vec:=[],cloud:=[]:Past }:Record }.past.vec),AV.sl (List.map B1 { sku:={ data:=#[]:ByteArray },past:={ vec:=[],cloud:=[]:Past }:Record }.past.cloud)]) (by exact ZLe.cons (B9.refl _) (ZLe.cons B9.nl (ZLe.cons B9.nl ZLe.nil))) (fP ((0:Nat) <(none.getD (↑(List.map c54 m12).length:Int)-k10).toNat) (by rw[nn];omega) (fP (k10.toNat+(none.getD (↑(List.map c54 m12).length:Int)-k10).toNat≤(List.map c54 m12).length) (by rw[nn,List.length_map];omega) (fP (List.take k10.toNat (List.map c54 m12)++List.replicate (none.getD (↑(List.map c54 m12).length:Int)-k10).toNat [AV.s { sku:={ data:=#[]:ByteArray },past:={ vec:=[],cloud:=[]:Past }:Record }.sku,AV.sl (List.map c3 { sku:={ data:=#[]:ByteArray },past:={ vec:=[],cloud:=[]:Past }:Record }.past.vec),AV.sl (List.map B1 { sku:={ data:=#[]:ByteArray },past:={ vec:=[],cloud:=[]:Past }:Record }.past.cloud)]++List.drop (k10.toNat+(none.getD (↑(List.map c54 m12).length:Int)-k10).toNat) (List.map c54 m12)=List.map c54 (List.take k10.toNat m12++List.replicate (none.getD (↑(List.map c54 m12).length:Int)-k10).toNat { sku:={ data:=#[]:ByteArray },past:={ vec:=[],cloud:=[]:Past }:Record }++List.drop (k10.toNat+(none.getD (↑(List.map c54 m12).length:Int)-k10).toNat) m12)) (by(with_reducible refine B9b ?_;kernel_rfl)) (oV 3 { row:=[.s ({ sku:={ data:=#[]:ByteArray },past:={ vec:=[],cloud:=[]:Past }:Record }.sku),.sl (List.map c3 { sku:={ data:=#[]:ByteArray },past:={ vec:=[],cloud:=[]:Past }:Record }.past.vec),.sl (List.map B1 { sku:={ data:=#[]:ByteArray },past:={ vec:=[],cloud:=[]:Past }:Record }.past.cloud)],rows:=some (List.map c54 (List.take k10.toNat m12++List.replicate (none.getD (↑(List.map c54 m12).length:Int)-k10).toNat { sku:={ data:=#[]:ByteArray },past:={ vec:=[],cloud:=[]:Past }:Record }++List.drop (k10.toNat+(none.getD (↑(List.map c54 m12).length:Int)-k10).toNat) m12)) } z0)))))))))))) ?_
 refine sn<|sq<|rG cx [4] [0] (fR (0:Int) (fO (0≤k10) (fP (k10≤(↑(List.map c54 (List.take k10.toNat m12++List.replicate (none.getD (↑(List.map c54 m12).length:Int)-k10).toNat { sku:={ data:=#[]:ByteArray },past:={ vec:=[],cloud:=[]:Past }:Record }++List.drop (k10.toNat+(none.getD (↑(List.map c54 m12).length:Int)-k10).toNat) m12)).length:Int)) (by rw[List.length_map,List.length_append,List.length_append,List.length_take];omega) (fR (some (3)) (fP (List.take k10.toNat (List.map c54 (List.take k10.toNat m12++List.replicate (none.getD (↑(List.map c54 m12).length:Int)-k10).toNat { sku:={ data:=#[]:ByteArray },past:={ vec:=[],cloud:=[]:Past }:Record }++List.drop (k10.toNat+(none.getD (↑(List.map c54 m12).length:Int)-k10).toNat) m12))=List.map c54 (List.take k10.toNat (List.take k10.toNat m12++List.replicate (none.getD (↑(List.map c54 m12).length:Int)-k10).toNat { sku:={ data:=#[]:ByteArray },past:={ vec:=[],cloud:=[]:Past }:Record }++List.drop (k10.toNat+(none.getD (↑(List.map c54 m12).length:Int)-k10).toNat) m12))) (by(with_reducible exact List.map_take.symm)) (oV 2 { rows:=some (List.map c54 (List.take k10.toNat (List.take k10.toNat m12++List.replicate (none.getD (↑(List.map c54 m12).length:Int)-k10).toNat { sku:={ data:=#[]:ByteArray },past:={ vec:=[],cloud:=[]:Past }:Record }++List.drop (k10.toNat+(none.getD (↑(List.map c54 m12).length:Int)-k10).toNat) m12))),flat:=true } z0)))))) ?_
 refine sn<|rT<|bR<|nR<|nR<|bR<|nR<|A5x (rows':=(List.map c54 (List.take k10.toNat (List.take k10.toNat m12++List.replicate (none.getD (↑(List.map c54 m12).length:Int)-k10).toNat { sku:={ data:=#[]:ByteArray },past:={ vec:=[],cloud:=[]:Past }:Record }++List.drop (k10.toNat+(none.getD (↑(List.map c54 m12).length:Int)-k10).toNat) m12)))) .ret (.inr rfl) 4 0 0 (by kernel_rfl) (by kernel_rfl) (by kernel_rfl) ?g32;rotate_left
 refine sK<|bN<|sn<|rG cx [0,1,5] [0] (tW 1 (k1+1) z0)<|sn<|nX ((k1+1,m2)) (show((↑l.length:Int)-(k1+1)).toNat <((↑l.length:Int)-k1).toNat from(by subst hh4;omega)) (show Bf6 l (k1+1) m2 from ?g34);rotate_left
 refine eX 0<|nE<|nE<|bH<|sn<|sq<|rG cx [4] [0] z0<|sn<|rT<|A5x (rows':=(List.map c54 m2)) .ret (.inr rfl) 4 0 0 (by kernel_rfl) (by kernel_rfl) (by kernel_rfl) (by subst hh4;rw[← cm_all h8 h7])
 case g23 =>
  subst hh4
  rw[A2l _ (by omega) h6 h18]at h20
  rw[A55 h19 (by omega) (by omega),A55 h19 (by omega) (by omega)]at h21
  rw[A55 h19 (by omega) (by omega)]
  have e1:k1.toNat+k11.toNat=(k1+k11).toNat:=by omega
  have e2:k1.toNat+(k11-1).toNat=(k1+k11).toNat-1:=by omega
  rw[e1,e2]at h21
  rw[e1]
  refine⟨by omega,by omega,by omega,by omega,by rw[List.length_set];exact h18,?_⟩
  rw[show k1+(k11+1)=k1+k11+1 by omega]
  exact Bf7 (by omega) (by omega) (by omega) (by simpa using h21) h19
 case g25 =>
  subst hh4
  rw[A2l _ (by omega) h6 h18]at h20
  rw[A55 h19 (by omega) (by omega),A55 h19 (by omega) (by omega)]at h21
  have e1:k1.toNat+k11.toNat=(k1+k11).toNat:=by omega
  have e2:k1.toNat+(k11-1).toNat=(k1+k11).toNat-1:=by omega
  rw[e1,e2]at h21
  refine⟨by omega,by omega,by omega,by omega,h18,?_⟩
  rw[show k1+(k11+1)=k1+k11+1 by omega]
  exact Bf8 (by omega) (by omega) (Classical.not_not.1 h21) h19
 case g32 =>
  subst hh4
  rw[A2l _ (by omega) h6 h18]at h20
  rw[cm_cut (by omega),cm_end (by omega) h19]
 case g34 =>
  subst hh4
  refine⟨rfl,by omega,by omega,fun j hj1 hj2=>?_⟩
  by_cases c:j=k1.toNat
  ·subst c;rw[← show(k1-1).toNat=k1.toNat-1 by omega];exact h9
  ·exact h7 j hj1 (by omega)
theorem B6o(l:List Record):(Ad6 l).length=l.length:=by
 unfold Ad6 srtB
 rw[List.length_map,(U7 Bf0 (l.map B2c)).length_eq,List.length_map]
theorem Ai3{r:Record}:Ac3 r=true↔¬(¬ r.sku=noneS∧¬ K0 r.sku=true):=by
 unfold Ac3
 rw[Bool.or_eq_true,decide_eq_true_iff]
 constructor
 ·rintro(h | h) ⟨h1,h2⟩
  ·exact h1 h
  ·exact h2 h
 ·intro h
  by_cases c:r.sku=noneS
  ·exact .inl c
  ·exact .inr (Classical.byContradiction fun k=>h ⟨c,k⟩)
theorem Aq8{rs:List Record}{i:Int}(h0:0≤i)(hi:i < rs.length)(h:¬ rs[i.toNat]!.sku=noneS∧¬ K0 rs[i.toNat]!.sku=true):H1 rs=([],5):=by
 unfold H1
 rw[if_neg]
 intro k
 exact Ai3.1 (List.all_eq_true.1 k _ (E3 (by omega))) h
theorem B2k{rs:List Record}{i:Int}(hi:¬ i < rs.length)(h:∀ j:Nat,(j:Int) < i→Ac3 rs[j]! = true):H1 rs=(Bf2 (lsR rs),0):=by
 unfold H1
 rw[if_pos]
 rw[List.all_eq_true]
 intro r hr
 obtain⟨j,hj,rfl⟩:=List.mem_iff_getElem.1 hr
 have:=h j (by omega)
 rwa [getElem!_pos rs j hj]at this
theorem B2l{rs:List Record}{i:Int}(h0:0≤i)(hi:i < rs.length):lsR (rs.take (i+1).toNat)=lsR (rs.take i.toNat)++(if B5 rs[i.toNat]!.past=0 then[]else[clnR rs[i.toNat]!]):=by
 unfold lsR
 rw[← D3 h0 hi,List.filter_append,List.map_append]
 congr 1
 generalize rs[i.toNat]! = r
 by_cases h:B5 r.past=0
 ·rw[if_pos h,List.filter_cons_of_neg (by rw[decide_eq_true_iff];exact fun k=>k h)];rfl
 ·rw[if_neg h,List.filter_cons_of_pos (by rw[decide_eq_true_iff];exact h)];rfl
def B6p(rs:List Record)(i:Int)(out:List Record):Prop:=0≤i∧i≤rs.length∧(out.length:Int)≤i∧(∀ j:Nat,(j:Int) < i→Ac3 rs[j]! = true)∧out=lsR (rs.take i.toNat)
def decKs(rs:List Record)(i:Int)(out:List Record):Nat:=(rs.length-i).toNat
theorem B8j(rs:List Record)(hb:B3k rs)(hl:rs.length*64≤140737488350000):Con Tryz.prog 118 [.sl (rs.map c54)] (.tup [.sl ((H1 rs).1.map c54),.i .i64 (H1 rs).2]) :=
 by
 refine lN 0 c54 (rs) Tryz.func118 fun hl_0=>sC A9 [.tmp 2,.tmp 3] 36 Tryz.func118 ?_
 intro e0 cx
 refine sq<|rG cx [0] [] z0<|sn<|sq<|rG cx [0,4] [] z0<|sn<|sq<|sq<|rG cx [4,7,8,9] [] (tL 1 c54 rs z0)<|sn<|bL 0<|E9 4 1004 54 3 (σ':=⟨[(4,.own 1004 0),(7,.sl (List.map c54 rs)),(8,.i .i64 ((↑rs.length:Int))),(9,.i .i64 ((0:Int)))],[(1004,⟨0,54,.row 3 (List.map c54 [])⟩)]⟩) (by kernel_rfl)<|sL (X:=Int×List Record) (fun x=>⟨[(4,.own 1004 0),(7,.sl (List.map c54 rs)),(8,.i .i64 ((↑rs.length:Int))),(9,.i .i64 (x.1))],[(1004,⟨0,54,.row 3 (List.map c54 x.2)⟩)]⟩) (fun x ↦ decKs rs x.1 x.2) (fun x ↦ B6p rs x.1 x.2) [4,7,8,9] [1004] (((0:Int),[])) (show B6p rs (0:Int) []from(by exact⟨by omega,by omega,by simp,fun j hj=>by omega,by simp [lsR]⟩)) ?_
 rintro⟨i0,o1⟩ h_2
 obtain⟨hh3,hh4,hh5,hh6,hh7⟩:0≤i0∧i0≤(↑rs.length:Int)∧(↑o1.length:Int)≤i0∧(∀(j:Nat),(↑j:Int) < i0→Ac3 rs[j]! = true)∧o1=lsR (List.take i0.toNat rs):=h_2
 refine rE cx [4,7,8,9,10] [1004] (zB 0 (i0 <(↑rs.length:Int))) (fun h8=>?_) fun h8=>?_
 refine sK<|sn<|sq<|bL 1<|sq<|rG cx [4,7,8,9,6] [1004,6] (fA (0≤i0) (fG c54 rs i0.toNat (fR 3 (fN 3 3 (oR 0 (c54 rs[i0.toNat]!) z0)))))<|sn<|sq<|sq<|B3 (σ':=⟨[(4,.own 1004 0),(7,.sl (List.map c54 rs)),(8,.i .i64 ((↑rs.length:Int))),(9,.i .i64 (i0)),(6,.ptr (6) (0) (0) (0)),(21,.b (decide (¬rs[i0.toNat]!.sku={ data:=#[]:ByteArray }∧¬K0 rs[i0.toNat]!.sku=true)))],[(1004,⟨0,54,.row 3 (List.map c54 o1)⟩),(6,⟨0,54,.var [.s (rs[i0.toNat]!.sku),.sl (List.map c3 rs[i0.toNat]!.past.vec),.sl (List.map B1 rs[i0.toNat]!.past.cloud)]⟩)]⟩) ?_ ?_
 refine A5 (¬rs[i0.toNat]!.sku={ data:=#[]:ByteArray }) (fun h_10=>?_) (fun h_10=>?_)
 refine rG cx [4,7,8,9,6,21] [1004,6] (tT 2 (A3y h_10:(AV.b !rs[i0.toNat]!.sku.toList == { data:=#[]:ByteArray }.toList)=AV.b true) (fT (B15 (rs[i0.toNat]!.sku)) (tT 7 (E2:(AV.b !K0 rs[i0.toNat]!.sku)=AV.b (decide ¬K0 rs[i0.toNat]!.sku=true)) (tD 8 (decide ¬K0 rs[i0.toNat]!.sku=true) (¬rs[i0.toNat]!.sku={ data:=#[]:ByteArray }∧¬K0 rs[i0.toNat]!.sku=true) (by simp only [eq_false h_10,tsl]) (oA 6 (.b (K0 rs[i0.toNat]!.sku)) z0))))) ?_
 exact⟨rfl,by kernel_rfl⟩
 refine rG cx [4,7,8,9,6,21] [1004,6] (tT 2 (A7b:(AV.b !rs[i0.toNat]!.sku.toList == { data:=#[]:ByteArray }.toList)=AV.b (decide ¬rs[i0.toNat]!.sku={ data:=#[]:ByteArray })) (tT 3 (A0 h_10) (tT 8 (by first | (simp only [eq_false h_10,tsl];done) | simp_all:AV.b false=AV.b (decide (¬rs[i0.toNat]!.sku={ data:=#[]:ByteArray }∧¬K0 rs[i0.toNat]!.sku=true))) z0))) ?_
 exact⟨rfl,by kernel_rfl⟩
 refine sn<|dC (¬rs[i0.toNat]!.sku={ data:=#[]:ByteArray }∧¬K0 rs[i0.toNat]!.sku=true) (fun h11=>?_) fun h11=>?_
 refine sq<|rG cx [2,3] [] z0<|sn<|rT<|nR<|bR<|nR<|nR<|bR<|nR<|qR (.tup [.nl,.i .i64 ((5:Int))]) (B9.tup (ZLe.cons (B9.nl' (show List.map c54 (H1 rs).1=[]from(by rw[Aq8 hh3 h8 h11];rfl))) (ZLe.cons (B9.eq (show AV.i .i64 5=AV.i .i64 (H1 rs).2 from(by rw[Aq8 hh3 h8 h11]))) ZLe.nil)))
 refine sK<|sn<|sq<|rG cx [4,7,8,9,6,25] [1004,6] (fT (B54 (rs[i0.toNat]!.past) (by exact Y9 hb hh3 h8)) (tQ 3 (B5 rs[i0.toNat]!.past=0) (oA 2 (.b (decide (B5 rs[i0.toNat]!.past=0))) z0))) ?_
 refine sn<|dC (¬B5 rs[i0.toNat]!.past=0) (fun h12=>?_) fun h12=>?_
 refine rG cx [4,7,8,9] [1004] (fT (B1j (rs[i0.toNat]!) (by exact Y9 hb hh3 h8)) (fR 54 (fR 3 (fR 3 (fX c54 [{ sku:=rs[i0.toNat]!.sku,past:=A3 rs[i0.toNat]!.past:Record }] 3 (fS c54 o1 c54 [{ sku:=rs[i0.toNat]!.sku,past:=A3 rs[i0.toNat]!.past:Record }] (fP (((List.map c54 o1).length+(List.map c54 [{ sku:=rs[i0.toNat]!.sku,past:=A3 rs[i0.toNat]!.past:Record }]).length)*(64:Nat)≤(140737488355328:Nat)) (by(simp only [Go.maxLen,List.length_map,List.length_append,List.length_cons,List.length_nil];omega)) (fM c54 o1 [{ sku:=rs[i0.toNat]!.sku,past:=A3 rs[i0.toNat]!.past:Record }] (oA 2 (.agg [.s ({ sku:=rs[i0.toNat]!.sku,past:=A3 rs[i0.toNat]!.past:Record }.sku),.sl (List.map c3 { sku:=rs[i0.toNat]!.sku,past:=A3 rs[i0.toNat]!.past:Record }.past.vec),.sl (List.map B1 { sku:=rs[i0.toNat]!.sku,past:=A3 rs[i0.toNat]!.past:Record }.past.cloud)]) (oV 4 { rows:=some (List.map c54 (o1++[{ sku:=rs[i0.toNat]!.sku,past:=A3 rs[i0.toNat]!.past:Record }])) } z0)))))))))) ?_
 refine bN<|sn<|rG cx [4,7,8,9] [1004] (tW 0 (i0+1) z0)<|sn<|nX ((i0+1,o1++[{ sku:=rs[i0.toNat]!.sku,past:=A3 rs[i0.toNat]!.past:Record }])) (show((↑rs.length:Int)-(i0+1)).toNat <((↑rs.length:Int)-i0).toNat from(by omega)) (show B6p rs (i0+1) (o1++[{ sku:=rs[i0.toNat]!.sku,past:=A3 rs[i0.toNat]!.past:Record }])from ?g5);rotate_left
 refine sK<|bN<|sn<|rG cx [4,7,8,9] [1004] (tW 0 (i0+1) z0)<|sn<|nX ((i0+1,o1)) (show((↑rs.length:Int)-(i0+1)).toNat <((↑rs.length:Int)-i0).toNat from(by omega)) (show B6p rs (i0+1) o1 from ?g6);rotate_left
 refine eX 0<|nE<|nE<|bH<|sn<|sq<|rG cx [4] [1004] (fP (A1f Tryz.prog (180:FuncId) (141:FuncId) none false (54:Nat) (3:Nat) (List.map c54 o1) (List.map c54 (Ad6 o1))) (io180 (o1) (by rw[hh7];exact B6g _) (by omega)) (oV 1 { rows:=some (List.map c54 (Ad6 o1)) } z0)) ?_
 refine sn<|sq<|rG cx [2,3] [1004] (fT (con181 (Ad6 o1) (by exact Aq3 (A52 _)) (by rw[B6o];omega)) (oV 1 { val:=some (.vw (0) (0) (0) (0)),rows:=some (List.map c54 (J0 (Ad6 o1))) } z0)) ?_
 refine sn<|rT<|qR (.tup [.sl (((E.look [(1,{ val:=some (AV.vw (0) (0) (0) (0)),rows:=some (List.map c54 (J0 (Ad6 o1))):Ov })] (1)).getD {:Ov }).rows.getD []),.i .i64 ((0:Int))]) (B9.tup (ZLe.cons (B9.eq (show AV.sl (((E.look [(1,{ val:=some (AV.vw (0) (0) (0) (0)),rows:=some (List.map c54 (J0 (Ad6 o1))):Ov })] (1)).getD {:Ov }).rows.getD [])=AV.sl (List.map c54 (H1 rs).1)from ?g11)) (ZLe.cons (B9.eq (show AV.i .i64 0=AV.i .i64 (H1 rs).2 from(by rw[B2k h8 hh6]))) ZLe.nil)));rotate_left
 case g5 =>
  refine⟨by omega,by omega,by rw[List.length_append,List.length_singleton];omega,fun j hj=>?_,?_⟩
  ·by_cases e:j=i0.toNat
   ·rw[e];exact Ai3.2 h11
   ·exact hh6 j (by omega)
  ·rw[B2l hh3 h8,if_neg h12,hh7];rfl
 case g6 =>
  refine⟨by omega,by omega,by omega,fun j hj=>?_,?_⟩
  ·by_cases e:j=i0.toNat
   ·rw[e];exact Ai3.2 h11
   ·exact hh6 j (by omega)
  ·rw[B2l hh3 h8,if_pos (Classical.not_not.1 h12),hh7,List.append_nil]
 case g11 =>
  rw[B2k h8 hh6]
  rw[List.take_of_length_le (by omega)]at hh7
  rw[hh7]
  rfl
end Go.Proofs.YtphcaholhacnpaaGreat
namespace Go.Proofs.YtphcaholhacnpaaGreat
open Go.E
set_option maxRecDepth 100000
set_option maxHeartbeats 4000000
theorem B2m(rs:List Record)(e:Entry){i:Int}(h0:0≤i)(h1:i < rs.length):G8 (rs.take (i+1).toNat) e=G8 (rs.take i.toNat) e+if T0 rs[i.toNat]! e=true then 1 else 0:=by
 unfold G8
 rw[← D3 h0 h1,List.filter_append,List.length_append]
 generalize rs[i.toNat]! = x
 split
 ·rename_i h;simp [List.filter_cons,h]
 ·rename_i h;simp [List.filter_cons,h]
end Go.Proofs.YtphcaholhacnpaaGreat
namespace Go.Proofs.YtphcaholhacnpaaGreat
open Go.E
set_option maxRecDepth 100000
set_option maxHeartbeats 4000000
theorem Bf9{a b:Dot}:dLt a b=true↔a.rep < b.rep∨a.rep=b.rep∧a.num < b.num:=by simp [dLt]
theorem B2n{a b c:Dot}(h1:dLt a b=true)(h2:dLt b c=true):dLt a c=true:=by rw[Bf9]at *;omega
def upE(es:List Entry):Prop:=es.Pairwise (fun a b=>dLt a.dot b.dot=true)
def Ai4(es:List Entry):Prop:=(∀ e∈es,A0s e=0)∧upE es
theorem Bg0(es:List Entry):okL es=true↔Ai4 es:=by
 constructor
 ·intro h
  refine⟨fun e he=>?_,?_⟩
  ·obtain⟨i,hi,rfl⟩:=List.mem_iff_getElem.1 he
   have:=(A2w h hi).1
   rwa [getElem!_pos es i hi]at this
  ·unfold upE
   rw[List.pairwise_iff_getElem]
   have step:∀ n i:Nat,(hi:i+n+1 < es.length)→dLt es[i]!.dot es[i+n+1]!.dot=true:=by
    intro n
    induction n with
    | zero =>
     intro i hi
     have:=(A2w h hi).2
     rcases this with k | k
     ·omega
     ·simpa using k
    | succ n ih =>
     intro i hi
     have h1:=ih i (by omega)
     have h2:=(A2w h (i:=i+(n+1)+1) hi).2
     rcases h2 with k | k
     ·omega
     ·rw[show i+(n+1)+1-1=i+n+1 by omega]at k;exact B2n h1 k
   intro i j hi hj hij
   have:=step (j-i-1) i (by omega)
   rw[show i+(j-i-1)+1=j by omega,getElem!_pos es i hi,getElem!_pos es j hj]at this
   exact this
 ·rintro⟨h1,h2⟩
  unfold upE at h2
  rw[List.pairwise_iff_getElem]at h2
  unfold okL
  rw[J7]
  intro i hi
  rw[A0i]
  refine⟨h1 _ (B4s hi),?_⟩
  by_cases e:i=0
  ·exact .inl e
  ·refine .inr ?_
   have:=h2 (i-1) i (by omega) hi (by omega)
   rwa [getElem!_pos es (i-1) (by omega),getElem!_pos es i hi]
theorem A2m(es:List Entry):E5 es=0↔Ai4 es:=by
 rw[← Bg0]
 exact⟨Z0,fun h=>by unfold E5;rw[if_pos h]⟩
theorem Q8{l es:List Entry}(h:Ai4 es)(hs:l.Sublist es):Ai4 l:=⟨fun e he=>h.1 e (hs.subset he),List.Pairwise.sublist hs h.2⟩
end Go.Proofs.YtphcaholhacnpaaGreat
namespace Go.Proofs.YtphcaholhacnpaaGreat
open Go.E
set_option maxRecDepth 100000
set_option maxHeartbeats 4000000
noncomputable def B8(f:Facts):List Entry:=(f.adds.filter fun e=>C8 f.gone e.dot == false).filter fun e=>decide (G8 f.recs e=0)
noncomputable def F2(f:Facts):List Entry×Int:=if okF f=true then(B8 f,0)else([],1)
def C6(es:List Entry):Past:=E4 (ofT (es.map fun e=>e.dot))
noncomputable def H5(f:Facts):Past×Int:=if okF f=true then(C2 [C6 f.adds,f.gone],0)else(⟨[],[]⟩,1)
def szB(n:Nat)(f:Facts):Prop:=szF f∧f.recs.length≤n*1048576∧A5o f.recs≤n*1099512676352
theorem B6q{n m:Nat}{f:Facts}(h:szB n f)(hm:n≤m):szB m f:=⟨h.1,Nat.le_trans h.2.1 (Nat.mul_le_mul_right _ hm),Nat.le_trans h.2.2 (Nat.mul_le_mul_right _ hm)⟩
theorem B2o{n:Nat}{f:Facts}(h:szB n f)(hn:n≤7):tokR f.recs:=⟨by have:=h.2.2;omega,by have:=h.2.1;omega⟩
theorem A8i{es:List Entry}(h:E5 es=0):C5 es=(C6 es,0):=by unfold C5;rw[if_pos (Z0 h)];rfl
theorem Q9(es:List Entry):C6 es=A3 (C6 es):=(A1t _).symm
theorem B6r{f:Facts}(h:okF f=true):Y5 [(C5 f.adds).1,f.gone]*16≤140737488350000:=by
 rw[A8i (D9.1 h).1]
 have h1:=W5 (Q9 f.adds)
 have h2:=W5 (D9.1 h).2.1
 have e:Y5 [C6 f.adds,f.gone]=(C6 f.adds).cloud.length+1+(f.gone.cloud.length+1):=by simp [Y5]
 show Y5 [C6 f.adds,f.gone]*16≤_
 rw[e]
 omega
theorem Ai5{f:Facts}(h:okF f=true):F6 f.adds f.gone false=(f.adds.filter (fun e=>C8 f.gone e.dot == false),0):=by
 unfold F6
 rw[if_pos ⟨Z0 (D9.1 h).1,(D9.1 h).2.1⟩]
theorem A6r{f:Facts}(h:okF f=true):H7 (F6 f.adds f.gone false).1 f.recs=F2 f:=by
 rw[Ai5 h]
 unfold H7 F2
 rw[if_pos h,if_pos ⟨(A2m _).2 (Q8 ((A2m _).1 (D9.1 h).1) List.filter_sublist),(D9.1 h).2.2⟩]
 rfl
theorem B2p{f:Facts}(h:¬ A2z f=0):F2 f=([],1):=by unfold F2;rw[if_neg (fun k=>h (A0n.2 k))]
theorem Ai6{f:Facts}(h:¬ A2z f=0):H5 f=(⟨[],[]⟩,1):=by unfold H5;rw[if_neg (fun k=>h (A0n.2 k))]
theorem Ai7{f:Facts}(h:okF f=true):H5 f=(C2 [C6 f.adds,f.gone],0):=by unfold H5;rw[if_pos h]
theorem B8k(f:Facts)(hb:szB 7 f):Con Tryz.prog 111 [.agg (c36 f)] (.tup [.sl ((F2 f).1.map c46),.i .i64 (F2 f).2]) :=
 by
 have y:¬¬A2z f=0→okF f=true:=fun h=>A0n.1 (Classical.not_not.1 h)
 refine sC A9 [.tmp 2,.tmp 3] 26 Tryz.func111 ?_
 intro e0 cx
 refine sq<|rG cx [1] [1] z0<|sn<|sq<|sq<|rG cx [1,8] [1] (fT (Aq4 (f) (by exact hb.1)) (tN 2 (A2z f) (0:Int) (oA 1 (.i .i64 (A2z f)) z0))) ?_
 refine sn<|dC (¬A2z f=0) (fun h0=>?_) fun h0=>?_
 refine sq<|rG cx [2,3] [] z0<|sn<|rT<|nR<|qR (.tup [.nl,.i .i64 ((1:Int))]) (B9.tup (ZLe.cons (B9.nl' (show List.map c46 (F2 f).1=[]from(by rw[B2p h0];rfl))) (ZLe.cons (B9.eq (show AV.i .i64 1=AV.i .i64 (F2 f).2 from(by rw[B2p h0]))) ZLe.nil)))
 refine sK<|sn<|sq<|rG cx [1,4,5] [1] (fT (Bf5 (f.adds) (f.gone) (by exact hb.1.1.1)) (oA 4 (.tup [.sl (List.map c46 (F6 f.adds f.gone false).1),.i .i64 ((F6 f.adds f.gone false).2)]) z0)) ?_
 refine sn<|sq<|sq<|rG cx [1,4,5,18] [1] (tN 1 ((F6 f.adds f.gone false).2) (0:Int) z0)<|sn<|dC (¬(F6 f.adds f.gone false).2=0) (fun h1=>?_) fun h1=>?_
 refine sq<|rG cx [2,3] [] z0<|sn<|rT<|nR<|qR (.tup [.nl,.i .i64 ((F6 f.adds f.gone false).2)]) (B9.tup (ZLe.cons (B9.nl' (show List.map c46 (F2 f).1=[]from(by exact absurd (by rw[Ai5 (y h0)]) h1))) (ZLe.cons (B9.eq (show AV.i .i64 (F6 f.adds f.gone false).2=AV.i .i64 (F2 f).2 from(by exact absurd (by rw[Ai5 (y h0)]) h1))) ZLe.nil)))
 refine sK<|sn<|sq<|rG cx [2,3] [] (fT (con96 ((F6 f.adds f.gone false).1) (f.recs) (by exact Ah7 hb.1.2) (by exact B2o hb (Nat.le_refl _))) (oA 3 (.tup [.sl (List.map c46 (H7 (F6 f.adds f.gone false).1 f.recs).1),.i .i64 ((H7 (F6 f.adds f.gone false).1 f.recs).2)]) z0)) ?_
 refine sn<|rT<|qR (.tup [.sl (List.map c46 (H7 (F6 f.adds f.gone false).1 f.recs).1),.i .i64 ((H7 (F6 f.adds f.gone false).1 f.recs).2)]) (B9.tup (ZLe.cons (B9.eq (show AV.sl (List.map c46 (H7 (F6 f.adds f.gone false).1 f.recs).1)=AV.sl (List.map c46 (F2 f).1)from(by rw[A6r (y h0)]))) (ZLe.cons (B9.eq (show AV.i .i64 (H7 (F6 f.adds f.gone false).1 f.recs).2=AV.i .i64 (F2 f).2 from(by rw[A6r (y h0)]))) ZLe.nil)))
theorem B8l(f:Facts)(hb:szF f):Con Tryz.prog 112 [.agg (c36 f)] (.tup [.agg (c26 (H5 f).1),.i .i64 (H5 f).2]) :=
 by
 have y:¬¬A2z f=0→okF f=true:=fun h=>A0n.1 (Classical.not_not.1 h)
 refine sC A9 [.cell 2 26,.tmp 3] 22 Tryz.func112 ?_
 intro e0 cx
 refine sq<|rG cx [1,2] [1,2] z0<|sn<|sq<|sq<|rG cx [1,2,8] [1,2] (fT (Aq4 (f) (by(with_reducible assumption))) (tN 2 (A2z f) (0:Int) (oA 1 (.i .i64 (A2z f)) z0)))<|sn<|dC (¬A2z f=0) (fun h0=>?_) fun h0=>?_
 refine sq<|rG cx [2,3] [2] z0<|sn<|rT<|nR<|qR (.tup [.agg [.nl,.nl],.i .i64 ((1:Int))]) (B9.tup (ZLe.cons (B9.agg (ZLe.cons (B9.nl' (show List.map c3 (H5 f).1.vec=[]from(by rw[Ai6 h0];rfl))) (ZLe.cons (B9.nl' (show List.map B1 (H5 f).1.cloud=[]from(by rw[Ai6 h0];rfl))) ZLe.nil))) (ZLe.cons (B9.eq (show AV.i .i64 1=AV.i .i64 (H5 f).2 from(by rw[Ai6 h0]))) ZLe.nil)))
 refine sK<|sn<|sq<|rG cx [1,2,4,5] [1,2,4] (fT (A54 (f.adds)) (oA 2 (.tup [.agg [.sl (List.map c3 (C5 f.adds).1.vec),.sl (List.map B1 (C5 f.adds).1.cloud)],.i .i64 ((C5 f.adds).2)]) z0))<|sn<|sq<|rG cx [2,3] [2] (fT (B5c ([(C5 f.adds).1,f.gone]) (by exact B6r (y h0))) (oA 4 (.agg [.sl (List.map c3 (C2 [(C5 f.adds).1,f.gone]).vec),.sl (List.map B1 (C2 [(C5 f.adds).1,f.gone]).cloud)]) z0)) ?_
 refine sn<|rT<|qR (.tup [.agg [.sl (List.map c3 (C2 [(C5 f.adds).1,f.gone]).vec),.sl (List.map B1 (C2 [(C5 f.adds).1,f.gone]).cloud)],.i .i64 ((C5 f.adds).2)]) (B9.tup (ZLe.cons (B9.eq (show AV.agg [AV.sl (List.map c3 (C2 [(C5 f.adds).1,f.gone]).vec),AV.sl (List.map B1 (C2 [(C5 f.adds).1,f.gone]).cloud)]=AV.agg [AV.sl (List.map c3 (H5 f).1.vec),AV.sl (List.map B1 (H5 f).1.cloud)]from(by rw[Ai7 (y h0),A8i (D9.1 (y h0)).1]))) (ZLe.cons (B9.eq (show AV.i .i64 (C5 f.adds).2=AV.i .i64 (H5 f).2 from(by rw[Ai7 (y h0),A8i (D9.1 (y h0)).1]))) ZLe.nil)))
end Go.Proofs.YtphcaholhacnpaaGreat
namespace Go.Proofs.YtphcaholhacnpaaGreat
open Go.E
set_option maxRecDepth 100000
set_option maxHeartbeats 4000000
theorem H9{f:Facts}:okF f=true↔Ai4 f.adds∧f.gone=A3 f.gone∧B16 f.recs:=by rw[D9,A2m,A0h]
theorem B2q:okF Ai1=true:=H9.2 ⟨⟨fun e he=>(by cases he),List.Pairwise.nil⟩,A4h.symm,⟨fun r hr=>(by cases hr),List.Pairwise.nil⟩⟩
theorem A8j{f:Facts}{e:Entry}:e∈B8 f↔e∈f.adds∧C8 f.gone e.dot=false∧G8 f.recs e=0:=by
 unfold B8
 rw[List.mem_filter,List.mem_filter,decide_eq_true_iff,beq_iff_eq,and_assoc]
theorem Z4{f:Facts}(h:okF f=true):Ai4 (B8 f):=Q8 (Q8 (H9.1 h).1 List.filter_sublist) List.filter_sublist
theorem Ai8{f:Facts}(h:okF f=true):F2 f=(B8 f,0):=by unfold F2;rw[if_pos h]
theorem J4{es:List Entry}(h:Ai4 es)(d:Dot):C8 (C6 es) d=true↔∃ e∈es,e.dot=d:=by
 unfold C6
 rw[has_of]
 constructor
 ·rintro⟨_,k⟩
  exact List.mem_map.1 k
 ·rintro⟨e,he,k⟩
  refine⟨?_,List.mem_map.2 ⟨e,he,k⟩⟩
  have:=Aa5 (h.1 e he)
  rw[← k]
  unfold N1
  rw[decide_eq_true_eq]
  exact this
theorem B6s{a b:List Record}(h:a.Sublist b):A5o a≤A5o b:=by
 induction h with
 | slnil=>exact Nat.le_refl _
 | cons x h ih=>simp only [A5o,List.map_cons,List.sum_cons]at *;omega
 | cons_cons x h ih=>simp only [A5o,List.map_cons,List.sum_cons]at *;omega
end Go.Proofs.YtphcaholhacnpaaGreat
namespace Go.Proofs.YtphcaholhacnpaaGreat
open Go.E
set_option maxRecDepth 100000
set_option maxHeartbeats 4000000
def B8m(s:ByteArray)(r:Int)(e:Entry):Bool:=decide ((s=noneS∨e.sku=s)∧(r < 0∨e.dot.rep=r))
def Ai9(s:ByteArray)(r:Int)(es:List Entry)(i:Int)(l:List Dot):Prop:=l=((es.take i.toNat).filter (B8m s r)).map fun e=>e.dot
def A6s(s:ByteArray)(r:Int)(es:List Entry)(i:Int)(l:List Dot):Prop:=0≤i∧i≤es.length∧(l.length:Int)≤i∧Ai9 s r es i l
def decSel(es:List Entry)(i:Int)(l:List Dot):Nat:=(es.length-i).toNat
def L1(es:List Entry)(s:ByteArray)(r:Int):Past:=E4 (ofT ((es.filter (B8m s r)).map fun e=>e.dot))
theorem A56{p:Entry→Bool}{es:List Entry}{i:Int}(h0:0≤i)(h:i < es.length):(es.take (i+1).toNat).filter p=(es.take i.toNat).filter p++(if p es[i.toNat]! = true then[es[i.toNat]!]else[]):=by
 rw[← D3 h0 h,List.filter_append,List.filter_cons,List.filter_nil]
theorem B2r{s:ByteArray}{r:Int}{e:Entry}:(s=noneS∧(r < 0∨e.dot.rep=r)∨¬ s=noneS∧e.sku=s∧(r < 0∨e.dot.rep=r))↔B8m s r e=true:=by
 unfold B8m
 rw[decide_eq_true_iff]
 by_cases k:s=noneS
 ·simp [k]
 ·simp [k]
theorem Bg1{s:ByteArray}{r:Int}{es:List Entry}{i:Int}{l:List Dot}(h0:0≤i)(h:i < es.length)(hl:(l.length:Int)≤i)(hs:Ai9 s r es i l)(k:B8m s r es[i.toNat]! = true):A6s s r es (i+1) (l++[es[i.toNat]!.dot]):=by
 refine⟨by omega,by omega,by rw[List.length_append,List.length_cons,List.length_nil];omega,?_⟩
 unfold Ai9 at hs ⊢
 rw[A56 h0 h,if_pos k,List.map_append,← hs]
 rfl
theorem sel_no{s:ByteArray}{r:Int}{es:List Entry}{i:Int}{l:List Dot}(h0:0≤i)(h:i < es.length)(hl:(l.length:Int)≤i)(hs:Ai9 s r es i l)(k:¬ B8m s r es[i.toNat]! = true):A6s s r es (i+1) l:=by
 refine⟨by omega,by omega,by omega,?_⟩
 unfold Ai9 at hs ⊢
 rw[A56 h0 h,if_neg k,List.append_nil,← hs]
theorem Aw0(es:List Entry)(s:ByteArray)(r:Int)(hs:es.length*40≤140737488351232):Con Tryz.prog 45 [.sl (es.map c46),.s s,.i .i64 r] (.agg (c26 (L1 es s r))) :=
 by
 refine lN 0 c46 (es) Tryz.func45 fun hl_0=>sC A9 [.cell 6 26] 50 Tryz.func45 ?_
 intro e0 cx
 refine sq<|rG cx [0,1,2,6] [6] z0<|sn<|sq<|rG cx [0,1,2,6,7] [6] z0<|sn<|sq<|sq<|rG cx [0,1,2,6,7,8] [6] z0<|sn<|bL 0<|E9 7 1007 44 2 (σ':=⟨[(0,.sl (List.map c46 es)),(1,.s (s)),(2,.i .i64 (r)),(6,.ptr (6) (0) (0) (0)),(7,.own 1007 0),(8,.i .i64 ((0:Int)))],[(6,⟨0,26,.var [.nl,.nl]⟩),(1007,⟨0,44,.row 2 (List.map c44 [])⟩)]⟩) (by kernel_rfl)<|sL (X:=Int×List Dot) (fun x=>⟨[(0,.sl (List.map c46 es)),(1,.s (s)),(2,.i .i64 (r)),(6,.ptr (6) (0) (0) (0)),(7,.own 1007 0),(8,.i .i64 (x.1))],[(6,⟨0,26,.var [.nl,.nl]⟩),(1007,⟨0,44,.row 2 (List.map c44 x.2)⟩)]⟩) (fun x ↦ decSel es x.1 x.2) (fun x ↦ A6s s r es x.1 x.2) [0,1,2,6,7,8] [6,1007] (((0:Int),[])) (show A6s s r es (0:Int) []from(by exact⟨by omega,by omega,by simp,rfl⟩)) ?_
 rintro⟨i0,l1⟩ h_2
 obtain⟨hh3,hh4,hh5,h6⟩:0≤i0∧i0≤(↑es.length:Int)∧(↑l1.length:Int)≤i0∧Ai9 s r es i0 l1:=h_2
 refine sq<|rD cx [0,1,2,6,7,8,12] [6,1007] (tL 2 c46 es (zB 3 (i0 <(↑es.length:Int)))) (fun h7=>?_) fun h7=>?_
 refine sK<|sn<|sq<|bL 1<|sq<|B3 (σ':=⟨[(0,.sl (List.map c46 es)),(1,.s (s)),(2,.i .i64 (r)),(6,.ptr (6) (0) (0) (0)),(7,.own 1007 0),(8,.i .i64 (i0)),(39,.b (decide (s={ data:=#[]:ByteArray }∧(r <(0:Int)∨es[i0.toNat]!.dot.rep=r)∨¬s={ data:=#[]:ByteArray }∧es[i0.toNat]!.sku=s∧(r <(0:Int)∨es[i0.toNat]!.dot.rep=r))))],[(6,⟨0,26,.var [.nl,.nl]⟩),(1007,⟨0,44,.row 2 (List.map c44 l1)⟩)]⟩) ?_ ?_
 refine A5 (s={ data:=#[]:ByteArray }) (fun h_9=>?_) (fun h_9=>?_)
 refine A5 (r <(0:Int)) (fun h_10=>?_) (fun h_10=>?_)
 refine rG cx [0,1,2,6,7,8,39] [6,1007] (tT 1 (I5 h_9:AV.b (s.toList == { data:=#[]:ByteArray }.toList)=AV.b true) (tT 13 (A4 h_10) (tD 24 true (s={ data:=#[]:ByteArray }∧(r <(0:Int)∨es[i0.toNat]!.dot.rep=r)∨¬s={ data:=#[]:ByteArray }∧es[i0.toNat]!.sku=s∧(r <(0:Int)∨es[i0.toNat]!.dot.rep=r)) (by simp only [eq_true h_9,eq_true h_10,tsl]) z0))) ?_
 exact⟨rfl,by kernel_rfl⟩
 refine rG cx [0,1,2,6,7,8,39] [6,1007] (tT 1 (I5 h_9:AV.b (s.toList == { data:=#[]:ByteArray }.toList)=AV.b true) (tT 13 (A0 h_10) (fA (0≤i0) (fG c46 es i0.toNat (fR 4 (tB 22 (es[i0.toNat]!.dot.rep=r) (tD 24 (decide (es[i0.toNat]!.dot.rep=r)) (s={ data:=#[]:ByteArray }∧(r <(0:Int)∨es[i0.toNat]!.dot.rep=r)∨¬s={ data:=#[]:ByteArray }∧es[i0.toNat]!.sku=s∧(r <(0:Int)∨es[i0.toNat]!.dot.rep=r)) (by simp only [eq_true h_9,eq_false h_10,tsl]) (oR 17 (c46 es[i0.toNat]!) z0)))))))) ?_
 exact⟨rfl,by kernel_rfl⟩
 refine A5 (es[i0.toNat]!.sku=s) (fun h_11=>?_) (fun h_11=>?_)
 refine A5 (r <(0:Int)) (fun h_12=>?_) (fun h_12=>?_)
 refine rG cx [0,1,2,6,7,8,39] [6,1007] (tT 1 (G4 h_9:AV.b (s.toList == { data:=#[]:ByteArray }.toList)=AV.b false) (fA (0≤i0) (fG c46 es i0.toNat (fR 4 (tT 9 (I5 h_11:AV.b (es[i0.toNat]!.sku.toList == s.toList)=AV.b true) (tT 13 (A4 h_12) (tD 24 true (s={ data:=#[]:ByteArray }∧(r <(0:Int)∨es[i0.toNat]!.dot.rep=r)∨¬s={ data:=#[]:ByteArray }∧es[i0.toNat]!.sku=s∧(r <(0:Int)∨es[i0.toNat]!.dot.rep=r)) (by simp only [eq_false h_9,eq_true h_11,eq_true h_12,tsl]) (oR 5 (c46 es[i0.toNat]!) z0)))))))) ?_
 exact⟨rfl,by kernel_rfl⟩
 refine rG cx [0,1,2,6,7,8,39] [6,1007] (tT 1 (G4 h_9:AV.b (s.toList == { data:=#[]:ByteArray }.toList)=AV.b false) (fA (0≤i0) (fG c46 es i0.toNat (fR 4 (tT 9 (I5 h_11:AV.b (es[i0.toNat]!.sku.toList == s.toList)=AV.b true) (tT 13 (A0 h_12) (fA (0≤i0) (fG c46 es i0.toNat (fR 4 (tB 22 (es[i0.toNat]!.dot.rep=r) (tD 24 (decide (es[i0.toNat]!.dot.rep=r)) (s={ data:=#[]:ByteArray }∧(r <(0:Int)∨es[i0.toNat]!.dot.rep=r)∨¬s={ data:=#[]:ByteArray }∧es[i0.toNat]!.sku=s∧(r <(0:Int)∨es[i0.toNat]!.dot.rep=r)) (by simp only [eq_false h_9,eq_true h_11,eq_false h_12,tsl]) (oR 5 (c46 es[i0.toNat]!) (oR 17 (c46 es[i0.toNat]!) z0))))))))))))) ?_
 exact⟨rfl,by kernel_rfl⟩
 refine rG cx [0,1,2,6,7,8,39] [6,1007] (tT 1 (G4 h_9:AV.b (s.toList == { data:=#[]:ByteArray }.toList)=AV.b false) (fA (0≤i0) (fG c46 es i0.toNat (fR 4 (tT 9 (G4 h_11:AV.b (es[i0.toNat]!.sku.toList == s.toList)=AV.b false) (tD 24 false (s={ data:=#[]:ByteArray }∧(r <(0:Int)∨es[i0.toNat]!.dot.rep=r)∨¬s={ data:=#[]:ByteArray }∧es[i0.toNat]!.sku=s∧(r <(0:Int)∨es[i0.toNat]!.dot.rep=r)) (by simp only [eq_false h_9,eq_false h_11,tsl]) (oR 5 (c46 es[i0.toNat]!) z0))))))) ?_
 exact⟨rfl,by kernel_rfl⟩
 refine sn<|dC (s={ data:=#[]:ByteArray }∧(r <(0:Int)∨es[i0.toNat]!.dot.rep=r)∨¬s={ data:=#[]:ByteArray }∧es[i0.toNat]!.sku=s∧(r <(0:Int)∨es[i0.toNat]!.dot.rep=r)) (fun h13=>?_) fun h13=>?_
 refine rG cx [0,1,2,6,7,8] [6,1007] (fA (0≤i0) (fG c46 es i0.toNat (fR 4 (fN 2 4 (fR 44 (fR 2 (fR 2 (fX c44 [es[i0.toNat]!.dot] 2 (fS c44 l1 c44 [es[i0.toNat]!.dot] (fP (((List.map c44 l1).length+(List.map c44 [es[i0.toNat]!.dot]).length)*(16:Nat)≤(140737488355328:Nat)) (by(simp only [Go.maxLen,List.length_map,List.length_append,List.length_cons,List.length_nil];omega)) (fM c44 l1 [es[i0.toNat]!.dot] (oR 3 (c46 es[i0.toNat]!) (oV 7 { rows:=some (List.map c44 (l1++[es[i0.toNat]!.dot])) } z0)))))))))))))<|bN<|sn<|rG cx [0,1,2,6,7,8] [6,1007] (tW 1 (i0+1) z0)<|sn<|nX ((i0+1,l1++[es[i0.toNat]!.dot])) (show((↑es.length:Int)-(i0+1)).toNat <((↑es.length:Int)-i0).toNat from(by omega)) (show A6s s r es (i0+1) (l1++[es[i0.toNat]!.dot])from(by exact Bg1 hh3 h7 hh5 h6 (B2r.1 h13)))
 refine sK<|bN<|sn<|rG cx [0,1,2,6,7,8] [6,1007] (tW 1 (i0+1) z0)<|sn<|nX ((i0+1,l1)) (show((↑es.length:Int)-(i0+1)).toNat <((↑es.length:Int)-i0).toNat from(by omega)) (show A6s s r es (i0+1) l1 from(by exact sel_no hh3 h7 hh5 h6 fun k=>h13 (B2r.2 k)))
 refine eX 0<|nE<|nE<|bH<|sn<|sq<|rG cx [6] [6] (fT (con122 (l1) (by omega)) (oA 1 (.agg [.sl (List.map c3 (E4 (ofT l1)).vec),.sl (List.map B1 (E4 (ofT l1)).cloud)]) z0))<|sn<|rT<|qR (.agg [.sl (List.map c3 (E4 (ofT l1)).vec),.sl (List.map B1 (E4 (ofT l1)).cloud)]) (.eq ?g3);rotate_left
 case g3 =>
  unfold Ai9 at h6
  rw[List.take_of_length_le (by omega)]at h6
  rw[h6]
  rfl
end Go.Proofs.YtphcaholhacnpaaGreat
namespace Go.Proofs.YtphcaholhacnpaaGreat
open Go.E
set_option maxRecDepth 100000
set_option maxHeartbeats 4000000
structure Dig where
 heard:Past
 live:Past
 deriving Inhabited,DecidableEq
def c82(f:Facts):List AV:=[.sl (f.adds.map c46),.sl (f.gone.vec.map c3),.sl (f.gone.cloud.map B1),.sl (f.recs.map c54)]
def c84(d:Dig):List AV:=[.sl (d.heard.vec.map c3),.sl (d.heard.cloud.map B1),.sl (d.live.vec.map c3),.sl (d.live.cloud.map B1)]
end Go.Proofs.YtphcaholhacnpaaGreat
namespace Go.Proofs.YtphcaholhacnpaaGreat
open Go.E
set_option maxRecDepth 100000
set_option maxHeartbeats 4000000
def B4(f:Facts):Past:=C2 [C6 f.adds,f.gone]
noncomputable def stF(f:Facts):Facts:=⟨B8 f,B4 f,I3 f.recs (B4 f)⟩
def J6(s:Facts):Facts:=⟨s.adds,A7 s.gone (C6 s.adds),s.recs⟩
theorem B8n(s:Facts):∃ b:Bool,b=decide (okF s=true∧B5 (A7 (C6 s.adds) s.gone)=0∧(I3 s.recs s.gone).length=s.recs.length∧(s.adds.filter fun e=>decide (G8 s.recs e=0)).length=s.adds.length):=⟨_,rfl⟩
noncomputable def okS(s:Facts):Bool:=Classical.choose (B8n s)
theorem Ac8(s:Facts):okS s=decide (okF s=true∧B5 (A7 (C6 s.adds) s.gone)=0∧(I3 s.recs s.gone).length=s.recs.length∧(s.adds.filter fun e=>decide (G8 s.recs e=0)).length=s.adds.length):=Classical.choose_spec (B8n s)
noncomputable def A3j(s:Facts):Int:=if okS s=true then 0 else 1
theorem Z5{a b:Past}:B5 (A7 a b)=0↔∀ d,C8 a d=true→C8 b d=true:=by
 rw[A0f]
 constructor
 ·intro h d hd
  have:=h d
  rw[A16,hd]at this
  simpa using this
 ·intro h d
  rw[A16]
  cases c:C8 a d with
  | false=>rfl
  | true=>rw[h d c];rfl
theorem Aq9{α:Type}{p:α→Bool}{l:List α}:(l.filter p).length=l.length↔∀ x∈l,p x=true:=by
 constructor
 ·intro h x hx
  have:l.filter p=l:=List.Sublist.eq_of_length List.filter_sublist h
  rw[← this]at hx
  exact(List.mem_filter.1 hx).2
 ·intro h
  rw[List.filter_eq_self.2 h]
theorem M7{s:Facts}:okS s=true↔okF s=true∧(∀ e∈s.adds,C8 s.gone e.dot=true)∧(∀ r∈s.recs,¬ B5 (A7 r.past s.gone)=0)∧∀ e∈s.adds,G8 s.recs e=0:=by
 rw[Ac8,decide_eq_true_iff]
 unfold I3
 rw[Aq9,Aq9]
 constructor
 ·rintro⟨h1,h2,h3,h4⟩
  refine⟨h1,fun e he=>(Z5.1 h2) _ ((J4 (H9.1 h1).1 _).2 ⟨e,he,rfl⟩),fun r hr=>of_decide_eq_true (h3 r hr),fun e he=>of_decide_eq_true (h4 e he)⟩
 ·rintro⟨h1,h2,h3,h4⟩
  refine⟨h1,Z5.2 fun d hd=>?_,fun r hr=>decide_eq_true (h3 r hr),fun e he=>decide_eq_true (h4 e he)⟩
  obtain⟨e,he,rfl⟩:=(J4 (H9.1 h1).1 d).1 hd
  exact h2 e he
theorem Z6{s:Facts}:A3j s=0↔okS s=true:=by unfold A3j;split <;> simp_all
theorem A8k{α:Type}{p:α→Bool}{l:List α}(h:∀ x∈l,p x=true):l.filter p=l:=List.filter_eq_self.2 h
theorem Bg2{s:Facts}(h:okS s=true):I3 s.recs s.gone=s.recs:=A8k fun r hr=>decide_eq_true ((M7.1 h).2.2.1 r hr)
theorem B2s{f:Facts}(h1:∀ e∈f.adds,C8 f.gone e.dot=false)(h2:∀ e∈f.adds,G8 f.recs e=0):B8 f=f.adds:=by
 unfold B8
 rw[A8k (p:=fun e:Entry=>C8 f.gone e.dot == false) (fun e he=>by rw[h1 e he];rfl)]
 exact A8k fun e he=>decide_eq_true (h2 e he)
theorem A30{s:Facts}(h:okS s=true):okF (J6 s)=true:=by
 have k:=(M7.1 h).1
 rw[H9]at k ⊢
 exact⟨k.1,K8 _ _,k.2.2⟩
theorem Ar0{s:Facts}(h:okS s=true):B8 (J6 s)=s.adds:=by
 have k:=M7.1 h
 refine B2s (fun e he=>?_) k.2.2.2
 show C8 (A7 s.gone (C6 s.adds)) e.dot=false
 rw[A16,(J4 (H9.1 k.1).1 e.dot).2 ⟨e,he,rfl⟩]
 simp
theorem A25{f:Facts}(d:Dot):C8 (B4 f) d=(C8 (C6 f.adds) d || C8 f.gone d):=by
 unfold B4
 rw[A1v]
 simp
theorem J5(f:Facts):B4 f=A3 (B4 f):=Y6 _
theorem Ac9{s:Facts}(h:okS s=true):B4 (J6 s)=s.gone:=by
 have k:=M7.1 h
 refine Am5 (J5 _) (H9.1 k.1).2.1 fun d=>?_
 rw[A25]
 show(C8 (C6 s.adds) d || C8 (A7 s.gone (C6 s.adds)) d)=_
 rw[A16]
 cases c:C8 (C6 s.adds) d with
 | false=>simp
 | true =>
  obtain⟨e,he,rfl⟩:=(J4 (H9.1 k.1).1 d).1 c
  rw[k.2.1 e he]
  rfl
theorem st_exp{s:Facts}(h:okS s=true):stF (J6 s)=s:=by
 unfold stF
 rw[Ar0 h,Ac9 h]
 show(⟨s.adds,s.gone,I3 s.recs s.gone⟩:Facts)=s
 rw[Bg2 h]
theorem A57{rs:List Record}{p:Past}(h:B16 rs):B16 (I3 rs p):=⟨fun r hr=>h.1 r (List.mem_filter.1 hr).1,List.Pairwise.sublist List.filter_sublist h.2⟩
theorem Ar1{f:Facts}{e:Entry}(h:e∈B8 f):e∈f.adds:=(A8j.1 h).1
theorem Ar2{rs:List Record}{p:Record→Bool}{e:Entry}(h:G8 rs e=0):G8 (rs.filter p) e=0:=by
 rw[Z1]at h ⊢
 rintro⟨r,hr,k⟩
 exact h ⟨r,(List.mem_filter.1 hr).1,k⟩
theorem Aw1{f:Facts}(h:okF f=true):okS (stF f)=true:=by
 have k:=H9.1 h
 rw[M7]
 refine⟨H9.2 ⟨Z4 h,J5 f,A57 k.2.2⟩,fun e he=>?_,fun r hr=>?_,fun e he=>?_⟩
 ·show C8 (B4 f) e.dot=true
  rw[A25,(J4 k.1 e.dot).2 ⟨e,Ar1 he,rfl⟩]
  rfl
 ·exact of_decide_eq_true (List.mem_filter.1 hr).2
 ·exact Ar2 (A8j.1 he).2.2
def A3k(heard live:Past)(d:Dig):Past:=C2 [A7 (A7 heard live) d.heard,X2 (A7 heard live) d.live]
noncomputable def A8t(es:List Entry)(d:Dig):List Entry:=es.filter fun e=>C8 d.heard e.dot == false
noncomputable def H2(f:Facts)(d:Dig):Facts:=⟨A8t (B8 f) d,A3k (B4 f) (C6 (B8 f)) d,I3 f.recs (B4 f)⟩
noncomputable def A5s(s:Facts)(d:Dig):Facts:=⟨A8t s.adds d,C2 [C6 (A8t s.adds d),A3k s.gone (C6 s.adds) d],s.recs⟩
theorem A8l{h l:Past}{d:Dig}(x:Dot):C8 (A3k h l d) x=((C8 h x && !C8 l x) && (!C8 d.heard x || C8 d.live x)):=by
 unfold A3k
 rw[A1v]
 simp only [List.any_cons,List.any_nil,Bool.or_false]
 rw[A16,B0q,A16]
 cases C8 h x <;> cases C8 l x <;> cases C8 d.heard x <;> cases C8 d.live x <;> rfl
theorem A58{f:Facts}{d:Dig}(h:okF f=true):okF (H2 f d)=true :=
 H9.2 ⟨Q8 (Z4 h) List.filter_sublist,Y6 _,A57 (H9.1 h).2.2⟩
theorem B2t{f:Facts}{d:Dig}(h:okF f=true):stF (H2 f d)=A5s (stF f) d:=by
 have k:=H9.1 h
 have hl:∀ e∈A8t (B8 f) d,e∈B8 f:=fun e he=>(List.mem_filter.1 he).1
 have e1:B8 (H2 f d)=A8t (B8 f) d:=by
  refine B2s (f:=H2 f d) (fun e he=>?_) fun e he=>Ar2 (A8j.1 (hl e he)).2.2
  show C8 (A3k (B4 f) (C6 (B8 f)) d) e.dot=false
  rw[A8l,(J4 (Z4 h) e.dot).2 ⟨e,hl e he,rfl⟩]
  simp
 have e2:I3 (I3 f.recs (B4 f)) (B4 (H2 f d))=I3 f.recs (B4 f):=by
  refine A8k fun r hr=>decide_eq_true ?_
  have hw:=of_decide_eq_true (List.mem_filter.1 hr).2
  intro c
  refine hw (Z5.2 fun x hx=>?_)
  have y:=Z5.1 c x hx
  rw[A25]at y
  rcases Bool.or_eq_true _ _ ▸ y with y | y
  ·obtain⟨e,he,rfl⟩:=(J4 (Q8 (Z4 h) List.filter_sublist) x).1 y
   rw[A25,(J4 k.1 _).2 ⟨e,Ar1 (hl e he),rfl⟩]
   rfl
  ·have y:C8 (A3k (B4 f) (C6 (B8 f)) d) x=true:=y
   rw[A8l]at y
   cases z:C8 (B4 f) x with
   | true=>rfl
   | false=>rw[z]at y;simp at y
 unfold stF
 rw[e1]
 show(⟨A8t (B8 f) d,B4 (H2 f d),I3 (I3 f.recs (B4 f)) (B4 (H2 f d))⟩:Facts)=_
 rw[e2]
 rfl
theorem Ar3{s:Facts}{d:Dig}(h:okS s=true):stF (H2 (J6 s) d)=A5s s d:=by
 rw[B2t (A30 h),st_exp h]
end Go.Proofs.YtphcaholhacnpaaGreat
namespace Go.Proofs.YtphcaholhacnpaaGreat
open Go.E
set_option maxRecDepth 100000
set_option maxHeartbeats 4000000
theorem B2u{s:Facts}(h:¬E5 s.adds=0∨¬s.gone=A3 s.gone∨¬G0 s.recs=0):A3j s=1:=by
 unfold A3j
 rw[if_neg]
 intro k
 have k:=D9.1 (M7.1 k).1
 rcases h with h | h | h
 ·exact h k.1
 ·exact h k.2.1
 ·exact h k.2.2
theorem R7{s:Facts}(h:¬(¬E5 s.adds=0∨¬s.gone=A3 s.gone∨¬G0 s.recs=0)):okF s=true :=
 D9.2 ⟨Classical.not_not.1 fun k=>h (.inl k),Classical.not_not.1 fun k=>h (.inr (.inl k)),Classical.not_not.1 fun k=>h (.inr (.inr k))⟩
theorem Ar4{s:Facts}(h:okF s=true):P3 s.recs s.gone=(I3 s.recs s.gone,0):=A8g (D9.1 h).2.2 (D9.1 h).2.1
theorem Ad0{s:Facts}(h:okF s=true):H7 s.adds s.recs=(s.adds.filter fun e=>decide (G8 s.recs e=0),0):=by
 unfold H7
 rw[if_pos ⟨(D9.1 h).1,(D9.1 h).2.2⟩]
noncomputable def H8(d:Dig):Int:=if d.heard=A3 d.heard∧d.live=A3 d.live∧B5 (A7 d.live d.heard)=0 then 0 else 1
noncomputable def ofF(f:Facts):Dig×Int:=if okF f=true then(⟨B4 f,C6 (B8 f)⟩,0)else(⟨⟨[],[]⟩,⟨[],[]⟩⟩,1)
noncomputable def ofS(s:Facts):Dig×Int:=if okS s=true then(⟨s.gone,C6 s.adds⟩,0)else(⟨⟨[],[]⟩,⟨[],[]⟩⟩,1)
noncomputable def E8(f:Facts)(d:Dig):Facts×Int:=if okF f=true∧H8 d=0 then(H2 f d,0)else(Ai1,1)
noncomputable def D1(s:Facts)(d:Dig):Facts×Int:=if okS s=true∧H8 d=0 then(A5s s d,0)else(Ai1,1)
def szD(d:Dig):Prop:=szP d.heard∧szP d.live
theorem T3{p:Past}(h:p=A3 p):p.cloud.length*16≤140737488350000:=by have:=W5 h;omega
theorem Aj0(es:List Entry):(C5 es).1.cloud.length*16≤140737488350000:=by have:=B2i es;omega
theorem A8m{a b:Past}(ha:a=A3 a)(hb:b=A3 b):Y5 [a,b]*16≤140737488350000:=by
 have h1:=W5 ha
 have h2:=W5 hb
 have e:Y5 [a,b]=a.cloud.length+1+(b.cloud.length+1):=by simp [Y5]
 rw[e]
 omega
theorem A8n{f:Facts}(h:szB 7 f):f.recs.length*64≤140737488350000:=by have:=h.2.1;omega
theorem B2v{rs:List Record}(h:G0 rs=0):H1 rs=(rs,0):=by
 have k:=(A0h rs).1 h
 unfold H1
 rw[if_pos (B6i k.1),B6h k.1,← B6f (A2k h) k.2 (fun r=>Iff.rfl)]
theorem R8{es:List Entry}(h:E5 es=0):(C5 es).1=C6 es:=by rw[A8i h]
theorem B2w{s:Facts}(h:¬ okS s=true):A3j s=1:=by unfold A3j;rw[if_neg h]
theorem T4{s:Facts}(h:okS s=true):okF s=true:=(M7.1 h).1
theorem dig_no{d:Dig}(h:¬d.heard=A3 d.heard∨¬d.live=A3 d.live∨¬B5 (A7 d.live d.heard)=0):H8 d=1:=by
 unfold H8
 rw[if_neg]
 rintro⟨a,b,c⟩
 rcases h with h | h | h
 ·exact h a
 ·exact h b
 ·exact h c
theorem Bg3{d:Dig}(h:¬(¬d.heard=A3 d.heard∨¬d.live=A3 d.live∨¬B5 (A7 d.live d.heard)=0)):H8 d=0:=by
 unfold H8
 rw[if_pos ⟨Classical.not_not.1 fun k=>h (.inl k),Classical.not_not.1 fun k=>h (.inr (.inl k)),Classical.not_not.1 fun k=>h (.inr (.inr k))⟩]
theorem Ad1{d:Dig}(h:H8 d=0):d.heard=A3 d.heard∧d.live=A3 d.live∧B5 (A7 d.live d.heard)=0:=by
 unfold H8 at h
 split at h
 ·assumption
 ·omega
theorem X1{f:Facts}(h:¬ okF f=true):ofF f=(⟨⟨[],[]⟩,⟨[],[]⟩⟩,1):=by unfold ofF;rw[if_neg h]
theorem A31{f:Facts}(h:okF f=true):ofF f=(⟨B4 f,C6 (B8 f)⟩,0):=by unfold ofF;rw[if_pos h]
theorem A26{s:Facts}(h:¬ okS s=true):ofS s=(⟨⟨[],[]⟩,⟨[],[]⟩⟩,1):=by unfold ofS;rw[if_neg h]
theorem A0y{s:Facts}(h:okS s=true):ofS s=(⟨s.gone,C6 s.adds⟩,0):=by unfold ofS;rw[if_pos h]
theorem A1c{f:Facts}{d:Dig}(h:¬ okF f=true∨¬ H8 d=0):E8 f d=(Ai1,1):=by unfold E8;rw[if_neg (fun k=>h.elim (fun g=>g k.1) (fun g=>g k.2))]
theorem Z7{s:Facts}{d:Dig}(h:¬ okS s=true∨¬ H8 d=0):D1 s d=(Ai1,1):=by unfold D1;rw[if_neg (fun k=>h.elim (fun g=>g k.1) (fun g=>g k.2))]
theorem Z8{f:Facts}{d:Dig}(h:okF f=true)(k:H8 d=0):E8 f d=(H2 f d,0):=by unfold E8;rw[if_pos ⟨h,k⟩]
theorem Z9{s:Facts}{d:Dig}(h:okS s=true)(k:H8 d=0):D1 s d=(A5s s d,0):=by unfold D1;rw[if_pos ⟨h,k⟩]
theorem A0o{f:Facts}(h:¬(F2 f).2=0):¬ okF f=true∧(F2 f).2=1:=by
 by_cases k:okF f=true
 ·rw[Ai8 k]at h;exact absurd rfl h
 ·exact⟨k,by unfold F2;rw[if_neg k]⟩
theorem A27{f:Facts}(h:¬ ¬(F2 f).2=0):okF f=true:=by
 by_cases k:okF f=true
 ·exact k
 ·exact absurd (by unfold F2;rw[if_neg k];decide) h
theorem A8o{f:Facts}(h:okF f=true):E5 (B8 f)=0:=(A2m _).2 (Z4 h)
theorem A59{f:Facts}(h:okF f=true):H5 f=(B4 f,0):=Ai7 h
theorem A8p{es:List Entry}{d:Dig}(h:E5 es=0)(k:H8 d=0):F6 es d.heard false=(A8t es d,0):=by
 unfold F6
 rw[if_pos ⟨Z0 h,(Ad1 k).1⟩]
 rfl
theorem B2x{es:List Entry}{d:Dig}(h:E5 es=0):E5 (A8t es d)=0:=(A2m _).2 (Q8 ((A2m _).1 h) List.filter_sublist)
theorem N8{f:Facts}{d:Dig}(h:¬(¬A2z f=0∨¬H8 d=0)):okF f=true∧H8 d=0:=⟨A0n.1 (Classical.not_not.1 fun k=>h (.inl k)),Classical.not_not.1 fun k=>h (.inr k)⟩
theorem A28{s:Facts}{d:Dig}(h:¬(¬A3j s=0∨¬H8 d=0)):okS s=true∧H8 d=0:=⟨Z6.1 (Classical.not_not.1 fun k=>h (.inl k)),Classical.not_not.1 fun k=>h (.inr k)⟩
theorem Ad2{f:Facts}{d:Dig}(h:¬A2z f=0∨¬H8 d=0):E8 f d=(Ai1,1):=A1c (h.imp (fun k c=>k (A0n.2 c)) id)
theorem A5a{s:Facts}{d:Dig}(h:¬A3j s=0∨¬H8 d=0):D1 s d=(Ai1,1):=Z7 (h.imp (fun k c=>k (Z6.2 c)) id)
theorem A8q{f:Facts}(h:okF f=true):P3 f.recs (H5 f).1=(I3 f.recs (B4 f),0):=by
 rw[A59 h]
 exact A8g (D9.1 h).2.2 (J5 f)
theorem Ar5{rs:List Record}{p:Past}(h:G0 rs=0):G0 (I3 rs p)=0:=(A0h _).2 (A57 ((A0h _).1 h))
theorem A5b(rs:List Record)(p:Past):(I3 rs p).length≤rs.length:=List.length_filter_le _ _
theorem B2y(s:Facts)(hb:szB 7 s):Con Tryz.prog 115 [.agg (c82 s)] (.i .i64 (A3j s)) :=
 by
 refine sC A9 [.tmp 2] 64 Tryz.func115 ?_
 intro e0 cx
 refine sq<|rG cx [1] [1] z0<|sn<|sq<|sq<|B3 (σ':=⟨[(1,.ptr (1) (0) (0) (0)),(24,.b (decide (¬E5 s.adds=0∨¬s.gone=A3 s.gone∨¬G0 s.recs=0)))],[(1,⟨0,82,.var [.sl (List.map c46 s.adds),.sl (List.map c3 s.gone.vec),.sl (List.map B1 s.gone.cloud),.sl (List.map c54 s.recs)]⟩)]⟩) ?_ ?_
 refine A5 (¬E5 s.adds=0) (fun h1=>?_) (fun h1=>?_)
 refine rG cx [1,24] [1] (fT (A4l (s.adds)) (tT 3 (F3 h1:AV.b (E5 s.adds !=0)=AV.b true) (tD 15 true (¬E5 s.adds=0∨¬s.gone=A3 s.gone∨¬G0 s.recs=0) (by simp only [eq_false h1,tsl]) (oA 2 (.i .i64 (E5 s.adds)) z0)))) ?_
 exact⟨rfl,by kernel_rfl⟩
 refine A5 (¬s.gone=A3 s.gone) (fun h2=>?_) (fun h2=>?_)
 refine rg (A:=_∧(AV.b (E5 s.adds !=0)=AV.b (decide ¬E5 s.adds=0))∧_∧_∧_∧(AV.b true=AV.b (decide (¬E5 s.adds=0∨¬s.gone=A3 s.gone∨¬G0 s.recs=0)))) cx [(2,{ val:=some (.i .i64 (E5 s.adds)) }),(3,{ tell:=some (.b (decide ¬E5 s.adds=0)) }),(4,{ tell:=some (.b (false)) }),(7,{ val:=some (.b (decide (s.gone=A3 s.gone))),tell:=some (.b (false)) }),(15,{ tell:=some (.b (decide (¬E5 s.adds=0∨¬s.gone=A3 s.gone∨¬G0 s.recs=0))) })] [1,24] [1] ⟨(A4l (s.adds)),(A3c),(A0 h1),(A0 h2),(A2e (s.gone) (by exact hb.1.1.1)),(by first | (simp only [eq_false h1,eq_false h2,tsl];done) | simp_all)⟩ ?_
 exact⟨rfl,by kernel_rfl⟩
 refine rG cx [1,24] [1] (fT (A4l (s.adds)) (tN 3 (E5 s.adds) (0:Int) (tT 4 (A0 h1) (fT (A2e (s.gone) (by exact hb.1.1.1)) (tQ 8 (s.gone=A3 s.gone) (tT 9 (A0 h2) (fT (A6j (s.recs) (by exact Ah7 hb.1.2)) (tN 14 (G0 s.recs) (0:Int) (tT 15 (by first | (simp only [eq_false h1,eq_false h2,tsl];done) | simp_all:AV.b (decide ¬G0 s.recs=0)=AV.b (decide (¬E5 s.adds=0∨¬s.gone=A3 s.gone∨¬G0 s.recs=0))) (oA 2 (.i .i64 (E5 s.adds)) (oA 7 (.b (decide (s.gone=A3 s.gone))) (oA 13 (.i .i64 (G0 s.recs)) z0)))))))))))) ?_
 exact⟨rfl,by kernel_rfl⟩
 refine sn<|dC (¬E5 s.adds=0∨¬s.gone=A3 s.gone∨¬G0 s.recs=0) (fun h3=>?_) fun h3=>?_
 refine sq<|rG cx [2] [] z0<|sn<|rT<|nR<|qR (.i .i64 ((1:Int))) (.eq (by rw[B2u h3]))
 refine sK<|sn<|sq<|sq<|rG cx [1,3] [1,3] (fT (A54 (s.adds)) (oA 2 (.tup [.agg [.sl (List.map c3 (C5 s.adds).1.vec),.sl (List.map B1 (C5 s.adds).1.cloud)],.i .i64 ((C5 s.adds).2)]) z0))<|sn<|sq<|rG cx [1,35] [1] (fT (B26 ((C5 s.adds).1) (s.gone) (by exact Aj0 _) (by exact hb.1.1.1)) (tQ 4 (B5 (A7 (C5 s.adds).1 s.gone)=0) (oA 3 (.b (decide (B5 (A7 (C5 s.adds).1 s.gone)=0))) z0))) ?_
 refine sn<|dC (¬B5 (A7 (C5 s.adds).1 s.gone)=0) (fun h4=>?_) fun h4=>?_
 refine sq<|rG cx [2] [] z0<|sn<|rT<|nR<|qR (.i .i64 ((1:Int))) (.eq ?g6);rotate_left
 refine sK<|sn<|sq<|sq<|rG cx [1,5] [1] (fT (B8g (s.recs) (s.gone) (by exact Ah7 hb.1.2) (by exact A8n hb) (by exact hb.1.1.1)) (oA 4 (.tup [.sl (List.map c54 (P3 s.recs s.gone).1),.i .i64 ((P3 s.recs s.gone).2)]) z0)) ?_
 refine sn<|sq<|rG cx [1,49] [1] (tL 1 c54 ((P3 s.recs s.gone).1) (tL 4 c54 s.recs (tN 5 (↑(P3 s.recs s.gone).1.length:Int) (↑s.recs.length:Int) z0)))<|sn<|dC (¬(↑(P3 s.recs s.gone).1.length:Int)=(↑s.recs.length:Int)) (fun h5=>?_) fun h5=>?_
 refine sq<|rG cx [2] [] z0<|sn<|rT<|nR<|qR (.i .i64 ((1:Int))) (.eq ?g10);rotate_left
 refine sK<|sn<|sq<|sq<|rG cx [1,7] [1] (fT (con96 (s.adds) (s.recs) (by exact Ah7 hb.1.2) (by exact B2o hb (Nat.le_refl _))) (oA 4 (.tup [.sl (List.map c46 (H7 s.adds s.recs).1),.i .i64 ((H7 s.adds s.recs).2)]) z0)) ?_
 refine sn<|sq<|rG cx [63] [] (tL 1 c46 ((H7 s.adds s.recs).1) (tL 4 c46 s.adds (tN 5 (↑(H7 s.adds s.recs).1.length:Int) (↑s.adds.length:Int) z0)))<|sn<|dC (¬(↑(H7 s.adds s.recs).1.length:Int)=(↑s.adds.length:Int)) (fun h6=>?_) fun h6=>?_
 refine sq<|rG cx [2] [] z0<|sn<|rT<|nR<|qR (.i .i64 ((1:Int))) (.eq ?g13);rotate_left
 refine sK<|sn<|sq<|rG cx [2] [] z0<|sn<|rT<|qR (.i .i64 ((0:Int))) (.eq ?g14);rotate_left
 case g6 =>
  rw[R8 (D9.1 (R7 h3)).1]at h4
  rw[B2w fun c=>h4 ?_]
  have:=Ac8 s ▸ c
  exact(of_decide_eq_true this).2.1
 case g10 =>
  rw[Ar4 (R7 h3)]at h5
  rw[B2w fun c=>h5 ?_]
  have:=Ac8 s ▸ c
  have:=(of_decide_eq_true this).2.2.1
  simp only
  omega
 case g13 =>
  rw[Ad0 (R7 h3)]at h6
  rw[B2w fun c=>h6 ?_]
  have:=Ac8 s ▸ c
  have:=(of_decide_eq_true this).2.2.2
  simp only
  omega
 case g14 =>
  have f:=R7 h3
  rw[R8 (D9.1 f).1]at h4
  rw[Ar4 f]at h5
  rw[Ad0 f]at h6
  have h5:=Classical.not_not.1 h5
  have h6:=Classical.not_not.1 h6
  simp only at h5 h6
  rw[Z6.2]
  rw[Ac8]
  exact decide_eq_true ⟨f,Classical.not_not.1 h4,by omega,by omega⟩
theorem Bg4(d:Dig)(hb:szD d):Con Tryz.prog 41 [.agg (c84 d)] (.i .i64 (H8 d)) :=
 by
 refine sC A9 [.tmp 2] 21 Tryz.func41 ?_
 intro e0 cx
 refine sq<|rG cx [1] [1] z0<|sn<|sq<|sq<|B3 (σ':=⟨[(20,.b (decide (¬d.heard=A3 d.heard∨¬d.live=A3 d.live∨¬B5 (A7 d.live d.heard)=0)))],[]⟩) ?_ ?_
 refine A5 (¬d.heard=A3 d.heard) (fun h1=>?_) (fun h1=>?_)
 refine rg (A:=_∧_∧(AV.b true=AV.b (decide (¬d.heard=A3 d.heard∨¬d.live=A3 d.live∨¬B5 (A7 d.live d.heard)=0)))) cx [(2,{ val:=some (.b (decide (d.heard=A3 d.heard))),tell:=some (.b (false)) }),(17,{ tell:=some (.b (decide (¬d.heard=A3 d.heard∨¬d.live=A3 d.live∨¬B5 (A7 d.live d.heard)=0))) })] [20] [] ⟨(A0 h1),(A2e (d.heard) ?g0),(by simp only [eq_false h1,tsl])⟩ ?_;rotate_left
 exact⟨rfl,by kernel_rfl⟩
 refine A5 (¬d.live=A3 d.live) (fun h2=>?_) (fun h2=>?_)
 refine rg (A:=_∧((AV.b !decide (d.heard=A3 d.heard))=AV.b (decide ¬d.heard=A3 d.heard))∧_∧_∧_∧(AV.b true=AV.b (decide (¬d.heard=A3 d.heard∨¬d.live=A3 d.live∨¬B5 (A7 d.live d.heard)=0)))) cx [(2,{ val:=some (.b (decide (d.heard=A3 d.heard))) }),(3,{ tell:=some (.b (decide ¬d.heard=A3 d.heard)) }),(4,{ tell:=some (.b (false)) }),(7,{ val:=some (.b (decide (d.live=A3 d.live))),tell:=some (.b (false)) }),(17,{ tell:=some (.b (decide (¬d.heard=A3 d.heard∨¬d.live=A3 d.live∨¬B5 (A7 d.live d.heard)=0))) })] [20] [] ⟨(A2e (d.heard) ?g1),(X9),(A0 h1),(A0 h2),(A2e (d.live) ?g2),(by first | (simp only [eq_false h1,eq_false h2,tsl];done) | simp_all)⟩ ?_;rotate_left 2
 exact⟨rfl,by kernel_rfl⟩
 refine rG cx [20] [] (fT (A2e (d.heard) ?g3) (tQ 3 (d.heard=A3 d.heard) (tT 4 (A0 h1) (fT (A2e (d.live) ?g4) (tQ 8 (d.live=A3 d.live) (tT 9 (A0 h2) (fT (B26 (d.live) (d.heard) ?g5 ?g6) (tQ 16 (B5 (A7 d.live d.heard)=0) (tT 17 (by first | (simp only [eq_false h1,eq_false h2,tsl];done) | simp_all:AV.b (decide ¬B5 (A7 d.live d.heard)=0)=AV.b (decide (¬d.heard=A3 d.heard∨¬d.live=A3 d.live∨¬B5 (A7 d.live d.heard)=0))) (oA 2 (.b (decide (d.heard=A3 d.heard))) (oA 7 (.b (decide (d.live=A3 d.live))) (oA 15 (.b (decide (B5 (A7 d.live d.heard)=0))) z0)))))))))))) ?_;rotate_left 4
 exact⟨rfl,by kernel_rfl⟩
 refine sn<|dC (¬d.heard=A3 d.heard∨¬d.live=A3 d.live∨¬B5 (A7 d.live d.heard)=0) (fun h3=>?_) fun h3=>?_
 refine sq<|rG cx [2] [] z0<|sn<|rT<|nR<|qR (.i .i64 ((1:Int))) (.eq ?g7);rotate_left
 refine sK<|sn<|sq<|rG cx [2] [] z0<|sn<|rT<|qR (.i .i64 ((0:Int))) (.eq ?g8);rotate_left
 revert h1;rotate_left
 revert h1 h2;rotate_left
 revert h1 h2;rotate_left
 revert h1 h2;rotate_left
 revert h1 h2;rotate_left
 revert h1 h2;rotate_left
 revert h1 h2;rotate_left
 revert h3;rotate_left
 revert h3;rotate_left
 case g7=>intro h;rw[dig_no h]
 case g8=>intro h;rw[Bg3 h]
 all_goals (intros;first | exact hb.1.1 | exact hb.2.1)
theorem Bg5(f:Facts)(hb:szB 7 f):Con Tryz.prog 36 [.agg (c36 f)] (.tup [.agg (c84 (ofF f).1),.i .i64 (ofF f).2]) :=
 by
 refine sC A9 [.cell 2 84,.tmp 3] 32 Tryz.func36 ?_
 intro e0 cx
 refine sq<|rG cx [1,2] [1,2] z0<|sn<|sq<|rG cx [1,2,4,5] [1,2] (fT (B8k (f) (by(with_reducible assumption))) (oA 1 (.tup [.sl (List.map c46 (F2 f).1),.i .i64 ((F2 f).2)]) z0))<|sn<|sq<|sq<|rG cx [1,2,4,5,16] [1,2] (tN 1 ((F2 f).2) (0:Int) z0)<|sn<|dC (¬(F2 f).2=0) (fun h0=>?_) fun h0=>?_
 refine sq<|rG cx [2,3] [2] z0<|sn<|rT<|nR<|qR (.tup [.agg [.nl,.nl,.nl,.nl],.i .i64 ((F2 f).2)]) (B9.tup (ZLe.cons (B9.agg (ZLe.cons (B9.nl' (show List.map c3 (ofF f).1.heard.vec=[]from(by rw[X1 (A0o h0).1];rfl))) (ZLe.cons (B9.nl' (show List.map B1 (ofF f).1.heard.cloud=[]from(by rw[X1 (A0o h0).1];rfl))) (ZLe.cons (B9.nl' (show List.map c3 (ofF f).1.live.vec=[]from(by rw[X1 (A0o h0).1];rfl))) (ZLe.cons (B9.nl' (show List.map B1 (ofF f).1.live.cloud=[]from(by rw[X1 (A0o h0).1];rfl))) ZLe.nil))))) (ZLe.cons (B9.eq (show AV.i .i64 (F2 f).2=AV.i .i64 (ofF f).2 from(by rw[(A0o h0).2,X1 (A0o h0).1]))) ZLe.nil)))
 refine sK<|sn<|sq<|rG cx [2,4,6] [2,6] (fT (B8l (f) (by exact hb.1)) (oA 1 (.tup [.agg [.sl (List.map c3 (H5 f).1.vec),.sl (List.map B1 (H5 f).1.cloud)],.i .i64 ((H5 f).2)]) z0)) ?_
 refine sn<|sq<|rG cx [2,6,8] [2,6,8] (fT (A54 ((F2 f).1)) (oA 1 (.tup [.agg [.sl (List.map c3 (C5 (F2 f).1).1.vec),.sl (List.map B1 (C5 (F2 f).1).1.cloud)],.i .i64 ((C5 (F2 f).1).2)]) z0))<|sn<|sq<|rG cx [2,3] [2] z0<|sn<|rT<|qR (.tup [.agg [.sl (List.map c3 (H5 f).1.vec),.sl (List.map B1 (H5 f).1.cloud),.sl (List.map c3 (C5 (F2 f).1).1.vec),.sl (List.map B1 (C5 (F2 f).1).1.cloud)],.i .i64 ((0:Int))]) (B9.tup (ZLe.cons (B9.eq (show AV.agg [AV.sl (List.map c3 (H5 f).1.vec),AV.sl (List.map B1 (H5 f).1.cloud),AV.sl (List.map c3 (C5 (F2 f).1).1.vec),AV.sl (List.map B1 (C5 (F2 f).1).1.cloud)]=AV.agg [AV.sl (List.map c3 (ofF f).1.heard.vec),AV.sl (List.map B1 (ofF f).1.heard.cloud),AV.sl (List.map c3 (ofF f).1.live.vec),AV.sl (List.map B1 (ofF f).1.live.cloud)]from(by rw[A31 (A27 h0),A59 (A27 h0),Ai8 (A27 h0),R8 (A8o (A27 h0))]))) (ZLe.cons (B9.eq (show AV.i .i64 0=AV.i .i64 (ofF f).2 from(by rw[A31 (A27 h0)]))) ZLe.nil)))
theorem B6t(s:Facts)(hb:szB 7 s):Con Tryz.prog 40 [.agg (c82 s)] (.tup [.agg (c84 (ofS s).1),.i .i64 (ofS s).2]) :=
 by
 have n:¬ A3j s=0→ofS s=(⟨⟨[],[]⟩,⟨[],[]⟩⟩,1):=fun h=>A26 fun k=>h (Z6.2 k)
 have y:¬ ¬ A3j s=0→okS s=true:=fun h=>Z6.1 (Classical.not_not.1 h)
 refine sC A9 [.cell 2 84,.tmp 3] 21 Tryz.func40 ?_
 intro e0 cx
 refine sq<|rG cx [1,2] [1,2] z0<|sn<|sq<|sq<|rG cx [1,2,8] [1,2] (fT (B2y (s) (by(with_reducible assumption))) (tN 2 (A3j s) (0:Int) (oA 1 (.i .i64 (A3j s)) z0)))<|sn<|dC (¬A3j s=0) (fun h0=>?_) fun h0=>?_
 refine sq<|rG cx [2,3] [2] z0<|sn<|rT<|nR<|qR (.tup [.agg [.nl,.nl,.nl,.nl],.i .i64 ((1:Int))]) (B9.tup (ZLe.cons (B9.agg (ZLe.cons (B9.nl' (show List.map c3 (ofS s).1.heard.vec=[]from(by rw[n h0];rfl))) (ZLe.cons (B9.nl' (show List.map B1 (ofS s).1.heard.cloud=[]from(by rw[n h0];rfl))) (ZLe.cons (B9.nl' (show List.map c3 (ofS s).1.live.vec=[]from(by rw[n h0];rfl))) (ZLe.cons (B9.nl' (show List.map B1 (ofS s).1.live.cloud=[]from(by rw[n h0];rfl))) ZLe.nil))))) (ZLe.cons (B9.eq (show AV.i .i64 1=AV.i .i64 (ofS s).2 from(by rw[n h0]))) ZLe.nil)))
 refine sK<|sn<|sq<|rG cx [1,2,4] [1,2,4] (fT (A54 (s.adds)) (oA 2 (.tup [.agg [.sl (List.map c3 (C5 s.adds).1.vec),.sl (List.map B1 (C5 s.adds).1.cloud)],.i .i64 ((C5 s.adds).2)]) z0))<|sn<|sq<|rA cx [2,3] [2] (fT (A9u (s.gone) (by exact hb.1.1.1)) (oA 2 (.agg [.sl (List.map c3 (A3 s.gone).vec),.sl (List.map B1 (A3 s.gone).cloud)]) z0)) ?_
 refine sn<|rT<|qR (.tup [.agg [.sl (List.map c3 (A3 s.gone).vec),.sl (List.map B1 (A3 s.gone).cloud),.sl (List.map c3 (C5 s.adds).1.vec),.sl (List.map B1 (C5 s.adds).1.cloud)],.i .i64 ((0:Int))]) (B9.tup (ZLe.cons (B9.eq (show AV.agg [AV.sl (List.map c3 (A3 s.gone).vec),AV.sl (List.map B1 (A3 s.gone).cloud),AV.sl (List.map c3 (C5 s.adds).1.vec),AV.sl (List.map B1 (C5 s.adds).1.cloud)]=AV.agg [AV.sl (List.map c3 (ofS s).1.heard.vec),AV.sl (List.map B1 (ofS s).1.heard.cloud),AV.sl (List.map c3 (ofS s).1.live.vec),AV.sl (List.map B1 (ofS s).1.live.cloud)]from(by rw[A0y (y h0),←(D9.1 (T4 (y h0))).2.1,R8 (D9.1 (T4 (y h0))).1]))) (ZLe.cons (B9.eq (show AV.i .i64 0=AV.i .i64 (ofS s).2 from(by rw[A0y (y h0)]))) ZLe.nil)))
theorem B8o(h l:Past)(d:Dig)(h1:h.cloud.length*16≤140737488350000)(h2:l.cloud.length*16≤140737488350000)(hd:szD d):Con Tryz.prog 119 [.agg (c26 h),.agg (c26 l),.agg (c84 d)] (.agg (c26 (A3k h l d))) :=
 by
 refine sC A9 [.cell 6 26] 21 Tryz.func119 ?_
 intro e0 cx
 refine sq<|rG cx [3,4,5,6] [3,4,5,6] z0<|sn<|sq<|rG cx [5,6,7] [5,6,7] (fT (B1h (h) (l) (by(with_reducible assumption)) (by(with_reducible assumption))) (oA 2 (.agg [.sl (List.map c3 (A7 h l).vec),.sl (List.map B1 (A7 h l).cloud)]) z0))<|sn<|sq<|rA cx [6] [6] (fT (B1h (A7 h l) (d.heard) ?g0 ?g1) (fT (con183 (A7 h l) (d.live) ?g2 ?g3) (fT (B5c ([A7 (A7 h l) d.heard,X2 (A7 h l) d.live]) ?g4) (oA 3 (.agg [.sl (List.map c3 (A7 (A7 h l) d.heard).vec),.sl (List.map B1 (A7 (A7 h l) d.heard).cloud)]) (oA 7 (.agg [.sl (List.map c3 (X2 (A7 h l) d.live).vec),.sl (List.map B1 (X2 (A7 h l) d.live).cloud)]) (oA 9 (.agg [.sl (List.map c3 (C2 [A7 (A7 h l) d.heard,X2 (A7 h l) d.live]).vec),.sl (List.map B1 (C2 [A7 (A7 h l) d.heard,X2 (A7 h l) d.live]).cloud)]) z0)))))) ?_;rotate_left 5
 refine sn<|rT<|qR (.agg [.sl (List.map c3 (C2 [A7 (A7 h l) d.heard,X2 (A7 h l) d.live]).vec),.sl (List.map B1 (C2 [A7 (A7 h l) d.heard,X2 (A7 h l) d.live]).cloud)]) (.eq ?g5);rotate_left
 case g0=>exact T3 (K8 _ _)
 case g1=>exact hd.1.1
 case g2=>exact T3 (K8 _ _)
 case g3=>exact hd.2.1
 case g4=>exact A8m (K8 _ _) (A7s _ _)
 case g5=>rfl
theorem con49(f:Facts)(d:Dig)(hb:szB 7 f)(hd:szD d):Con Tryz.prog 49 [.agg (c36 f),.agg (c84 d)] (.tup [.agg (c36 (E8 f d).1),.i .i64 (E8 f d).2]) :=
 by
 refine sC A9 [.cell 4 36,.tmp 5] 66 Tryz.func49 ?_
 intro e0 cx
 refine sq<|rG cx [2,3,4] [2,3,4] z0<|sn<|sq<|sq<|B3 (σ':=⟨[(2,.ptr (2) (0) (0) (0)),(3,.ptr (3) (0) (0) (0)),(4,.ptr (4) (0) (0) (0)),(23,.b (decide (¬A2z f=0∨¬H8 d=0)))],[(2,⟨0,36,.var [.sl (List.map c46 f.adds),.sl (List.map c3 f.gone.vec),.sl (List.map B1 f.gone.cloud),.sl (List.map c54 f.recs)]⟩),(3,⟨0,84,.var [.sl (List.map c3 d.heard.vec),.sl (List.map B1 d.heard.cloud),.sl (List.map c3 d.live.vec),.sl (List.map B1 d.live.cloud)]⟩),(4,⟨0,36,.var [.nl,.nl,.nl,.nl]⟩)]⟩) ?_ ?_
 refine A5 (¬A2z f=0) (fun h1=>?_) (fun h1=>?_)
 refine rG cx [2,3,4,23] [2,3,4] (fT (Aq4 (f) (by exact hb.1)) (tT 2 (F3 h1:AV.b (A2z f !=0)=AV.b true) (tD 7 true (¬A2z f=0∨¬H8 d=0) (by simp only [eq_false h1,tsl]) (oA 1 (.i .i64 (A2z f)) z0)))) ?_
 exact⟨rfl,by kernel_rfl⟩
 refine rG cx [2,3,4,23] [2,3,4] (fT (Aq4 (f) (by exact hb.1)) (tN 2 (A2z f) (0:Int) (tT 3 (A0 h1) (fT (Bg4 (d) (by(with_reducible assumption))) (tN 6 (H8 d) (0:Int) (tT 7 (by first | (simp only [eq_false h1,tsl];done) | simp_all:AV.b (decide ¬H8 d=0)=AV.b (decide (¬A2z f=0∨¬H8 d=0))) (oA 1 (.i .i64 (A2z f)) (oA 5 (.i .i64 (H8 d)) z0)))))))) ?_
 exact⟨rfl,by kernel_rfl⟩
 refine sn<|dC (¬A2z f=0∨¬H8 d=0) (fun h2=>?_) fun h2=>?_
 refine sq<|rG cx [4,5] [4] z0<|sn<|rT<|nR<|qR (.tup [.agg [.nl,.nl,.nl,.nl],.i .i64 ((1:Int))]) (B9.tup (ZLe.cons (B9.agg (ZLe.cons (B9.nl' (show List.map c46 (E8 f d).1.adds=[]from(by rw[Ad2 h2];rfl))) (ZLe.cons (B9.nl' (show List.map c3 (E8 f d).1.gone.vec=[]from(by rw[Ad2 h2];rfl))) (ZLe.cons (B9.nl' (show List.map B1 (E8 f d).1.gone.cloud=[]from(by rw[Ad2 h2];rfl))) (ZLe.cons (B9.nl' (show List.map c54 (E8 f d).1.recs=[]from(by rw[Ad2 h2];rfl))) ZLe.nil))))) (ZLe.cons (B9.eq (show AV.i .i64 1=AV.i .i64 (E8 f d).2 from(by rw[Ad2 h2]))) ZLe.nil)))
 refine sK<|sn<|sq<|rG cx [2,3,4,6] [2,3,4] (fT (B8k (f) (by(with_reducible assumption))) (oA 1 (.tup [.sl (List.map c46 (F2 f).1),.i .i64 ((F2 f).2)]) z0))<|sn<|sq<|rG cx [2,3,4,6,8] [2,3,4,8] (fT (B8l (f) (by exact hb.1)) (oA 1 (.tup [.agg [.sl (List.map c3 (H5 f).1.vec),.sl (List.map B1 (H5 f).1.cloud)],.i .i64 ((H5 f).2)]) z0)) ?_
 refine sn<|sq<|rG cx [2,3,4,6,8,10] [2,3,4,8,10] (fT (A54 ((F2 f).1)) (oA 1 (.tup [.agg [.sl (List.map c3 (C5 (F2 f).1).1.vec),.sl (List.map B1 (C5 (F2 f).1).1.cloud)],.i .i64 ((C5 (F2 f).1).2)]) z0))<|sn<|sq<|rG cx [2,3,4,8,10,12] [2,3,4,8,10] (fT (Bf5 ((F2 f).1) (d.heard) (by exact hd.1.1)) (oA 3 (.tup [.sl (List.map c46 (F6 (F2 f).1 d.heard false).1),.i .i64 ((F6 (F2 f).1 d.heard false).2)]) z0)) ?_
 refine sn<|sq<|rG cx [3,4,8,10,12,14] [3,4,8,10] (fT (B8g (f.recs) ((H5 f).1) (by exact Ah7 hb.1.2) (by exact A8n hb) (by rw[A59 (N8 h2).1];exact T3 (J5 f))) (oA 3 (.tup [.sl (List.map c54 (P3 f.recs (H5 f).1).1),.i .i64 ((P3 f.recs (H5 f).1).2)]) z0)) ?_
 refine sn<|sq<|rG cx [3,4,8,10,12,14] [3,4,8,10] (fT (B8j ((P3 f.recs (H5 f).1).1) (by rw[A8q (N8 h2).1];exact Aq3 (A2k (Ar5 (D9.1 (N8 h2).1).2.2))) (by rw[A8q (N8 h2).1];have:=A8n hb;have:=A5b f.recs (B4 f);show(I3 f.recs (B4 f)).length*64≤_;omega)) (oA 1 (.tup [.sl (List.map c54 (H1 (P3 f.recs (H5 f).1).1).1),.i .i64 ((H1 (P3 f.recs (H5 f).1).1).2)]) z0)) ?_
 refine sn<|sq<|rG cx [4,5] [4] (fT (B8o ((H5 f).1) ((C5 (F2 f).1).1) (d) (by rw[A59 (N8 h2).1];exact T3 (J5 f)) (by exact Aj0 _) (by(with_reducible assumption))) (oA 4 (.agg [.sl (List.map c3 (A3k (H5 f).1 (C5 (F2 f).1).1 d).vec),.sl (List.map B1 (A3k (H5 f).1 (C5 (F2 f).1).1 d).cloud)]) z0)) ?_
 refine sn<|rT<|qR (.tup [.agg [.sl (List.map c46 (F6 (F2 f).1 d.heard false).1),.sl (List.map c3 (A3k (H5 f).1 (C5 (F2 f).1).1 d).vec),.sl (List.map B1 (A3k (H5 f).1 (C5 (F2 f).1).1 d).cloud),.sl (List.map c54 (H1 (P3 f.recs (H5 f).1).1).1)],.i .i64 ((0:Int))]) (B9.tup (ZLe.cons (B9.eq (show AV.agg [AV.sl (List.map c46 (F6 (F2 f).1 d.heard false).1),AV.sl (List.map c3 (A3k (H5 f).1 (C5 (F2 f).1).1 d).vec),AV.sl (List.map B1 (A3k (H5 f).1 (C5 (F2 f).1).1 d).cloud),AV.sl (List.map c54 (H1 (P3 f.recs (H5 f).1).1).1)]=AV.agg [AV.sl (List.map c46 (E8 f d).1.adds),AV.sl (List.map c3 (E8 f d).1.gone.vec),AV.sl (List.map B1 (E8 f d).1.gone.cloud),AV.sl (List.map c54 (E8 f d).1.recs)]from ?g17)) (ZLe.cons (B9.eq (show AV.i .i64 0=AV.i .i64 (E8 f d).2 from(by rw[Z8 (N8 h2).1 (N8 h2).2]))) ZLe.nil)));rotate_left
 case g17 =>
  obtain⟨a,b⟩:=N8 h2
  rw[Z8 a b,A8q a,B2v (Ar5 (D9.1 a).2.2),A59 a,Ai8 a,R8 (A8o a),A8p (A8o a) b]
  rfl
theorem B6u(s:Facts)(d:Dig)(hb:szB 7 s)(hd:szD d):Con Tryz.prog 42 [.agg (c82 s),.agg (c84 d)] (.tup [.agg (c82 (D1 s d).1),.i .i64 (D1 s d).2]) :=
 by
 refine sC A9 [.cell 4 82,.tmp 5] 59 Tryz.func42 ?_
 intro e0 cx
 refine sq<|rG cx [2,3,4] [2,3,4] z0<|sn<|sq<|sq<|B3 (σ':=⟨[(2,.ptr (2) (0) (0) (0)),(3,.ptr (3) (0) (0) (0)),(4,.ptr (4) (0) (0) (0)),(21,.b (decide (¬A3j s=0∨¬H8 d=0)))],[(2,⟨0,82,.var [.sl (List.map c46 s.adds),.sl (List.map c3 s.gone.vec),.sl (List.map B1 s.gone.cloud),.sl (List.map c54 s.recs)]⟩),(3,⟨0,84,.var [.sl (List.map c3 d.heard.vec),.sl (List.map B1 d.heard.cloud),.sl (List.map c3 d.live.vec),.sl (List.map B1 d.live.cloud)]⟩),(4,⟨0,82,.var [.nl,.nl,.nl,.nl]⟩)]⟩) ?_ ?_
 refine A5 (¬A3j s=0) (fun h_1=>?_) (fun h_1=>?_)
 refine rG cx [2,3,4,21] [2,3,4] (fT (B2y (s) (by(with_reducible assumption))) (tT 2 (F3 h_1:AV.b (A3j s !=0)=AV.b true) (tD 7 true (¬A3j s=0∨¬H8 d=0) (by simp only [eq_false h_1,tsl]) (oA 1 (.i .i64 (A3j s)) z0)))) ?_
 exact⟨rfl,by kernel_rfl⟩
 refine rG cx [2,3,4,21] [2,3,4] (fT (B2y (s) (by(with_reducible assumption))) (tN 2 (A3j s) (0:Int) (tT 3 (A0 h_1) (fT (Bg4 (d) (by(with_reducible assumption))) (tN 6 (H8 d) (0:Int) (tT 7 (by first | (simp only [eq_false h_1,tsl];done) | simp_all:AV.b (decide ¬H8 d=0)=AV.b (decide (¬A3j s=0∨¬H8 d=0))) (oA 1 (.i .i64 (A3j s)) (oA 5 (.i .i64 (H8 d)) z0)))))))) ?_
 exact⟨rfl,by kernel_rfl⟩
 refine sn<|dC (¬A3j s=0∨¬H8 d=0) (fun h2=>?_) fun h2=>?_
 refine sq<|rG cx [4,5] [4] z0<|sn<|rT<|nR<|qR (.tup [.agg [.nl,.nl,.nl,.nl],.i .i64 ((1:Int))]) (B9.tup (ZLe.cons (B9.agg (ZLe.cons (B9.nl' (show List.map c46 (D1 s d).1.adds=[]from(by rw[A5a h2];rfl))) (ZLe.cons (B9.nl' (show List.map c3 (D1 s d).1.gone.vec=[]from(by rw[A5a h2];rfl))) (ZLe.cons (B9.nl' (show List.map B1 (D1 s d).1.gone.cloud=[]from(by rw[A5a h2];rfl))) (ZLe.cons (B9.nl' (show List.map c54 (D1 s d).1.recs=[]from(by rw[A5a h2];rfl))) ZLe.nil))))) (ZLe.cons (B9.eq (show AV.i .i64 1=AV.i .i64 (D1 s d).2 from(by rw[A5a h2]))) ZLe.nil)))
 refine sK<|sn<|sq<|rG cx [2,3,4,6] [2,3,4,6] (fT (A54 (s.adds)) (oA 2 (.tup [.agg [.sl (List.map c3 (C5 s.adds).1.vec),.sl (List.map B1 (C5 s.adds).1.cloud)],.i .i64 ((C5 s.adds).2)]) z0))<|sn<|sq<|rG cx [2,3,4,6,8] [2,3,4,6] (fT (Bf5 (s.adds) (d.heard) (by exact hd.1.1)) (oA 4 (.tup [.sl (List.map c46 (F6 s.adds d.heard false).1),.i .i64 ((F6 s.adds d.heard false).2)]) z0)) ?_
 refine sn<|sq<|rG cx [2,3,4,6,8,10] [2,3,4,6,10] (fT (A54 ((F6 s.adds d.heard false).1)) (oA 1 (.tup [.agg [.sl (List.map c3 (C5 (F6 s.adds d.heard false).1).1.vec),.sl (List.map B1 (C5 (F6 s.adds d.heard false).1).1.cloud)],.i .i64 ((C5 (F6 s.adds d.heard false).1).2)]) z0))<|sn<|sq<|rG cx [2,3,4,6,8,10,12] [2,3,4,6,10] (fT (B8j (s.recs) (by exact Ah7 hb.1.2) (by exact A8n hb)) (oA 2 (.tup [.sl (List.map c54 (H1 s.recs).1),.i .i64 ((H1 s.recs).2)]) z0)) ?_
 refine sn<|sq<|rA cx [4,5] [4] (fT (B8o (s.gone) ((C5 s.adds).1) (d) (by exact hb.1.1.1) (by exact Aj0 _) (by(with_reducible assumption))) (fT (B5c ([(C5 (F6 s.adds d.heard false).1).1,A3k s.gone (C5 s.adds).1 d]) ?g10) (oA 6 (.agg [.sl (List.map c3 (A3k s.gone (C5 s.adds).1 d).vec),.sl (List.map B1 (A3k s.gone (C5 s.adds).1 d).cloud)]) (oA 8 (.agg [.sl (List.map c3 (C2 [(C5 (F6 s.adds d.heard false).1).1,A3k s.gone (C5 s.adds).1 d]).vec),.sl (List.map B1 (C2 [(C5 (F6 s.adds d.heard false).1).1,A3k s.gone (C5 s.adds).1 d]).cloud)]) z0)))) ?_;rotate_left
 refine sn<|rT<|qR (.tup [.agg [.sl (List.map c46 (F6 s.adds d.heard false).1),.sl (List.map c3 (C2 [(C5 (F6 s.adds d.heard false).1).1,A3k s.gone (C5 s.adds).1 d]).vec),.sl (List.map B1 (C2 [(C5 (F6 s.adds d.heard false).1).1,A3k s.gone (C5 s.adds).1 d]).cloud),.sl (List.map c54 (H1 s.recs).1)],.i .i64 ((0:Int))]) (B9.tup (ZLe.cons (B9.eq (show AV.agg [AV.sl (List.map c46 (F6 s.adds d.heard false).1),AV.sl (List.map c3 (C2 [(C5 (F6 s.adds d.heard false).1).1,A3k s.gone (C5 s.adds).1 d]).vec),AV.sl (List.map B1 (C2 [(C5 (F6 s.adds d.heard false).1).1,A3k s.gone (C5 s.adds).1 d]).cloud),AV.sl (List.map c54 (H1 s.recs).1)]=AV.agg [AV.sl (List.map c46 (D1 s d).1.adds),AV.sl (List.map c3 (D1 s d).1.gone.vec),AV.sl (List.map B1 (D1 s d).1.gone.cloud),AV.sl (List.map c54 (D1 s d).1.recs)]from ?g12)) (ZLe.cons (B9.eq (show AV.i .i64 0=AV.i .i64 (D1 s d).2 from(by rw[Z9 (A28 h2).1 (A28 h2).2]))) ZLe.nil)));rotate_left
 case g10 =>
  obtain⟨a,b⟩:=A28 h2
  have l:=(D9.1 (T4 a)).1
  rw[A8p l b,R8 (B2x l)]
  exact A8m (Q9 _) (Y6 _)
 case g12 =>
  obtain⟨a,b⟩:=A28 h2
  have l:=(D9.1 (T4 a)).1
  rw[Z9 a b,B2v (D9.1 (T4 a)).2.2,A8p l b,R8 (B2x l),R8 l]
  rfl
end Go.Proofs.YtphcaholhacnpaaGreat
namespace Go.Proofs.YtphcaholhacnpaaGreat
open Go.E
set_option maxRecDepth 100000
set_option maxHeartbeats 4000000
def B3m(U V:Nat→List Run)(r:Nat):List Run:=A5f (U r) (V r)
def isC9(U V:Nat→List Run)(r:Int)(S:Nat→List Int):Prop:=∀ k:Nat,(k:Int) < r→S k=tnS (B3m U V) k
def Bg6(U V:Nat→List Run)(r:Int)(A B S:Nat→List Int):Prop:=A=tnS U∧B=tnS V∧0≤r∧r≤16∧isC9 U V r S
theorem rule1(x y:Bool):I2 1 x y=(x && y):=by unfold I2;simp
theorem B2z{A B:List Run}(hA:M0 A)(hB:M0 B):G1 (I2 1) (D0 A) (D0 B) false false false=D0 (A5f A B):=by
 refine A6n _ rfl hA hB (A7r A B) fun n=>?_
 rw[B0o,A1r hA,A1r hB,rule1,Bool.and_eq_true,A23,A23]
theorem B30{U V:Nat→List Run}{r:Int}{S:Nat→List Int}(hU:B5z U)(hV:B5z V)(h0:0≤r)(h1:r < 16)(h:isC9 U V r S) :
  isC9 U V (r+1) (I1 S r.toNat (G1 (I2 1) (tnS U r.toNat) (tnS V r.toNat) false false false)):=by
 intro k hk
 unfold I1
 by_cases e:k=r.toNat
 ·subst e
  rw[if_pos rfl]
  exact B2z (hU _ (by omega)) (hV _ (by omega))
 ·rw[if_neg e]
  exact h k (by omega)
theorem B6v(a b:List Run):A5f (nrm a) (nrm b)=A5f a b:=by unfold A5f;rw[A15,A15]
theorem Bg7(a b:Past):E4 (B3m (D4 (A6 [a])) (D4 (A6 [b])))=X2 a b:=K7 fun r _=>B6v _ _
theorem B6w (U V : Nat → List Run) (hU : B5z U) (hV : B5z V) : Con Tryz.prog 125 [.agg (B5p (tnS U)), .agg (B5p (tnS V)), .i .i64 1] (.agg (B5p (tnS (B3m U V)))) :=
  by
  refine sC A9 [.cell 6 144] 27 Tryz.func125 ?_
  intro e0 cx
  refine sq<|rG cx [2,3,4,6] [3,4,6] z0<|sn<|sq<|rG cx [2,3,4,6,7] [3,4,6,7] z0<|sn<|sq<|sq<|rG cx [2,3,4,6,7,8] [3,4,6,7] z0<|sn<|bL 0<|F4 3 ⟨0,144,.var [.sl (List.map c3 (tnS U (0))),.sl (List.map c3 (tnS U (1))),.sl (List.map c3 (tnS U (2))),.sl (List.map c3 (tnS U (3))),.sl (List.map c3 (tnS U (4))),.sl (List.map c3 (tnS U (5))),.sl (List.map c3 (tnS U (6))),.sl (List.map c3 (tnS U (7))),.sl (List.map c3 (tnS U (8))),.sl (List.map c3 (tnS U (9))),.sl (List.map c3 (tnS U (10))),.sl (List.map c3 (tnS U (11))),.sl (List.map c3 (tnS U (12))),.sl (List.map c3 (tnS U (13))),.sl (List.map c3 (tnS U (14))),.sl (List.map c3 (tnS U (15)))]⟩ [.sl (List.map c3 (tnS U (0))),.sl (List.map c3 (tnS U (1))),.sl (List.map c3 (tnS U (2))),.sl (List.map c3 (tnS U (3))),.sl (List.map c3 (tnS U (4))),.sl (List.map c3 (tnS U (5))),.sl (List.map c3 (tnS U (6))),.sl (List.map c3 (tnS U (7))),.sl (List.map c3 (tnS U (8))),.sl (List.map c3 (tnS U (9))),.sl (List.map c3 (tnS U (10))),.sl (List.map c3 (tnS U (11))),.sl (List.map c3 (tnS U (12))),.sl (List.map c3 (tnS U (13))),.sl (List.map c3 (tnS U (14))),.sl (List.map c3 (tnS U (15)))] (D2 c3 16 (tnS U)) (σ':=⟨[(2,.i .i64 ((1:Int))),(3,.ptr (3) (0) (0) (0)),(4,.ptr (4) (0) (0) (0)),(6,.ptr (6) (0) (0) (0)),(7,.ptr (7) (0) (0) (0)),(8,.i .i64 ((0:Int)))],[(3,⟨0,144,.arr (D2 c3 16 (tnS U))⟩),(4,⟨0,144,.var [.sl (List.map c3 (tnS V (0))),.sl (List.map c3 (tnS V (1))),.sl (List.map c3 (tnS V (2))),.sl (List.map c3 (tnS V (3))),.sl (List.map c3 (tnS V (4))),.sl (List.map c3 (tnS V (5))),.sl (List.map c3 (tnS V (6))),.sl (List.map c3 (tnS V (7))),.sl (List.map c3 (tnS V (8))),.sl (List.map c3 (tnS V (9))),.sl (List.map c3 (tnS V (10))),.sl (List.map c3 (tnS V (11))),.sl (List.map c3 (tnS V (12))),.sl (List.map c3 (tnS V (13))),.sl (List.map c3 (tnS V (14))),.sl (List.map c3 (tnS V (15)))]⟩),(6,⟨0,144,.var [.nl,.nl,.nl,.nl,.nl,.nl,.nl,.nl,.nl,.nl,.nl,.nl,.nl,.nl,.nl,.nl]⟩),(7,⟨0,144,.var [.nl,.nl,.nl,.nl,.nl,.nl,.nl,.nl,.nl,.nl,.nl,.nl,.nl,.nl,.nl,.nl]⟩)]⟩) (by kernel_rfl) (by kernel_rfl) (by kernel_rfl) (by kernel_rfl) (ZLe.of_eq (by kernel_rfl)) (by kernel_rfl)<|F4 4 ⟨0,144,.var [.sl (List.map c3 (tnS V (0))),.sl (List.map c3 (tnS V (1))),.sl (List.map c3 (tnS V (2))),.sl (List.map c3 (tnS V (3))),.sl (List.map c3 (tnS V (4))),.sl (List.map c3 (tnS V (5))),.sl (List.map c3 (tnS V (6))),.sl (List.map c3 (tnS V (7))),.sl (List.map c3 (tnS V (8))),.sl (List.map c3 (tnS V (9))),.sl (List.map c3 (tnS V (10))),.sl (List.map c3 (tnS V (11))),.sl (List.map c3 (tnS V (12))),.sl (List.map c3 (tnS V (13))),.sl (List.map c3 (tnS V (14))),.sl (List.map c3 (tnS V (15)))]⟩ [.sl (List.map c3 (tnS V (0))),.sl (List.map c3 (tnS V (1))),.sl (List.map c3 (tnS V (2))),.sl (List.map c3 (tnS V (3))),.sl (List.map c3 (tnS V (4))),.sl (List.map c3 (tnS V (5))),.sl (List.map c3 (tnS V (6))),.sl (List.map c3 (tnS V (7))),.sl (List.map c3 (tnS V (8))),.sl (List.map c3 (tnS V (9))),.sl (List.map c3 (tnS V (10))),.sl (List.map c3 (tnS V (11))),.sl (List.map c3 (tnS V (12))),.sl (List.map c3 (tnS V (13))),.sl (List.map c3 (tnS V (14))),.sl (List.map c3 (tnS V (15)))] (D2 c3 16 (tnS V)) (σ':=⟨[(2,.i .i64 ((1:Int))),(3,.ptr (3) (0) (0) (0)),(4,.ptr (4) (0) (0) (0)),(6,.ptr (6) (0) (0) (0)),(7,.ptr (7) (0) (0) (0)),(8,.i .i64 ((0:Int)))],[(3,⟨0,144,.arr (D2 c3 16 (tnS U))⟩),(4,⟨0,144,.arr (D2 c3 16 (tnS V))⟩),(6,⟨0,144,.var [.nl,.nl,.nl,.nl,.nl,.nl,.nl,.nl,.nl,.nl,.nl,.nl,.nl,.nl,.nl,.nl]⟩),(7,⟨0,144,.var [.nl,.nl,.nl,.nl,.nl,.nl,.nl,.nl,.nl,.nl,.nl,.nl,.nl,.nl,.nl,.nl]⟩)]⟩) (by kernel_rfl) (by kernel_rfl) (by kernel_rfl) (by kernel_rfl) (ZLe.of_eq (by kernel_rfl)) (by kernel_rfl) ?_
  refine F4 7 ⟨0,144,.var [.nl,.nl,.nl,.nl,.nl,.nl,.nl,.nl,.nl,.nl,.nl,.nl,.nl,.nl,.nl,.nl]⟩ [.nl,.nl,.nl,.nl,.nl,.nl,.nl,.nl,.nl,.nl,.nl,.nl,.nl,.nl,.nl,.nl] (D2 c3 16 fun x ↦ []) (σ':=⟨[(2,.i .i64 ((1:Int))),(3,.ptr (3) (0) (0) (0)),(4,.ptr (4) (0) (0) (0)),(6,.ptr (6) (0) (0) (0)),(7,.ptr (7) (0) (0) (0)),(8,.i .i64 ((0:Int)))],[(3,⟨0,144,.arr (D2 c3 16 (tnS U))⟩),(4,⟨0,144,.arr (D2 c3 16 (tnS V))⟩),(6,⟨0,144,.var [.nl,.nl,.nl,.nl,.nl,.nl,.nl,.nl,.nl,.nl,.nl,.nl,.nl,.nl,.nl,.nl]⟩),(7,⟨0,144,.arr (D2 c3 16 fun x ↦ [])⟩)]⟩) (by kernel_rfl) (by kernel_rfl) (by kernel_rfl) (by kernel_rfl) (Af6 c3 16) (by kernel_rfl)<|sL (X:=Int×(Nat→List Int)×(Nat→List Int)×(Nat→List Int)) (fun x=>⟨[(2,.i .i64 ((1:Int))),(3,.ptr (3) (0) (0) (0)),(4,.ptr (4) (0) (0) (0)),(6,.ptr (6) (0) (0) (0)),(7,.ptr (7) (0) (0) (0)),(8,.i .i64 (x.1))],[(3,⟨0,144,.arr (D2 c3 16 x.2.1)⟩),(4,⟨0,144,.arr (D2 c3 16 x.2.2.1)⟩),(6,⟨0,144,.var [.nl,.nl,.nl,.nl,.nl,.nl,.nl,.nl,.nl,.nl,.nl,.nl,.nl,.nl,.nl,.nl]⟩),(7,⟨0,144,.arr (D2 c3 16 x.2.2.2)⟩)]⟩) (fun x ↦ decCo x.1 x.2.1 x.2.2.1 x.2.2.2) (fun x ↦ Bg6 U V x.1 x.2.1 x.2.2.1 x.2.2.2) [2,3,4,6,7,8] [3,4,6,7] (((0:Int),tnS U,tnS V,fun x ↦ [])) (show Bg6 U V (0:Int) (tnS U) (tnS V) fun x ↦ []from(by exact⟨rfl,rfl,by omega,by omega,fun k hk=>by omega⟩)) ?_
  rintro⟨r0,A1,B2,S3⟩ h_4
  obtain⟨hh5,h6,h7,h8,h9⟩:A1=tnS U∧B2=tnS V∧0≤r0∧r0≤16∧isC9 U V r0 S3:=h_4
  refine sq<|rD cx [2,3,4,6,7,8,10] [3,4,6,7] (zB 1 (r0 <(16:Int))) (fun h10=>?_) fun h10=>?_
  refine sK<|sn<|sq<|bL 1<|rA cx [2,3,4,6,7,8] [3,4,6,7] (fA (0≤r0) (fO (r0 <(↑(16:Nat):Int)) (fP ((D2 c3 16 A1)[r0.toNat*(1:Nat)+0]?=some (AV.sl (List.map c3 (A1 r0.toNat)))) (by((try simp only [Nat.mul_one,Nat.add_zero,Nat.zero_add]);with_reducible refine D6 ?_;omega)) (fA (0≤r0) (fO (r0 <(↑(16:Nat):Int)) (fP ((D2 c3 16 B2)[r0.toNat*(1:Nat)+0]?=some (AV.sl (List.map c3 (B2 r0.toNat)))) (by((try simp only [Nat.mul_one,Nat.add_zero,Nat.zero_add]);with_reducible refine D6 ?_;omega)) (fT (B8a (A1 r0.toNat) (B2 r0.toNat) ((1:Int)) (by subst hh5;exact A89 hU (by omega)) (by subst h6;exact A89 hV (by omega))) (fA (0≤r0) (fO (r0 <(↑(16:Nat):Int)) (fP (r0.toNat*(1:Nat)+0 <(D2 c3 16 S3).length) (by rw[N0];omega) (fR [(D7 (AV.sl (List.map c3 (G1 (I2 (1:Int)) (A1 r0.toNat) (B2 r0.toNat) false false false)))).headD AV.dead] (fP ((D2 c3 16 S3).set (r0.toNat*(1:Nat)+0) ((D7 (AV.sl (List.map c3 (G1 (I2 (1:Int)) (A1 r0.toNat) (B2 r0.toNat) false false false)))).headD AV.dead)=D2 c3 16 (I1 S3 r0.toNat (G1 (I2 (1:Int)) (A1 r0.toNat) (B2 r0.toNat) false false false))) (by((try simp only [Nat.mul_one,Nat.add_zero,Nat.zero_add]);(with_reducible refine Y3 ?_);exact Eq.refl _)) (oR 4 [.sl (List.map c3 (A1 r0.toNat))] (oR 8 [.sl (List.map c3 (B2 r0.toNat))] (oA 10 (.sl (List.map c3 (G1 (I2 (1:Int)) (A1 r0.toNat) (B2 r0.toNat) false false false))) (oV 13 { rows:=some [(D2 c3 16 (I1 S3 r0.toNat (G1 (I2 (1:Int)) (A1 r0.toNat) (B2 r0.toNat) false false false)))] } z0)))))))))))))))) ?_
  refine bN<|sn<|rG cx [2,3,4,6,7,8] [3,4,6,7] (tW 1 (r0+1) z0)<|sn<|nX ((r0+1,A1,B2,I1 S3 r0.toNat (G1 (I2 (1:Int)) (A1 r0.toNat) (B2 r0.toNat) false false false))) (show(16-(r0+1)).toNat <(16-r0).toNat from(by omega)) (show Bg6 U V (r0+1) A1 B2 (I1 S3 r0.toNat (G1 (I2 (1:Int)) (A1 r0.toNat) (B2 r0.toNat) false false false))from(by subst hh5 h6;exact⟨rfl,rfl,by omega,by omega,B30 hU hV h7 h10 h9⟩))
  refine eX 0<|nE<|nE<|bH<|sn<|sq<|rG cx [6] [6] (fR 16 z0)<|sn<|rT<|qR (.agg [.sl (List.map c3 (S3 (0))),.sl (List.map c3 (S3 (1))),.sl (List.map c3 (S3 (2))),.sl (List.map c3 (S3 (3))),.sl (List.map c3 (S3 (4))),.sl (List.map c3 (S3 (5))),.sl (List.map c3 (S3 (6))),.sl (List.map c3 (S3 (7))),.sl (List.map c3 (S3 (8))),.sl (List.map c3 (S3 (9))),.sl (List.map c3 (S3 (10))),.sl (List.map c3 (S3 (11))),.sl (List.map c3 (S3 (12))),.sl (List.map c3 (S3 (13))),.sl (List.map c3 (S3 (14))),.sl (List.map c3 (S3 (15)))]) (.eq ?g5);rotate_left
  case g5 =>
    refine congrArg AV.agg ?_
    show D2 c3 16 S3=D2 c3 16 (tnS (B3m U V))
    unfold D2
    refine List.map_congr_left fun k hk=>?_
    rw [h9 k (by have : k < 16 := by simpa using hk
                 omega)]
theorem con47(a b:Past)(ha:a.cloud.length*16≤140737488350000)(hb:b.cloud.length*16≤140737488350000):Con Tryz.prog 47 [.agg (c26 a),.agg (c26 b)] (.agg (c26 (X2 a b))) :=
 by
 refine sC A9 [.cell 4 26] 11 Tryz.func47 ?_
 intro e0 cx
 refine sq<|rG cx [2,3,4] [2,3,4] z0<|sn<|sq<|rA cx [4] [4] (fT (Av0 (a) (by(with_reducible assumption))) (fT (Av0 (b) (by(with_reducible assumption))) (fT (B6w (D4 (A6 [a])) (D4 (A6 [b])) ?g0 ?g1) (fT (Ap1 (B3m (D4 (A6 [a])) (D4 (A6 [b]))) ?g2) (oA 1 (.agg (D2 c3 16 (tnS (D4 (A6 [a]))))) (oA 3 (.agg (D2 c3 16 (tnS (D4 (A6 [b]))))) (oA 4 (.agg (D2 c3 16 (tnS (B3m (D4 (A6 [a])) (D4 (A6 [b])))))) (oA 5 (.agg [.sl (List.map c3 (E4 (B3m (D4 (A6 [a])) (D4 (A6 [b])))).vec),.sl (List.map B1 (E4 (B3m (D4 (A6 [a])) (D4 (A6 [b])))).cloud)]) z0)))))))) ?_;rotate_left 3
 refine sn<|rT<|qR (.agg [.sl (List.map c3 (E4 (B3m (D4 (A6 [a])) (D4 (A6 [b])))).vec),.sl (List.map B1 (E4 (B3m (D4 (A6 [a])) (D4 (A6 [b])))).cloud)]) (.eq ?g3);rotate_left
 case g0=>exact A0c _
 case g1=>exact A0c _
 case g2=>intro r hr;exact A7r _ _
 case g3=>rw[Bg7];rfl
end Go.Proofs.YtphcaholhacnpaaGreat
namespace Go.Proofs.YtphcaholhacnpaaGreat
open Go.E
set_option maxRecDepth 100000
set_option maxHeartbeats 4000000
theorem B6x{α β:Type}[Inhabited α]{l:List α}(g:α→β)(h:¬ l.length=0):(l.map g)[Int.toNat 0]?=some (g l[0]!):=by
 cases l with
 | nil=>simp at h
 | cons e es=>rfl
theorem B8p(r:Record)(e:Entry)(hl:r.past.cloud.length≤9223372036854775807):Con Tryz.prog 121 [.agg (c54 r),.agg (c46 e)] (.b (T0 r e)) :=
 by
 refine sC A9 [.tmp 4] 22 Tryz.func121 ?_
 intro e0 cx
 refine sq<|rG cx [2,3] [2,3] z0<|sn<|sq<|B3 (σ':=⟨[(4,.b (decide (r.sku={ data:=#[]:ByteArray }∧C8 r.past e.dot=true∨¬r.sku={ data:=#[]:ByteArray }∧r.sku=e.sku∧C8 r.past e.dot=true)))],[]⟩) ?_ ?_
 refine A5 (r.sku={ data:=#[]:ByteArray }) (fun h_1=>?_) (fun h_1=>?_)
 refine rG cx [4] [] (tT 2 (I5 h_1:AV.b (r.sku.toList == { data:=#[]:ByteArray }.toList)=AV.b true) (fT (B1m (r.past) (e.dot) (by(with_reducible assumption))) (tD 17 (C8 r.past e.dot) (r.sku={ data:=#[]:ByteArray }∧C8 r.past e.dot=true∨¬r.sku={ data:=#[]:ByteArray }∧r.sku=e.sku∧C8 r.past e.dot=true) (by simp only [eq_true h_1,tsl]) (oA 15 (.b (C8 r.past e.dot)) z0)))) ?_
 exact⟨rfl,by kernel_rfl⟩
 refine A5 (r.sku=e.sku) (fun h_2=>?_) (fun h_2=>?_)
 refine rG cx [4] [] (tT 2 (G4 h_1:AV.b (r.sku.toList == { data:=#[]:ByteArray }.toList)=AV.b false) (tT 8 (I5 h_2:AV.b (r.sku.toList == e.sku.toList)=AV.b true) (fT (B1m (r.past) (e.dot) (by(with_reducible assumption))) (tD 17 (C8 r.past e.dot) (r.sku={ data:=#[]:ByteArray }∧C8 r.past e.dot=true∨¬r.sku={ data:=#[]:ByteArray }∧r.sku=e.sku∧C8 r.past e.dot=true) (by simp only [eq_false h_1,eq_true h_2,tsl]) (oA 15 (.b (C8 r.past e.dot)) z0))))) ?_
 exact⟨rfl,by kernel_rfl⟩
 refine rG cx [4] [] (tT 2 (G4 h_1:AV.b (r.sku.toList == { data:=#[]:ByteArray }.toList)=AV.b false) (tT 8 (G4 h_2:AV.b (r.sku.toList == e.sku.toList)=AV.b false) (tD 17 false (r.sku={ data:=#[]:ByteArray }∧C8 r.past e.dot=true∨¬r.sku={ data:=#[]:ByteArray }∧r.sku=e.sku∧C8 r.past e.dot=true) (by simp only [eq_false h_1,eq_false h_2,tsl]) z0))) ?_
 exact⟨rfl,by kernel_rfl⟩
 refine sn<|rT<|qR (.b (decide (r.sku={ data:=#[]:ByteArray }∧C8 r.past e.dot=true∨¬r.sku={ data:=#[]:ByteArray }∧r.sku=e.sku∧C8 r.past e.dot=true))) (.eq ?g0);rotate_left
 case g0 =>
  refine congrArg AV.b ?_
  rw[Bool.eq_iff_iff,decide_eq_true_iff,A1a]
  constructor
  ·rintro(⟨a,b⟩ | ⟨a,b,c⟩)
   ·exact⟨.inl a,b⟩
   ·exact⟨.inr b,c⟩
  ·rintro⟨a | a,b⟩
   ·exact .inl ⟨a,b⟩
   ·by_cases k:r.sku=noneS
    ·exact .inl ⟨k,b⟩
    ·exact .inr ⟨k,a,b⟩
end Go.Proofs.YtphcaholhacnpaaGreat
namespace Go.Proofs.YtphcaholhacnpaaGreat
open Go.E
set_option maxRecDepth 100000
set_option maxHeartbeats 4000000
theorem P4(es:List Entry):L1 es noneS (-1)=C6 es:=by
 unfold L1
 rw[show es.filter (B8m noneS (-1))=es from List.filter_eq_self.2 fun e _=>by unfold B8m;simp]
 rfl
def isI1(s:Facts)(i:Int):Prop:=∀ k:Nat,(k:Int) < i→¬ B5 (A7 s.recs[k]!.past s.gone)=0∧∀ e∈s.adds,¬ T0 s.recs[k]! e=true
def Bg8(s:Facts)(i:Int)(x1:List Entry)(x2:List Int)(x3:List Span)(x4:List Record):Prop:=x1=s.adds∧x2=s.gone.vec∧x3=s.gone.cloud∧x4=s.recs∧0≤i∧i≤s.recs.length∧isI1 s i
def decI1(s:Facts)(i:Int)(x1:List Entry)(x2:List Int)(x3:List Span)(x4:List Record):Nat:=(s.recs.length-i).toNat
def isI2(s:Facts)(i j:Int):Prop:=∀ k:Nat,(k:Int) < j→¬ T0 s.recs[i.toNat]! s.adds[k]! = true
def Bg9(s:Facts)(i:Int)(j:Int)(x1:List Entry)(x2:List Int)(x3:List Span)(x4:List Record):Prop:=x1=s.adds∧x2=s.gone.vec∧x3=s.gone.cloud∧x4=s.recs∧0≤j∧j≤s.adds.length∧isI2 s i j
def decI2(s:Facts)(j:Int)(x1:List Entry)(x2:List Int)(x3:List Span)(x4:List Record):Nat:=(s.adds.length-j).toNat
def Bh0(f:Facts)(i:Int)(o:List Entry):Prop:=o=((f.adds.take i.toNat).filter fun e=>C8 f.gone e.dot == false).filter fun e=>decide (G8 f.recs e=0)
def B6y(f:Facts)(i:Int)(x1:List Entry)(x2:List Int)(x3:List Span)(x4:List Record)(o:List Entry):Prop:=x1=f.adds∧x2=f.gone.vec∧x3=f.gone.cloud∧x4=f.recs∧0≤i∧i≤f.adds.length∧(o.length:Int)≤i∧Bh0 f i o
def decL1(f:Facts)(i:Int)(x1:List Entry)(x2:List Int)(x3:List Span)(x4:List Record)(o:List Entry):Nat:=(f.adds.length-i).toNat
def B6z(f:Facts)(i:Int)(l:Bool)(j:Int):Prop:=l=true↔C8 f.gone f.adds[i.toNat]!.dot=false∧G8 (f.recs.take j.toNat) f.adds[i.toNat]! = 0
def Bh1(f:Facts)(i:Int)(o:List Entry)(l:Bool)(j:Int)(x1:List Entry)(x2:List Int)(x3:List Span)(x4:List Record)(o':List Entry):Prop:=x1=f.adds∧x2=f.gone.vec∧x3=f.gone.cloud∧x4=f.recs∧o'=o∧0≤j∧j≤f.recs.length∧B6z f i l j
def decL2(f:Facts)(l:Bool)(j:Int)(x1:List Entry)(x2:List Int)(x3:List Span)(x4:List Record)(o':List Entry):Nat:=(f.recs.length-j).toNat
def isQ1(a b:Facts)(i:Int):Prop:=∀ k:Nat,(k:Int) < i→a.adds[k]! = b.adds[k]!
def isQ2(a b:Facts)(i:Int):Prop:=∀ k:Nat,(k:Int) < i→a.recs[k]! = b.recs[k]!
def Bh2(a b:Facts)(i:Int)(x1:List Entry)(x2:List Int)(x3:List Span)(x4:List Record)(y1:List Entry)(y2:List Int)(y3:List Span)(y4:List Record):Prop:=(x1=a.adds∧x2=a.gone.vec∧x3=a.gone.cloud∧x4=a.recs)∧(y1=b.adds∧y2=b.gone.vec∧y3=b.gone.cloud∧y4=b.recs)∧0≤i∧i≤a.adds.length∧isQ1 a b i
def decQ1(a:Facts)(i:Int)(x1:List Entry)(x2:List Int)(x3:List Span)(x4:List Record)(y1:List Entry)(y2:List Int)(y3:List Span)(y4:List Record):Nat:=(a.adds.length-i).toNat
def Bh3(a b:Facts)(i:Int)(x1:List Entry)(x2:List Int)(x3:List Span)(x4:List Record)(y1:List Entry)(y2:List Int)(y3:List Span)(y4:List Record):Prop:=(x1=a.adds∧x2=a.gone.vec∧x3=a.gone.cloud∧x4=a.recs)∧(y1=b.adds∧y2=b.gone.vec∧y3=b.gone.cloud∧y4=b.recs)∧0≤i∧i≤a.recs.length∧isQ1 a b a.adds.length∧isQ2 a b i
def decQ2(a:Facts)(i:Int)(x1:List Entry)(x2:List Int)(x3:List Span)(x4:List Record)(y1:List Entry)(y2:List Int)(y3:List Span)(y4:List Record):Nat:=(a.recs.length-i).toNat
theorem Ar6(es:List Entry):(L1 es noneS (-1)).cloud.length*16≤140737488350000:=by rw[P4];exact T3 (Q9 es)
theorem lst_sz{es:List Entry}(h:E5 es=0):es.length*40≤140737488351232:=by have:=A4n (Z0 h);omega
theorem Bh4{s:Facts}(h:¬E5 s.adds=0∨¬s.gone=A3 s.gone∨¬G0 s.recs=0):okS s=false:=by
 have:=B2u h
 unfold A3j at this
 split at this
 ·omega
 ·rename_i k;exact Bool.eq_false_iff.2 k
theorem Bh5{s:Facts}(h:okF s=true)(k:¬B5 (A7 (L1 s.adds noneS (-1)) s.gone)=0):okS s=false:=by
 rw[P4]at k
 refine Bool.eq_false_iff.2 fun c=>k ?_
 exact Z5.2 fun d hd=>by
  obtain⟨e,he,rfl⟩:=(J4 (H9.1 h).1 d).1 hd
  exact(M7.1 c).2.1 e he
theorem B8q{l:List Record}{i:Int}(h0:0≤i)(hi:i < l.length):l[i.toNat]!∈l:=E3 (by omega)
theorem B8r{l:List Entry}{i:Int}(h0:0≤i)(hi:i < l.length):l[i.toNat]!∈l:=E3 (by omega)
theorem Bh6{s:Facts}{i:Int}(h0:0≤i)(hi:i < s.recs.length)(k:B5 (A7 s.recs[i.toNat]!.past s.gone)=0):okS s=false :=
 Bool.eq_false_iff.2 fun c=>(M7.1 c).2.2.1 _ (B8q h0 hi) k
theorem Bh7{s:Facts}{i j:Int}(h0:0≤i)(hi:i < s.recs.length)(j0:0≤j)(hj:j < s.adds.length)(k:T0 s.recs[i.toNat]! s.adds[j.toNat]! = true):okS s=false :=
 Bool.eq_false_iff.2 fun c=>Z1.1 ((M7.1 c).2.2.2 _ (B8r j0 hj)) ⟨_,B8q h0 hi,k⟩
theorem all_I2{s:Facts}{i j:Int}(hj:¬ j < s.adds.length)(h:isI2 s i j):∀ e∈s.adds,¬ T0 s.recs[i.toNat]! e=true:=fun e he=>by
 obtain⟨n,hn,rfl⟩:=List.mem_iff_getElem.1 he
 have:=h n (by omega)
 rwa [getElem!_pos s.adds n hn]at this
theorem Bh8{s:Facts}{i:Int}(h:okF s=true)(k:¬ ¬B5 (A7 (L1 s.adds noneS (-1)) s.gone)=0)(hi:¬ i < s.recs.length)(hI:isI1 s i):okS s=true:=by
 have k:=Classical.not_not.1 k
 rw[P4]at k
 have hr:∀ r∈s.recs,¬ B5 (A7 r.past s.gone)=0∧∀ e∈s.adds,¬ T0 r e=true:=fun r hr=>by
  obtain⟨n,hn,rfl⟩:=List.mem_iff_getElem.1 hr
  have:=hI n (by omega)
  rwa [getElem!_pos s.recs n hn]at this
 exact M7.2 ⟨h,fun e he=>Z5.1 k _ ((J4 (H9.1 h).1 _).2 ⟨e,he,rfl⟩),fun r h=>(hr r h).1,fun e he=>Z1.2 fun⟨r,hr1,hr2⟩=>(hr r hr1).2 e he hr2⟩
theorem B31{f:Facts}{i:Int}{o:List Entry}(h0:0≤i)(hi:i < f.adds.length)(ho:Bh0 f i o) :
  ((f.adds.take (i+1).toNat).filter fun e=>C8 f.gone e.dot == false).filter (fun e=>decide (G8 f.recs e=0))=o++(if C8 f.gone f.adds[i.toNat]!.dot=false∧G8 f.recs f.adds[i.toNat]! = 0 then[f.adds[i.toNat]!]else[]):=by
 rw[← D3 h0 hi,List.filter_append,List.filter_append,ho]
 congr 1
 generalize f.adds[i.toNat]! = x
 cases hx:C8 f.gone x.dot with
 | true=>simp [List.filter_cons,hx]
 | false=>by_cases hb:G8 f.recs x=0 <;> simp [List.filter_cons,hx,hb]
theorem Bh9(rs:List Record)(e:Entry):0≤G8 rs e:=by unfold G8;omega
theorem Bi0{f:Facts}{i j:Int}{l:Bool}(h0:0≤j)(hj:j < f.recs.length)(h:B6z f i l j):B6z f i (decide (l=true∧¬ T0 f.recs[j.toNat]! f.adds[i.toNat]! = true)) (j+1):=by
 unfold B6z at *
 rw[decide_eq_true_iff,h,B2m f.recs _ h0 hj]
 have:=Bh9 (f.recs.take j.toNat) f.adds[i.toNat]!
 by_cases c:T0 f.recs[j.toNat]! f.adds[i.toNat]! = true
 ·rw[if_pos c]
  constructor
  ·rintro⟨_,k⟩;exact absurd c k
  ·rintro⟨_,k⟩;omega
 ·rw[if_neg c]
  constructor
  ·rintro⟨⟨a,b⟩,_⟩;exact⟨a,by omega⟩
  ·rintro⟨a,b⟩;exact⟨⟨a,by omega⟩,c⟩
theorem B70{f:Facts}{i:Int}:B6z f i (decide ¬C8 f.gone f.adds[i.toNat]!.dot=true) 0:=by
 unfold B6z
 rw[decide_eq_true_iff,Bool.not_eq_true]
 simp [G8]
theorem B8s{f:Facts}{i j:Int}{l:Bool}(hj:¬ j < f.recs.length)(h:B6z f i l j):l=true↔C8 f.gone f.adds[i.toNat]!.dot=false∧G8 f.recs f.adds[i.toNat]! = 0:=by
 unfold B6z at h
 rwa [List.take_of_length_le (by omega)]at h
theorem B32(s:Facts)(hb:szF s)(hl:s.recs.length≤4611686018427387904):Con Tryz.prog 43 [.agg (c82 s)] (.b (okS s)) :=
 by
 have AD:¬(¬E5 s.adds=0∨¬s.gone=A3 s.gone∨¬G0 s.recs=0)→s.adds.length≤16000000000:=fun h=>A4n (Z0 (D9.1 (R7 h)).1)
 refine sC A9 [.tmp 2] 62 Tryz.func43 ?_
 intro e0 cx
 refine sq<|rG cx [1] [1] z0<|sn<|sq<|sq<|B3 (σ':=⟨[(1,.ptr (1) (0) (0) (0)),(20,.b (decide (¬E5 s.adds=0∨¬s.gone=A3 s.gone∨¬G0 s.recs=0)))],[(1,⟨0,82,.var [.sl (List.map c46 s.adds),.sl (List.map c3 s.gone.vec),.sl (List.map B1 s.gone.cloud),.sl (List.map c54 s.recs)]⟩)]⟩) ?_ ?_
 refine A5 (¬E5 s.adds=0) (fun hh1=>?_) (fun hh1=>?_)
 refine rg (A:=_∧_∧(AV.b true=AV.b (decide (¬E5 s.adds=0∨¬s.gone=A3 s.gone∨¬G0 s.recs=0)))) cx [(2,{ val:=some (.b (decide (E5 s.adds=0))),tell:=some (.b (false)) }),(15,{ tell:=some (.b (decide (¬E5 s.adds=0∨¬s.gone=A3 s.gone∨¬G0 s.recs=0))) })] [1,20] [1] ⟨(A0 hh1),(Ac5 (s.adds)),(by simp only [eq_false hh1,tsl])⟩ ?_
 exact⟨rfl,by kernel_rfl⟩
 refine A5 (¬s.gone=A3 s.gone) (fun hh2=>?_) (fun hh2=>?_)
 refine rg (A:=_∧((AV.b !decide (E5 s.adds=0))=AV.b (decide ¬E5 s.adds=0))∧_∧_∧_∧(AV.b true=AV.b (decide (¬E5 s.adds=0∨¬s.gone=A3 s.gone∨¬G0 s.recs=0)))) cx [(2,{ val:=some (B9f (Ac5 (s.adds))) }),(3,{ tell:=some (.b (decide ¬E5 s.adds=0)) }),(4,{ tell:=some (.b (false)) }),(7,{ val:=some (.b (decide (s.gone=A3 s.gone))),tell:=some (.b (false)) }),(15,{ tell:=some (.b (decide (¬E5 s.adds=0∨¬s.gone=A3 s.gone∨¬G0 s.recs=0))) })] [1,20] [1] ⟨(Ac5 (s.adds)),(X9),(A0 hh1),(A0 hh2),(A2i (s.gone) (by exact hb.1.1) (by exact hb.1.2)),(by first | (simp only [eq_false hh1,eq_false hh2,tsl];done) | simp_all)⟩ ?_
 exact⟨rfl,by kernel_rfl⟩
 refine rG cx [1,20] [1] (fT (Ac5 (s.adds)) (tQ 3 (E5 s.adds=0) (tT 4 (A0 hh1) (fT (A2i (s.gone) (by exact hb.1.1) (by exact hb.1.2)) (tQ 8 (s.gone=A3 s.gone) (tT 9 (A0 hh2) (fT (B8f (s.recs) (by exact hb.2)) (tQ 14 (G0 s.recs=0) (tT 15 (by first | (simp only [eq_false hh1,eq_false hh2,tsl];done) | simp_all:AV.b (decide ¬G0 s.recs=0)=AV.b (decide (¬E5 s.adds=0∨¬s.gone=A3 s.gone∨¬G0 s.recs=0))) (oA 2 (B9f (Ac5 (s.adds))) (oA 7 (.b (decide (s.gone=A3 s.gone))) (oA 13 (.b (decide (G0 s.recs=0))) z0)))))))))))) ?_
 exact⟨rfl,by kernel_rfl⟩
 refine sn<|dC (¬E5 s.adds=0∨¬s.gone=A3 s.gone∨¬G0 s.recs=0) (fun hh3=>?_) fun hh3=>?_
 refine sq<|rG cx [2] [] z0<|sn<|rT<|nR<|qR (.b (false)) (.eq (by rw[Bh4 hh3]))
 refine sK<|sn<|sq<|sq<|rA cx [1,27] [1] (fT (Aw0 (s.adds) ({ data:=#[]:ByteArray }) ((-1:Int)) (by exact lst_sz (D9.1 (R7 hh3)).1)) (fT (B24 (L1 s.adds { data:=#[]:ByteArray } (-1:Int)) (s.gone) (by exact Ar6 _) (by exact hb.1.1)) (tQ 6 (B5 (A7 (L1 s.adds { data:=#[]:ByteArray } (-1:Int)) s.gone)=0) (oA 2 (.agg [.sl (List.map c3 (L1 s.adds { data:=#[]:ByteArray } (-1:Int)).vec),.sl (List.map B1 (L1 s.adds { data:=#[]:ByteArray } (-1:Int)).cloud)]) (oA 5 (.b (decide (B5 (A7 (L1 s.adds { data:=#[]:ByteArray } (-1:Int)) s.gone)=0))) z0))))) ?_
 refine sn<|dC (¬B5 (A7 (L1 s.adds { data:=#[]:ByteArray } (-1:Int)) s.gone)=0) (fun hh4=>?_) fun hh4=>?_
 refine sq<|rG cx [2] [] z0<|sn<|rT<|nR<|qR (.b (false)) (.eq (by rw[Bh5 (R7 hh3) hh4]))
 refine sK<|sn<|sq<|sq<|rG cx [1,3] [1] z0<|sn<|bL 0<|sL (X:=Int×List Entry×List Int×List Span×List Record) (fun x=>⟨[(1,.ptr (1) (0) (0) (0)),(3,.i .i64 (x.1))],[(1,⟨0,82,.var [.sl (List.map c46 x.2.1),.sl (List.map c3 x.2.2.1),.sl (List.map B1 x.2.2.2.1),.sl (List.map c54 x.2.2.2.2)]⟩)]⟩) (fun x ↦ decI1 s x.1 x.2.1 x.2.2.1 x.2.2.2.1 x.2.2.2.2) (fun x ↦ Bg8 s x.1 x.2.1 x.2.2.1 x.2.2.2.1 x.2.2.2.2) [1,3] [1] (((0:Int),s.adds,s.gone.vec,s.gone.cloud,s.recs)) (show Bg8 s (0:Int) s.adds s.gone.vec s.gone.cloud s.recs from(by exact⟨rfl,rfl,rfl,rfl,by omega,by omega,fun n hn=>by omega⟩)) ?_
 rintro⟨i5,x6,x7,x8,x9⟩ h_10
 obtain⟨h11,h12,h13,h14,h15,h16,h17⟩:x6=s.adds∧x7=s.gone.vec∧x8=s.gone.cloud∧x9=s.recs∧0≤i5∧i5≤(↑s.recs.length:Int)∧isI1 s i5:=h_10
 refine sq<|rD cx [1,3,32] [1] (tL 3 c54 x9 (zB 4 (i5 <(↑x9.length:Int)))) (fun h18=>?_) fun h18=>?_
 refine sK<|sn<|sq<|bL 1<|sq<|sq<|rA cx [1,3,43] [1] (fA (0≤i5) (fG c54 x9 i5.toNat (fR 3 (fN 2 2 (fT (B24 (x9[i5.toNat]!.past) ({ vec:=x7,cloud:=x8:Past }) (by subst h11 h12 h13 h14;exact(A2y hb.2 h15 h18).1) (by subst h11 h12 h13 h14;exact hb.1.1)) (oR 3 (c54 x9[i5.toNat]!) (oA 8 (.b (decide (B5 (A7 x9[i5.toNat]!.past { vec:=x7,cloud:=x8:Past })=0))) z0))))))) ?_
 refine sn<|dC (B5 (A7 x9[i5.toNat]!.past { vec:=x7,cloud:=x8:Past })=0) (fun h19=>?_) fun h19=>?_
 refine sq<|rG cx [2] [] z0<|sn<|rT<|nR<|bR<|nR<|nR<|bR<|nR<|qR (.b (false)) (.eq (by subst h11 h12 h13 h14;rw[Bh6 h15 h18 h19]))
 refine sK<|sn<|sq<|rG cx [1,3,4] [1] z0<|sn<|bL 2<|sL (X:=Int×List Entry×List Int×List Span×List Record) (fun x=>⟨[(1,.ptr (1) (0) (0) (0)),(3,.i .i64 (i5)),(4,.i .i64 (x.1))],[(1,⟨0,82,.var [.sl (List.map c46 x.2.1),.sl (List.map c3 x.2.2.1),.sl (List.map B1 x.2.2.2.1),.sl (List.map c54 x.2.2.2.2)]⟩)]⟩) (fun x ↦ decI2 s x.1 x.2.1 x.2.2.1 x.2.2.2.1 x.2.2.2.2) (fun x ↦ Bg9 s i5 x.1 x.2.1 x.2.2.1 x.2.2.2.1 x.2.2.2.2) [1,3,4] [1] (((0:Int),x6,x7,x8,x9)) (show Bg9 s i5 (0:Int) x6 x7 x8 x9 from(by subst h11 h12 h13 h14;exact⟨rfl,rfl,rfl,rfl,by omega,by omega,fun n hn=>by omega⟩)) ?_
 rintro⟨j20,x21,x22,x23,x24⟩ h_25
 obtain⟨h26,h27,h28,h29,h30,h31,h32⟩:x21=s.adds∧x22=s.gone.vec∧x23=s.gone.cloud∧x24=s.recs∧0≤j20∧j20≤(↑s.adds.length:Int)∧isI2 s i5 j20:=h_25
 refine sq<|rD cx [1,3,4,48] [1] (tL 3 c46 x21 (zB 4 (j20 <(↑x21.length:Int)))) (fun h33=>?_) fun h33=>?_
 refine sK<|sn<|sq<|bL 3<|sq<|rA cx [1,3,4,61] [1] (fA (0≤i5) (fP ((List.map c54 x24)[i5.toNat]?=some (c54 x24[i5.toNat]!)) (by subst h14;subst h29;rw[List.getElem?_map,List.getElem?_eq_getElem (by omega),getElem!_pos s.recs i5.toNat (by omega)];rfl) (fR 3 (fN 3 3 (fA (0≤j20) (fG c46 x21 j20.toNat (fR 4 (fN 4 4 (fT (B8p (x24[i5.toNat]!) (x21[j20.toNat]!) (by subst h14;subst h29;have:=(A2y hb.2 h15 h18).1;omega)) (oR 3 (c54 x24[i5.toNat]!) (oR 8 (c46 x21[j20.toNat]!) (oA 10 (.b (T0 x24[i5.toNat]! x21[j20.toNat]!)) z0)))))))))))) ?_
 refine sn<|Y1 (T0 x24[i5.toNat]! x21[j20.toNat]!) (by kernel_rfl) (by kernel_rfl) (fun h34=>?_) (fun h34=>?_)
 refine sq<|rG cx [2] [] z0<|sn<|rT<|bR<|nR<|nR<|bR<|bR<|nR<|nR<|bR<|nR<|qR (.b (false)) (.eq (by subst h14;subst h26 h29;rw[Bh7 h15 h18 h30 h33 h34]))
 refine sK<|bN<|sn<|rG cx [1,3,4] [1] (tT 1 (B7 (by omega) (by have:=AD hh3;omega):AV.i .i64 (IntKind.i64.wrap (j20+1))=AV.i .i64 (j20+1)) z0) ?_
 refine sn<|nX ((j20+1,x21,x22,x23,x24)) (show((↑s.adds.length:Int)-(j20+1)).toNat <((↑s.adds.length:Int)-j20).toNat from(by subst h26;omega)) (show Bg9 s i5 (j20+1) x21 x22 x23 x24 from ?g20);rotate_left
 refine eX 2<|nE<|nE<|bH<|bN<|sn<|rG cx [1,3] [1] (tW 1 (i5+1) z0)<|sn<|nX ((i5+1,x21,x22,x23,x24)) (show((↑s.recs.length:Int)-(i5+1)).toNat <((↑s.recs.length:Int)-i5).toNat from(by subst h14;omega)) (show Bg8 s (i5+1) x21 x22 x23 x24 from ?g22);rotate_left
 refine eX 0<|nE<|nE<|bH<|sn<|sq<|rG cx [2] [] z0<|sn<|rT<|qR (.b (true)) (.eq (by subst h14;rw[Bh8 (R7 hh3) hh4 h18 h17]))
 case g20 =>
  subst h26 h27 h28 h29
  refine⟨rfl,rfl,rfl,rfl,by omega,by omega,fun n hn=>?_⟩
  by_cases c:n=j20.toNat
  ·rw[c,h34];simp
  ·exact h32 n (by omega)
 case g22 =>
  subst h14
  subst h26 h27 h28 h29
  refine⟨rfl,rfl,rfl,rfl,by omega,by omega,fun n hn=>?_⟩
  by_cases c:n=i5.toNat
  ·rw[c];exact⟨by rw[h12,h13]at h19;exact h19,all_I2 h33 h32⟩
  ·exact h17 n (by omega)
theorem B8t(s:Facts)(hb:szF s)(hs:s.adds.length*40≤140737488351232):Con Tryz.prog 114 [.agg (c82 s)] (.agg (c36 (J6 s))) :=
 by
 refine sC A9 [.cell 2 36] 14 Tryz.func114 ?_
 intro e0 cx
 refine sq<|rG cx [1,2] [1,2] z0<|sn<|sq<|rA cx [2] [2] (fT (Aw0 (s.adds) ({ data:=#[]:ByteArray }) ((-1:Int)) (by(with_reducible assumption))) (fT (Ap2 (s.gone) (L1 s.adds { data:=#[]:ByteArray } (-1:Int)) ?g0 ?g1) (oA 6 (.agg [.sl (List.map c3 (L1 s.adds { data:=#[]:ByteArray } (-1:Int)).vec),.sl (List.map B1 (L1 s.adds { data:=#[]:ByteArray } (-1:Int)).cloud)]) (oA 7 (.agg [.sl (List.map c3 (A7 s.gone (L1 s.adds { data:=#[]:ByteArray } (-1:Int))).vec),.sl (List.map B1 (A7 s.gone (L1 s.adds { data:=#[]:ByteArray } (-1:Int))).cloud)]) z0)))) ?_;rotate_left 2
 refine sn<|rT<|qR (.agg [.sl (List.map c46 s.adds),.sl (List.map c3 (A7 s.gone (L1 s.adds { data:=#[]:ByteArray } (-1:Int))).vec),.sl (List.map B1 (A7 s.gone (L1 s.adds { data:=#[]:ByteArray } (-1:Int))).cloud),.sl (List.map c54 s.recs)]) (.eq ?g2);rotate_left
 case g0=>exact hb.1.1
 case g1=>exact Ar6 _
 case g2=>rw[show(⟨#[]⟩:ByteArray)=noneS from rfl,P4];rfl
theorem B33(f:Facts)(hb:szF f)(hs:f.adds.length*40≤140737488351232)(ht:Y5 [C6 f.adds,f.gone]*16≤140737488350000):Con Tryz.prog 129 [.agg (c36 f)] (.agg (c26 (B4 f))) :=
 by
 refine sC A9 [.cell 2 26] 10 Tryz.func129 ?_
 intro e0 cx
 refine sq<|rG cx [1,2] [1,2] z0<|sn<|sq<|rA cx [2] [2] (fT (Aw0 (f.adds) ({ data:=#[]:ByteArray }) ((-1:Int)) (by(with_reducible assumption))) (fT (B8b ([L1 f.adds { data:=#[]:ByteArray } (-1:Int),f.gone]) ?g0) (oA 2 (.agg [.sl (List.map c3 (L1 f.adds { data:=#[]:ByteArray } (-1:Int)).vec),.sl (List.map B1 (L1 f.adds { data:=#[]:ByteArray } (-1:Int)).cloud)]) (oA 6 (.agg [.sl (List.map c3 (C2 [L1 f.adds { data:=#[]:ByteArray } (-1:Int),f.gone]).vec),.sl (List.map B1 (C2 [L1 f.adds { data:=#[]:ByteArray } (-1:Int),f.gone]).cloud)]) z0)))) ?_;rotate_left
 refine sn<|rT<|qR (.agg [.sl (List.map c3 (C2 [L1 f.adds { data:=#[]:ByteArray } (-1:Int),f.gone]).vec),.sl (List.map B1 (C2 [L1 f.adds { data:=#[]:ByteArray } (-1:Int),f.gone]).cloud)]) (.eq ?g1);rotate_left
 case g0=>rw[show(⟨#[]⟩:ByteArray)=noneS from rfl,P4];exact ht
 case g1=>rw[show(⟨#[]⟩:ByteArray)=noneS from rfl,P4];rfl
theorem B34(f:Facts)(hb:szF f)(hs:f.adds.length*40≤140737488351232)(hl:f.recs.length≤4611686018427387904):Con Tryz.prog 130 [.agg (c36 f)] (.sl ((B8 f).map c46)) :=
 by
 have GT:∀ {i:Int},0≤i→i < f.adds.length→(f.adds.map c46)[i.toNat]?=some (c46 f.adds[i.toNat]!):=fun {i} h0 h=>by
  rw[List.getElem?_map,List.getElem?_eq_getElem (by omega),getElem!_pos f.adds i.toNat (by omega)];rfl
 refine sC A9 [.tmp 2] 56 Tryz.func130 ?_
 intro e0 cx
 refine sq<|rG cx [1] [1] z0<|sn<|sq<|rG cx [1,3] [1] z0<|sn<|sq<|sq<|rG cx [1,3,4] [1] z0<|sn<|bL 0<|E9 3 1003 46 4 (σ':=⟨[(1,.ptr (1) (0) (0) (0)),(3,.own 1003 0),(4,.i .i64 ((0:Int)))],[(1,⟨0,36,.var [.sl (List.map c46 f.adds),.sl (List.map c3 f.gone.vec),.sl (List.map B1 f.gone.cloud),.sl (List.map c54 f.recs)]⟩),(1003,⟨0,46,.row 4 (List.map c46 [])⟩)]⟩) (by kernel_rfl)<|sL (X:=Int×List Entry×List Int×List Span×List Record×List Entry) (fun x=>⟨[(1,.ptr (1) (0) (0) (0)),(3,.own 1003 0),(4,.i .i64 (x.1))],[(1,⟨0,36,.var [.sl (List.map c46 x.2.1),.sl (List.map c3 x.2.2.1),.sl (List.map B1 x.2.2.2.1),.sl (List.map c54 x.2.2.2.2.1)]⟩),(1003,⟨0,46,.row 4 (List.map c46 x.2.2.2.2.2)⟩)]⟩) (fun x ↦ decL1 f x.1 x.2.1 x.2.2.1 x.2.2.2.1 x.2.2.2.2.1 x.2.2.2.2.2) (fun x ↦ B6y f x.1 x.2.1 x.2.2.1 x.2.2.2.1 x.2.2.2.2.1 x.2.2.2.2.2) [1,3,4] [1,1003] (((0:Int),f.adds,f.gone.vec,f.gone.cloud,f.recs,[])) (show B6y f (0:Int) f.adds f.gone.vec f.gone.cloud f.recs []from(by exact⟨rfl,rfl,rfl,rfl,by omega,by omega,by simp,by simp [Bh0]⟩)) ?_
 rintro⟨i0,xx1,xx2,xx3,xx4,o5⟩ h_6
 obtain⟨h7,h8,h9,h10,h11,h12,h13,h14⟩:xx1=f.adds∧xx2=f.gone.vec∧xx3=f.gone.cloud∧xx4=f.recs∧0≤i0∧i0≤(↑f.adds.length:Int)∧(↑o5.length:Int)≤i0∧Bh0 f i0 o5:=h_6
 refine sq<|rD cx [1,3,4,11] [1,1003] (tL 3 c46 xx1 (zB 4 (i0 <(↑xx1.length:Int)))) (fun h15=>?_) fun h15=>?_
 refine sK<|sn<|sq<|bL 1<|sq<|rA cx [1,3,4,5] [1,1003] (fA (0≤i0) (fG c46 xx1 i0.toNat (fR 4 (fN 2 4 (fT (B1m ({ vec:=xx2,cloud:=xx3:Past }) (xx1[i0.toNat]!.dot) (by subst h7 h8 h9 h10;have:=hb.1.1;show f.gone.cloud.length≤_;omega)) (tT 9 (E2:(AV.b !C8 { vec:=xx2,cloud:=xx3:Past } xx1[i0.toNat]!.dot)=AV.b (decide ¬C8 { vec:=xx2,cloud:=xx3:Past } xx1[i0.toNat]!.dot=true)) (oR 5 (c46 xx1[i0.toNat]!) (oA 8 (.b (C8 { vec:=xx2,cloud:=xx3:Past } xx1[i0.toNat]!.dot)) z0)))))))) ?_
 refine sn<|sq<|sq<|rG cx [1,3,4,5,6] [1,1003] z0<|sn<|bL 2<|sL (X:=Bool×Int×List Entry×List Int×List Span×List Record×List Entry) (fun x=>⟨[(1,.ptr (1) (0) (0) (0)),(3,.own 1003 0),(4,.i .i64 (i0)),(5,.b (x.1)),(6,.i .i64 (x.2.1))],[(1,⟨0,36,.var [.sl (List.map c46 x.2.2.1),.sl (List.map c3 x.2.2.2.1),.sl (List.map B1 x.2.2.2.2.1),.sl (List.map c54 x.2.2.2.2.2.1)]⟩),(1003,⟨0,46,.row 4 (List.map c46 x.2.2.2.2.2.2)⟩)]⟩) (fun x ↦ decL2 f x.1 x.2.1 x.2.2.1 x.2.2.2.1 x.2.2.2.2.1 x.2.2.2.2.2.1 x.2.2.2.2.2.2) (fun x ↦ Bh1 f i0 o5 x.1 x.2.1 x.2.2.1 x.2.2.2.1 x.2.2.2.2.1 x.2.2.2.2.2.1 x.2.2.2.2.2.2) [1,3,4,5,6] [1,1003] ((decide ¬C8 { vec:=xx2,cloud:=xx3:Past } xx1[i0.toNat]!.dot=true,(0:Int),xx1,xx2,xx3,xx4,o5)) (show Bh1 f i0 o5 (decide ¬C8 { vec:=xx2,cloud:=xx3:Past } xx1[i0.toNat]!.dot=true) (0:Int) xx1 xx2 xx3 xx4 o5 from(by subst h7 h8 h9 h10;exact⟨rfl,rfl,rfl,rfl,rfl,by omega,by omega,B70⟩)) ?_
 rintro⟨l16,j17,x18,x19,x20,x21,o22⟩ h_23
 obtain⟨h24,h25,h26,h27,h28,h29,h30,h31⟩:x18=f.adds∧x19=f.gone.vec∧x20=f.gone.cloud∧x21=f.recs∧o22=o5∧0≤j17∧j17≤(↑f.recs.length:Int)∧B6z f i0 l16 j17:=h_23
 refine sq<|rD cx [1,3,4,5,6,28] [1,1003] (tL 3 c54 x21 (zB 4 (j17 <(↑x21.length:Int)))) (fun h32=>?_) fun h32=>?_
 refine sK<|sn<|sq<|bL 3<|B3 (σ':=⟨[(1,.ptr (1) (0) (0) (0)),(3,.own 1003 0),(4,.i .i64 (i0)),(5,.b (decide (l16=true∧¬T0 x21[j17.toNat]! x18[i0.toNat]! = true))),(6,.i .i64 (j17))],[(1,⟨0,36,.var [.sl (List.map c46 x18),.sl (List.map c3 x19),.sl (List.map B1 x20),.sl (List.map c54 x21)]⟩),(1003,⟨0,46,.row 4 (List.map c46 o22)⟩)]⟩) ?_ ?_
 refine A5 (l16=true) (fun h34=>?_) (fun h34=>?_)
 refine rA cx [1,3,4,5,6] [1,1003] (tT 0 (L4 h34) (fA (0≤j17) (fG c54 x21 j17.toNat (fR 3 (fN 3 3 (fA (0≤i0) (fP ((List.map c46 x18)[i0.toNat]?=some (c46 x18[i0.toNat]!)) (by subst h7;subst h24;exact GT h11 h15) (fR 4 (fN 4 4 (fT (B8p (x21[j17.toNat]!) (x18[i0.toNat]!) (by subst h27;have:=(A2y hb.2 h29 h32).1;omega)) (tT 13 (E2:(AV.b !T0 x21[j17.toNat]! x18[i0.toNat]!)=AV.b (decide ¬T0 x21[j17.toNat]! x18[i0.toNat]! = true)) (tD 15 (decide ¬T0 x21[j17.toNat]! x18[i0.toNat]! = true) (l16=true∧¬T0 x21[j17.toNat]! x18[i0.toNat]! = true) (by simp only [eq_true h34,tsl]) (oR 5 (c54 x21[j17.toNat]!) (oR 10 (c46 x18[i0.toNat]!) (oA 12 (.b (T0 x21[j17.toNat]! x18[i0.toNat]!)) z0))))))))))))))) ?_
 exact⟨rfl,by kernel_rfl⟩
 refine rA cx [1,3,4,5,6] [1,1003] (tT 0 (M9 h34:AV.b l16=AV.b false) (tD 15 false (l16=true∧¬T0 x21[j17.toNat]! x18[i0.toNat]! = true) (by simp only [eq_false h34,tsl]) z0)) ?_
 exact⟨rfl,by kernel_rfl⟩
 refine bN<|sn<|rG cx [1,3,4,5,6] [1,1003] (tW 1 (j17+1) z0)<|sn<|nX ((decide (l16=true∧¬T0 x21[j17.toNat]! x18[i0.toNat]! = true),j17+1,x18,x19,x20,x21,o22)) (show((↑f.recs.length:Int)-(j17+1)).toNat <((↑f.recs.length:Int)-j17).toNat from(by subst h27;omega)) (show Bh1 f i0 o5 (decide (l16=true∧¬T0 x21[j17.toNat]! x18[i0.toNat]! = true)) (j17+1) x18 x19 x20 x21 o22 from ?g6);rotate_left
 refine eX 2<|nE<|nE<|bH<|sn<|sq<|rG cx [1,3,4,46] [1,1003] z0<|sn<|Y1 (l16) (by kernel_rfl) (by kernel_rfl) (fun h35=>?_) (fun h35=>?_)
 refine rG cx [1,3,4] [1,1003] (fA (0≤i0) (fP ((List.map c46 x18)[i0.toNat]?=some (c46 x18[i0.toNat]!)) (by subst h7;subst h24;exact GT h11 h15) (fR 4 (fN 4 4 (fR 46 (fR 4 (fR 4 (fX c46 [x18[i0.toNat]!] 4 (fP ((List.map c46 o22).length+(List.map c46 [x18[i0.toNat]!]).length≤maxLen) (by subst h28;simp only [List.length_map,List.length_cons,List.length_nil,Go.maxLen];omega) (fP (((List.map c46 o22).length+(List.map c46 [x18[i0.toNat]!]).length)*(40:Nat)≤(140737488355328:Nat)) (by subst h28;subst h7;simp only [List.length_map,List.length_cons,List.length_nil];omega) (fM c46 o22 [x18[i0.toNat]!] (oR 4 (c46 x18[i0.toNat]!) (oV 7 { rows:=some (List.map c46 (o22++[x18[i0.toNat]!])) } z0))))))))))))) ?_
 refine bN<|sn<|rG cx [1,3,4] [1,1003] (tW 1 (i0+1) z0)<|sn<|nX ((i0+1,x18,x19,x20,x21,o22++[x18[i0.toNat]!])) (show((↑f.adds.length:Int)-(i0+1)).toNat <((↑f.adds.length:Int)-i0).toNat from(by subst h7;omega)) (show B6y f (i0+1) x18 x19 x20 x21 (o22++[x18[i0.toNat]!])from ?g11);rotate_left
 refine sK<|bN<|sn<|rG cx [1,3,4] [1,1003] (tW 1 (i0+1) z0)<|sn<|nX ((i0+1,x18,x19,x20,x21,o22)) (show((↑f.adds.length:Int)-(i0+1)).toNat <((↑f.adds.length:Int)-i0).toNat from(by subst h7;omega)) (show B6y f (i0+1) x18 x19 x20 x21 o22 from ?g13);rotate_left
 refine eX 0<|nE<|nE<|bH<|sn<|sq<|rG cx [2] [1003] z0<|sn<|rT<|qR (.sl (List.map c46 o5)) (.eq ?g14);rotate_left
 case g6 =>
  subst h24 h25 h26 h27 h28
  exact⟨rfl,rfl,rfl,rfl,rfl,by omega,by omega,Bi0 h29 h32 h31⟩
 case g11 =>
  subst h7
  subst h24 h25 h26 h27 h28
  refine⟨rfl,rfl,rfl,rfl,by omega,by omega,by rw[List.length_append,List.length_singleton];omega,?_⟩
  unfold Bh0
  rw[B31 h11 h15 h14,if_pos ((B8s h32 h31).1 h35)]
 case g13 =>
  subst h7
  subst h24 h25 h26 h27 h28
  refine⟨rfl,rfl,rfl,rfl,by omega,by omega,by omega,?_⟩
  unfold Bh0
  rw[B31 h11 h15 h14,if_neg (fun c=>by rw[(B8s h32 h31).2 c]at h35;cases h35),List.append_nil]
 case g14 =>
  subst h7
  unfold Bh0 at h14
  rw[h14,List.take_of_length_le (by omega)]
  rfl
theorem B8u(rs:List Record)(p:Past)(hb:szQ rs)(hl:rs.length*64≤140737488350000)(hp:szP p):Con Tryz.prog 131 [.sl (rs.map c54),.agg (c26 p)] (.sl ((I3 rs p).map c54)) :=
 by
 refine lN 0 c54 (rs) Tryz.func131 fun hl_0=>sC A9 [.tmp 4] 29 Tryz.func131 ?_
 intro e0 cx
 refine sq<|rG cx [0,3] [3] z0<|sn<|sq<|rG cx [0,3,5] [3] z0<|sn<|sq<|sq<|rG cx [0,3,5,6] [3] z0<|sn<|bL 0<|E9 5 1005 54 3 (σ':=⟨[(0,.sl (List.map c54 rs)),(3,.ptr (3) (0) (0) (0)),(5,.own 1005 0),(6,.i .i64 ((0:Int)))],[(3,⟨0,26,.var [.sl (List.map c3 p.vec),.sl (List.map B1 p.cloud)]⟩),(1005,⟨0,54,.row 3 (List.map c54 [])⟩)]⟩) (by kernel_rfl)<|sL (X:=Int×List Int×List Span×List Record) (fun x=>⟨[(0,.sl (List.map c54 rs)),(3,.ptr (3) (0) (0) (0)),(5,.own 1005 0),(6,.i .i64 (x.1))],[(3,⟨0,26,.var [.sl (List.map c3 x.2.1),.sl (List.map B1 x.2.2.1)]⟩),(1005,⟨0,54,.row 3 (List.map c54 x.2.2.2)⟩)]⟩) (fun x ↦ decWt rs x.1 x.2.1 x.2.2.1 x.2.2.2) (fun x ↦ A5r rs p x.1 x.2.1 x.2.2.1 x.2.2.2) [0,3,5,6] [3,1005] (((0:Int),p.vec,p.cloud,[])) (show A5r rs p (0:Int) p.vec p.cloud []from(by exact⟨rfl,rfl,by omega,by omega,by simp,rfl⟩)) ?_
 rintro⟨i0,v1,c2,o3⟩ h_4
 obtain⟨hh5,h6,h7,h8,h9,h10⟩:v1=p.vec∧c2=p.cloud∧0≤i0∧i0≤(↑rs.length:Int)∧(↑o3.length:Int)≤i0∧o3=I3 (List.take i0.toNat rs) p:=h_4
 refine sq<|rD cx [0,3,5,6,10] [3,1005] (tL 2 c54 rs (zB 3 (i0 <(↑rs.length:Int)))) (fun h11=>?_) fun h11=>?_
 refine sK<|sn<|sq<|bL 1<|sq<|rA cx [0,3,5,6,20] [3,1005] (fA (0≤i0) (fG c54 rs i0.toNat (fR 3 (fN 2 2 (fT (B24 (rs[i0.toNat]!.past) ({ vec:=v1,cloud:=c2:Past }) (by exact(A2y hb h7 h11).1) (by subst h6;exact hp.1)) (tQ 7 (B5 (A7 rs[i0.toNat]!.past { vec:=v1,cloud:=c2:Past })=0) (oR 2 (c54 rs[i0.toNat]!) (oA 6 (.b (decide (B5 (A7 rs[i0.toNat]!.past { vec:=v1,cloud:=c2:Past })=0))) z0)))))))) ?_
 refine sn<|dC (¬B5 (A7 rs[i0.toNat]!.past { vec:=v1,cloud:=c2:Past })=0) (fun h12=>?_) fun h12=>?_
 refine rG cx [0,3,5,6] [3,1005] (fA (0≤i0) (fG c54 rs i0.toNat (fR 3 (fN 3 3 (fR 54 (fR 3 (fR 3 (fX c54 [rs[i0.toNat]!] 3 (fS c54 o3 c54 [rs[i0.toNat]!] (fP (((List.map c54 o3).length+(List.map c54 [rs[i0.toNat]!]).length)*(64:Nat)≤(140737488355328:Nat)) (by(simp only [Go.maxLen,List.length_map,List.length_append,List.length_cons,List.length_nil];omega)) (fM c54 o3 [rs[i0.toNat]!] (oR 3 (c54 rs[i0.toNat]!) (oV 6 { rows:=some (List.map c54 (o3++[rs[i0.toNat]!])) } z0)))))))))))))<|bN<|sn<|rG cx [0,3,5,6] [3,1005] (tW 1 (i0+1) z0)<|sn<|nX ((i0+1,v1,c2,o3++[rs[i0.toNat]!])) (show((↑rs.length:Int)-(i0+1)).toNat <((↑rs.length:Int)-i0).toNat from(by omega)) (show A5r rs p (i0+1) v1 c2 (o3++[rs[i0.toNat]!])from ?g3);rotate_left
 refine sK<|bN<|sn<|rG cx [0,3,5,6] [3,1005] (tW 1 (i0+1) z0)<|sn<|nX ((i0+1,v1,c2,o3)) (show((↑rs.length:Int)-(i0+1)).toNat <((↑rs.length:Int)-i0).toNat from(by omega)) (show A5r rs p (i0+1) v1 c2 o3 from(by subst hh5 h6;exact B2h h7 h11 h9 h10 h12))
 refine eX 0<|nE<|nE<|bH<|sn<|sq<|rG cx [4] [1005] z0<|sn<|rT<|qR (.sl (List.map c54 o3)) (.eq (by rw[h10,List.take_of_length_le (by omega)]))
 case g3 =>
  subst hh5 h6
  exact⟨rfl,rfl,by omega,by omega,by rw[List.length_append,List.length_singleton];omega,by rw[Ai0 h7 h11 h10,if_neg h12]⟩
theorem Bi1(f:Facts)(hb:szF f)(hs:f.adds.length*40≤140737488351232)(hl:f.recs.length*64≤140737488350000)(ht:Y5 [C6 f.adds,f.gone]*16≤140737488350000):Con Tryz.prog 53 [.agg (c36 f)] (.agg (c82 (stF f))) :=
 by
 refine sC A9 [.cell 2 82] 14 Tryz.func53 ?_
 intro e0 cx
 refine sq<|rG cx [1,2] [1,2] z0<|sn<|sq<|rG cx [1,2,3] [1,2,3] (fT (B33 (f) (by(with_reducible assumption)) (by(with_reducible assumption)) (by(with_reducible assumption))) (oA 1 (.agg [.sl (List.map c3 (B4 f).vec),.sl (List.map B1 (B4 f).cloud)]) z0))<|sn<|sq<|rA cx [2] [2] (fT (B34 (f) (by(with_reducible assumption)) (by(with_reducible assumption)) (by omega)) (fT (B8u (f.recs) (B4 f) ?g0 (by(with_reducible assumption)) ?g1) (oA 1 (.sl (List.map c46 (B8 f))) (oA 6 (.sl (List.map c54 (I3 f.recs (B4 f)))) z0)))) ?_;rotate_left 2
 refine sn<|rT<|qR (.agg [.sl (List.map c46 (B8 f)),.sl (List.map c3 (B4 f).vec),.sl (List.map B1 (B4 f).cloud),.sl (List.map c54 (I3 f.recs (B4 f)))]) (.eq ?g2);rotate_left
 case g0=>exact hb.2
 case g1=>have:=N2 (A6 [C6 f.adds,f.gone]);exact⟨T3 (J5 f),by show(E4 (A6 [C6 f.adds,f.gone])).vec.length≤_;omega⟩
 case g2=>rfl
theorem B71(a b:Facts)(hb:szF a)(hl:a.recs.length≤4611686018427387904)(hk:a.adds.length≤4611686018427387904):Con Tryz.prog 44 [.agg (c82 a),.agg (c82 b)] (.b (decide (a=b))) :=
 by
 have LA:¬(¬(a.adds.length:Int)=b.adds.length∨¬a.gone=b.gone∨¬(a.recs.length:Int)=b.recs.length)→a.adds.length=b.adds.length:=fun h=>by have:=Classical.not_not.1 fun k=>h (.inl k);omega
 have LN:¬(¬(a.adds.length:Int)=b.adds.length∨¬a.gone=b.gone∨¬(a.recs.length:Int)=b.recs.length)→a.recs.length=b.recs.length:=fun h=>by have:=Classical.not_not.1 fun k=>h (.inr (.inr k));omega
 have GT:∀(l:List Record) (i:Int),0≤i→i < l.length→(l.map c54)[i.toNat]?=some (c54 l[i.toNat]!):=fun l i h0 h=>by
  rw[List.getElem?_map,List.getElem?_eq_getElem (by omega),getElem!_pos l i.toNat (by omega)];rfl
 have Z:szF a:=hb
 refine sC A9 [.tmp 4] 85 Tryz.func44 ?_
 intro e0 cx
 refine sq<|rG cx [2,3] [2,3] z0<|sn<|sq<|sq<|B3 (σ':=⟨[(2,.ptr (2) (0) (0) (0)),(3,.ptr (3) (0) (0) (0)),(30,.b (decide (¬(↑a.adds.length:Int)=(↑b.adds.length:Int)∨¬a.gone=b.gone∨¬(↑a.recs.length:Int)=(↑b.recs.length:Int))))],[(2,⟨0,82,.var [.sl (List.map c46 a.adds),.sl (List.map c3 a.gone.vec),.sl (List.map B1 a.gone.cloud),.sl (List.map c54 a.recs)]⟩),(3,⟨0,82,.var [.sl (List.map c46 b.adds),.sl (List.map c3 b.gone.vec),.sl (List.map B1 b.gone.cloud),.sl (List.map c54 b.recs)]⟩)]⟩) ?_ ?_
 refine A5 (¬(↑a.adds.length:Int)=(↑b.adds.length:Int)) (fun hh1=>?_) (fun hh1=>?_)
 refine rG cx [2,3,30] [2,3] (tL 2 c46 a.adds (tL 5 c46 b.adds (tT 6 (F3 hh1:AV.b ((↑a.adds.length:Int) !=(↑b.adds.length:Int))=AV.b true) (tD 23 true (¬(↑a.adds.length:Int)=(↑b.adds.length:Int)∨¬a.gone=b.gone∨¬(↑a.recs.length:Int)=(↑b.recs.length:Int)) (by simp only [eq_false hh1,tsl]) z0)))) ?_
 exact⟨rfl,by kernel_rfl⟩
 refine A5 (¬a.gone=b.gone) (fun hh2=>?_) (fun hh2=>?_)
 refine rg (A:=_∧_∧(AV.b ((↑a.adds.length:Int) !=(↑b.adds.length:Int))=AV.b (decide ¬(↑a.adds.length:Int)=(↑b.adds.length:Int)))∧_∧_∧_∧(AV.b true=AV.b (decide (¬(↑a.adds.length:Int)=(↑b.adds.length:Int)∨¬a.gone=b.gone∨¬(↑a.recs.length:Int)=(↑b.recs.length:Int))))) cx [(2,{ tell:=some (.i .i64 ((↑a.adds.length:Int))) }),(5,{ tell:=some (.i .i64 ((↑b.adds.length:Int))) }),(6,{ tell:=some (.b (decide ¬(↑a.adds.length:Int)=(↑b.adds.length:Int))) }),(7,{ tell:=some (.b (false)) }),(12,{ val:=some (.b (decide (a.gone=b.gone))),tell:=some (.b (false)) }),(23,{ tell:=some (.b (decide (¬(↑a.adds.length:Int)=(↑b.adds.length:Int)∨¬a.gone=b.gone∨¬(↑a.recs.length:Int)=(↑b.recs.length:Int)))) })] [2,3,30] [2,3] ⟨(A7a c46 a.adds),(A7a c46 b.adds),(A3c),(A0 hh1),(A0 hh2),(Ah1 (a.gone) (b.gone) (by exact Z.1.2) (by have:=Z.1.1;omega)),(by first | (simp only [eq_false hh1,eq_false hh2,tsl];done) | simp_all)⟩ ?_
 exact⟨rfl,by kernel_rfl⟩
 refine rG cx [2,3,30] [2,3] (tL 2 c46 a.adds (tL 5 c46 b.adds (tN 6 (↑a.adds.length:Int) (↑b.adds.length:Int) (tT 7 (A0 hh1) (fT (Ah1 (a.gone) (b.gone) (by exact Z.1.2) (by have:=Z.1.1;omega)) (tQ 13 (a.gone=b.gone) (tT 14 (A0 hh2) (tL 18 c54 a.recs (tL 21 c54 b.recs (tN 22 (↑a.recs.length:Int) (↑b.recs.length:Int) (tT 23 (by first | (simp only [eq_false hh1,eq_false hh2,tsl];done) | simp_all:AV.b (decide ¬(↑a.recs.length:Int)=(↑b.recs.length:Int))=AV.b (decide (¬(↑a.adds.length:Int)=(↑b.adds.length:Int)∨¬a.gone=b.gone∨¬(↑a.recs.length:Int)=(↑b.recs.length:Int)))) (oA 12 (.b (decide (a.gone=b.gone))) z0)))))))))))) ?_
 exact⟨rfl,by kernel_rfl⟩
 refine sn<|dC (¬(↑a.adds.length:Int)=(↑b.adds.length:Int)∨¬a.gone=b.gone∨¬(↑a.recs.length:Int)=(↑b.recs.length:Int)) (fun hh3=>?_) fun hh3=>?_
 refine sq<|rG cx [4] [] z0<|sn<|rT<|nR<|qR (.b (false)) (.eq ?g4);rotate_left
 refine sK<|sn<|sq<|sq<|rG cx [2,3,5] [2,3] z0<|sn<|bL 0<|sL (X:=Int×List Entry×List Int×List Span×List Record×List Entry×List Int×List Span×List Record) (fun x=>⟨[(2,.ptr (2) (0) (0) (0)),(3,.ptr (3) (0) (0) (0)),(5,.i .i64 (x.1))],[(2,⟨0,82,.var [.sl (List.map c46 x.2.1),.sl (List.map c3 x.2.2.1),.sl (List.map B1 x.2.2.2.1),.sl (List.map c54 x.2.2.2.2.1)]⟩),(3,⟨0,82,.var [.sl (List.map c46 x.2.2.2.2.2.1),.sl (List.map c3 x.2.2.2.2.2.2.1),.sl (List.map B1 x.2.2.2.2.2.2.2.1),.sl (List.map c54 x.2.2.2.2.2.2.2.2)]⟩)]⟩) (fun x ↦ decQ1 a x.1 x.2.1 x.2.2.1 x.2.2.2.1 x.2.2.2.2.1 x.2.2.2.2.2.1 x.2.2.2.2.2.2.1 x.2.2.2.2.2.2.2.1 x.2.2.2.2.2.2.2.2) (fun x ↦ Bh2 a b x.1 x.2.1 x.2.2.1 x.2.2.2.1 x.2.2.2.2.1 x.2.2.2.2.2.1 x.2.2.2.2.2.2.1 x.2.2.2.2.2.2.2.1 x.2.2.2.2.2.2.2.2) [2,3,5] [2,3] (((0:Int),a.adds,a.gone.vec,a.gone.cloud,a.recs,b.adds,b.gone.vec,b.gone.cloud,b.recs)) (show Bh2 a b (0:Int) a.adds a.gone.vec a.gone.cloud a.recs b.adds b.gone.vec b.gone.cloud b.recs from(by exact⟨⟨rfl,rfl,rfl,rfl⟩,⟨rfl,rfl,rfl,rfl⟩,by omega,by omega,fun k hk=>by omega⟩)) ?_
 rintro⟨i4,x5,x6,x7,x8,y9,y10,y11,y12⟩ h_13
 obtain⟨h14,h15,h16,h17,h18⟩:(x5=a.adds∧x6=a.gone.vec∧x7=a.gone.cloud∧x8=a.recs)∧(y9=b.adds∧y10=b.gone.vec∧y11=b.gone.cloud∧y12=b.recs)∧0≤i4∧i4≤(↑a.adds.length:Int)∧isQ1 a b i4:=h_13
 refine sq<|rD cx [2,3,5,35] [2,3] (tL 3 c46 x5 (zB 4 (i4 <(↑x5.length:Int)))) (fun h19=>?_) fun h19=>?_
 refine sK<|sn<|sq<|bL 1<|sq<|rA cx [2,3,5,48] [2,3] (fA (0≤i4) (fG c46 x5 i4.toNat (fR 4 (fN 4 4 (fA (0≤i4) (fP ((List.map c46 y9)[i4.toNat]?=some (c46 y9[i4.toNat]!)) (by have:=LA hh3;rw[h15.1];rw[h14.1]at h19;rw[List.getElem?_map,List.getElem?_eq_getElem (by omega),getElem!_pos b.adds i4.toNat (by omega)];rfl) (fR 4 (fN 4 4 (fT (A45 (eq46 x5[i4.toNat]! y9[i4.toNat]!)) (oR 3 (c46 x5[i4.toNat]!) (oR 8 (c46 y9[i4.toNat]!) (oA 10 (.b (decide ¬x5[i4.toNat]! = y9[i4.toNat]!)) z0)))))))))))) ?_
 refine sn<|dC (¬x5[i4.toNat]! = y9[i4.toNat]!) (fun h20=>?_) fun h20=>?_
 refine sq<|rG cx [4] [] z0<|sn<|rT<|bR<|nR<|nR<|bR<|nR<|qR (.b (false)) (.eq (by rw[h14.1,h15.1]at h20;exact congrArg AV.b (decide_eq_false fun k=>h20 (by rw[k])).symm))
 refine sK<|bN<|sn<|rG cx [2,3,5] [2,3] (tW 1 (i4+1) z0)<|sn<|nX ((i4+1,x5,x6,x7,x8,y9,y10,y11,y12)) (show((↑a.adds.length:Int)-(i4+1)).toNat <((↑a.adds.length:Int)-i4).toNat from(by rw[h14.1]at h19;omega)) (show Bh2 a b (i4+1) x5 x6 x7 x8 y9 y10 y11 y12 from ?g9);rotate_left
 refine eX 0<|nE<|nE<|bH<|sn<|sq<|sq<|rG cx [2,3,6] [2,3] z0<|sn<|bL 2<|sL (X:=Int×List Entry×List Int×List Span×List Record×List Entry×List Int×List Span×List Record) (fun x=>⟨[(2,.ptr (2) (0) (0) (0)),(3,.ptr (3) (0) (0) (0)),(6,.i .i64 (x.1))],[(2,⟨0,82,.var [.sl (List.map c46 x.2.1),.sl (List.map c3 x.2.2.1),.sl (List.map B1 x.2.2.2.1),.sl (List.map c54 x.2.2.2.2.1)]⟩),(3,⟨0,82,.var [.sl (List.map c46 x.2.2.2.2.2.1),.sl (List.map c3 x.2.2.2.2.2.2.1),.sl (List.map B1 x.2.2.2.2.2.2.2.1),.sl (List.map c54 x.2.2.2.2.2.2.2.2)]⟩)]⟩) (fun x ↦ decQ2 a x.1 x.2.1 x.2.2.1 x.2.2.2.1 x.2.2.2.2.1 x.2.2.2.2.2.1 x.2.2.2.2.2.2.1 x.2.2.2.2.2.2.2.1 x.2.2.2.2.2.2.2.2) (fun x ↦ Bh3 a b x.1 x.2.1 x.2.2.1 x.2.2.2.1 x.2.2.2.2.1 x.2.2.2.2.2.1 x.2.2.2.2.2.2.1 x.2.2.2.2.2.2.2.1 x.2.2.2.2.2.2.2.2) [2,3,6] [2,3] (((0:Int),x5,x6,x7,x8,y9,y10,y11,y12)) (show Bh3 a b (0:Int) x5 x6 x7 x8 y9 y10 y11 y12 from ?g10) ?_;rotate_left
 rintro⟨i21,x22,x23,x24,x25,y26,y27,y28,y29⟩ h_30
 obtain⟨h31,h32,h33,h34,h35,h36⟩:(x22=a.adds∧x23=a.gone.vec∧x24=a.gone.cloud∧x25=a.recs)∧(y26=b.adds∧y27=b.gone.vec∧y28=b.gone.cloud∧y29=b.recs)∧0≤i21∧i21≤(↑a.recs.length:Int)∧isQ1 a b (↑a.adds.length:Int)∧isQ2 a b i21:=h_30
 refine sq<|rD cx [2,3,6,53] [2,3] (tL 3 c54 x25 (zB 4 (i21 <(↑x25.length:Int)))) (fun h37=>?_) fun h37=>?_
 refine sK<|sn<|sq<|bL 3<|sq<|B3 (σ':=⟨[(2,.ptr (2) (0) (0) (0)),(3,.ptr (3) (0) (0) (0)),(6,.i .i64 (i21)),(84,.b (decide (¬x25[i21.toNat]!.sku=y29[i21.toNat]!.sku∨¬x25[i21.toNat]!.past=y29[i21.toNat]!.past)))],[(2,⟨0,82,.var [.sl (List.map c46 x22),.sl (List.map c3 x23),.sl (List.map B1 x24),.sl (List.map c54 x25)]⟩),(3,⟨0,82,.var [.sl (List.map c46 y26),.sl (List.map c3 y27),.sl (List.map B1 y28),.sl (List.map c54 y29)]⟩)]⟩) ?_ ?_
 refine A5 (¬x25[i21.toNat]!.sku=y29[i21.toNat]!.sku) (fun h39=>?_) (fun h39=>?_)
 refine rA cx [2,3,6,84] [2,3] (fA (0≤i21) (fG c54 x25 i21.toNat (fR 3 (fA (0≤i21) (fP ((List.map c54 y29)[i21.toNat]?=some (c54 y29[i21.toNat]!)) ?g11 (fR 3 (tT 12 (A3y h39:(AV.b !x25[i21.toNat]!.sku.toList == y29[i21.toNat]!.sku.toList)=AV.b true) (tD 28 true (¬x25[i21.toNat]!.sku=y29[i21.toNat]!.sku∨¬x25[i21.toNat]!.past=y29[i21.toNat]!.past) (by simp only [eq_false h39,tsl]) (oR 3 (c54 x25[i21.toNat]!) (oR 9 (c54 y29[i21.toNat]!) z0)))))))))) ?_;rotate_left
 exact⟨rfl,by kernel_rfl⟩
 refine rA cx [2,3,6,84] [2,3] (fA (0≤i21) (fG c54 x25 i21.toNat (fR 3 (fA (0≤i21) (fP ((List.map c54 y29)[i21.toNat]?=some (c54 y29[i21.toNat]!)) ?g12 (fR 3 (tT 12 (A7b:(AV.b !x25[i21.toNat]!.sku.toList == y29[i21.toNat]!.sku.toList)=AV.b (decide ¬x25[i21.toNat]!.sku=y29[i21.toNat]!.sku)) (tT 13 (A0 h39) (fA (0≤i21) (fG c54 x25 i21.toNat (fR 3 (fN 2 2 (fA (0≤i21) (fP ((List.map c54 y29)[i21.toNat]?=some (c54 y29[i21.toNat]!)) ?g13 (fR 3 (fN 2 2 (fT (Ah1 (x25[i21.toNat]!.past) (y29[i21.toNat]!.past) ?g14 ?g15) (tQ 27 (x25[i21.toNat]!.past=y29[i21.toNat]!.past) (tT 28 (by first | (simp only [eq_false h39,tsl];done) | simp_all:AV.b (decide ¬x25[i21.toNat]!.past=y29[i21.toNat]!.past)=AV.b (decide (¬x25[i21.toNat]!.sku=y29[i21.toNat]!.sku∨¬x25[i21.toNat]!.past=y29[i21.toNat]!.past))) (oR 3 (c54 x25[i21.toNat]!) (oR 9 (c54 y29[i21.toNat]!) (oR 17 (c54 x25[i21.toNat]!) (oR 23 (c54 y29[i21.toNat]!) (oA 26 (.b (decide (x25[i21.toNat]!.past=y29[i21.toNat]!.past))) z0)))))))))))))))))))))))) ?_;rotate_left 4
 exact⟨rfl,by kernel_rfl⟩
 refine sn<|dC (¬x25[i21.toNat]!.sku=y29[i21.toNat]!.sku∨¬x25[i21.toNat]!.past=y29[i21.toNat]!.past) (fun h40=>?_) fun h40=>?_
 refine sq<|rG cx [4] [] z0<|sn<|rT<|bR<|nR<|nR<|bR<|nR<|qR (.b (false)) (.eq ?g16);rotate_left
 refine sK<|bN<|sn<|rG cx [2,3,6] [2,3] (tW 1 (i21+1) z0)<|sn<|nX ((i21+1,x22,x23,x24,x25,y26,y27,y28,y29)) (show((↑a.recs.length:Int)-(i21+1)).toNat <((↑a.recs.length:Int)-i21).toNat from(by rw[h31.2.2.2]at h37;omega)) (show Bh3 a b (i21+1) x22 x23 x24 x25 y26 y27 y28 y29 from ?g18);rotate_left
 refine eX 2<|nE<|nE<|bH<|sn<|sq<|rG cx [4] [] z0<|sn<|rT<|qR (.b (true)) (.eq ?g19);rotate_left
 case g4 =>
  refine congrArg AV.b (decide_eq_false fun k=>?_).symm
  subst k
  rcases hh3 with hh3 | hh3 | hh3 <;> exact hh3 rfl
 case g9 =>
  rw[h14.1,h15.1]at h20
  rw[h14.1]at h19
  refine⟨h14,h15,by omega,by omega,fun k hk=>?_⟩
  by_cases c:k=i4.toNat
  ·rw[c];exact Classical.not_not.1 h20
  ·exact h18 k (by omega)
 case g10 =>
  rw[h14.1]at h19
  exact⟨h14,h15,by omega,by omega,fun k hk=>h18 k (by omega),fun k hk=>by omega⟩
 case g11=>revert hh3 i4 x5 x6 x7 x8 y9 y10 y11 y12 h14 h15 h16 h17 h18 h19 i21 x22 x23 x24 x25 y26 y27 y28 y29 h31 h32 h33 h34 h35 h36 h37 h39;intro h i x1 x2 x3 x4 y1 y2 y3 y4 e d h0 h1 h2 h3 j u1 u2 u3 u4 v1 v2 v3 v4 m n k0 k1 k2 k3 k4;intros;have:=LN h;rw[m.2.2.2]at k4;rw[n.2.2.2];exact GT _ _ k0 (by omega)
 case g12=>revert hh3 i4 x5 x6 x7 x8 y9 y10 y11 y12 h14 h15 h16 h17 h18 h19 i21 x22 x23 x24 x25 y26 y27 y28 y29 h31 h32 h33 h34 h35 h36 h37 h39;intro h i x1 x2 x3 x4 y1 y2 y3 y4 e d h0 h1 h2 h3 j u1 u2 u3 u4 v1 v2 v3 v4 m n k0 k1 k2 k3 k4;intros;have:=LN h;rw[m.2.2.2]at k4;rw[n.2.2.2];exact GT _ _ k0 (by omega)
 case g13=>revert hh3 i4 x5 x6 x7 x8 y9 y10 y11 y12 h14 h15 h16 h17 h18 h19 i21 x22 x23 x24 x25 y26 y27 y28 y29 h31 h32 h33 h34 h35 h36 h37 h39;intro h i x1 x2 x3 x4 y1 y2 y3 y4 e d h0 h1 h2 h3 j u1 u2 u3 u4 v1 v2 v3 v4 m n k0 k1 k2 k3 k4;intros;have:=LN h;rw[m.2.2.2]at k4;rw[n.2.2.2];exact GT _ _ k0 (by omega)
 case g14=>revert hh3 i4 x5 x6 x7 x8 y9 y10 y11 y12 h14 h15 h16 h17 h18 h19 i21 x22 x23 x24 x25 y26 y27 y28 y29 h31 h32 h33 h34 h35 h36 h37 h39;intro h i x1 x2 x3 x4 y1 y2 y3 y4 e d h0 h1 h2 h3 j u1 u2 u3 u4 v1 v2 v3 v4 m n k0 k1 k2 k3 k4;intros;rw[m.2.2.2]at k4 ⊢;exact(A2y Z.2 k0 k4).2
 case g15=>revert hh3 i4 x5 x6 x7 x8 y9 y10 y11 y12 h14 h15 h16 h17 h18 h19 i21 x22 x23 x24 x25 y26 y27 y28 y29 h31 h32 h33 h34 h35 h36 h37 h39;intro h i x1 x2 x3 x4 y1 y2 y3 y4 e d h0 h1 h2 h3 j u1 u2 u3 u4 v1 v2 v3 v4 m n k0 k1 k2 k3 k4;intros;rw[m.2.2.2]at k4 ⊢;have:=(A2y Z.2 k0 k4).1;omega
 case g16 =>
  rw[h31.2.2.2,h32.2.2.2]at h40
  refine congrArg AV.b (decide_eq_false fun k=>?_).symm
  subst k
  rcases h40 with q | q <;> exact q rfl
 case g18 =>
  rw[h31.2.2.2,h32.2.2.2]at h40
  rw[h31.2.2.2]at h37
  refine⟨h31,h32,by omega,by omega,h35,fun q hq=>?_⟩
  by_cases c:q=i21.toNat
  ·rw[c]
   have z1:a.recs[i21.toNat]!.sku=b.recs[i21.toNat]!.sku:=Classical.byContradiction fun k=>h40 (.inl k)
   have z2:a.recs[i21.toNat]!.past=b.recs[i21.toNat]!.past:=Classical.byContradiction fun k=>h40 (.inr k)
   rw[← B2j a.recs[i21.toNat]!,← B2j b.recs[i21.toNat]!,z1,z2]
  ·exact h36 q (by omega)
 case g19 =>
  have l1:=LA hh3
  have l2:=LN hh3
  rw[h31.2.2.2]at h37
  refine congrArg AV.b (decide_eq_true ?_).symm
  have z1:a.adds=b.adds:=Q4 l1 fun q hq=>h35 q (by omega)
  have z2:=Classical.not_not.1 fun k=>hh3 (.inr (.inl k))
  have z3:a.recs=b.recs:=Q4 l2 fun q hq=>h36 q (by omega)
  obtain⟨p,q,r⟩:=a
  obtain⟨p',q',r'⟩:=b
  simp only at z1 z2 z3
  rw[z1,z2,z3]
end Go.Proofs.YtphcaholhacnpaaGreat
