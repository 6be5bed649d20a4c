/- Kr: records in the documents. Conditions: sizes. Pv: past.Meet, Within, Order; span.Within. Conditions: sizes. EZ: what has been drawn is never taken back: a call leaves the count of draws no smaller. Conditions: none. ET3: slices.SortFunc at a row whose cells lead on, by a comparing call that may lay blocks: the row comes into the one order. Conditions: the comparing is a total order of what the row holds. Ko: records put in order, each once, in plain words. Conditions: none. Ta: the act layer's document: entries, records, facts in form. Conditions: sizes. Kw: keep.Waits and the document's; lists of entries in the document's chapter 7. Conditions: sizes. Le: lines: the library's sort at entries; copies; what sorted lists come to. Conditions: none. Lf: lines: Sort, Find and what the document says of them. Conditions: sizes. Tt: tomb: in plain words. Conditions: none. Tu: tomb: Check, Less, Within, Order. Conditions: sizes. Lm: lines: Dots, Inside, Outside. Conditions: sizes. Tv: the document's Check, Less, Within, Order, Copy, Equal. Conditions: sizes. Tw: the law of Within, Order, Less. Conditions: sizes. Ks: records: slices.SortFunc, CompactFunc, Grow and Concat at them, keep.Sort, keep.Union. Conditions: sizes. Kt: records in the documents: ordered, Union, Bars. Conditions: sizes. Lpa: entries in form, in plain words (first part). Conditions: none. Tx: tomb: Join, Live, Past, Clash, and the document's. Conditions: sizes. Ty: the document's tomb: Join, Live, Past, Clash. Conditions: sizes. Tn: what the tomb's calls come to, in plain words. Conditions: none. Xa: the values of more Go types (a state is taken as facts: live, past, waiting). Conditions: none. Sp: compact states: in plain words. Conditions: none. Sw: swot.Check; digest's Check, OfFacts, OfSwot, LackFacts, LackSwot. Conditions: sizes. Sr: the document's chapters 11 and 14: forms, what is heard of, live, waits; digests. Conditions: sizes. Sd: the document's digests. Conditions: sizes. Cw: compact: Compact, Same, Fate, Story, Spent, Prune, Expand. Conditions: sizes. Cs: compact.Same. Conditions: sizes. Se: the laws of digests. Conditions: sizes. Sf: the laws of digests: pictures, what is spared. Conditions: sizes. Ct: the document's chapter 13, and when lists, facts, states are the same. Conditions: sizes. -/
import Derived.Below
import Derived.OwnWalk
import Derived.WalkKit
import Derived.KernelRfl
import Derived.Laws.MakeOwn
import Derived.Laws.OwnMore
import Derived.Laws.Slices
import Derived.Laws.CopyOwn
import Derived.Laws.AppendOwnNone
import Derived.Laws.Rows
import Derived.Orders
import Derived.Test.YtphcaholhacnpaaGreatProg
import Derived.DataReads
import Derived.ChangeOld
import Derived.DataElems
import Derived.SizedLaws
import Derived.ChangeKeysEq
import Derived.Sort.LotA
import Derived.Shelf.SlSortFuncK.RowK2
import Derived.Shelf.SlSortCmp.NoneTotal
import Derived.Lib.Walk
import Derived.Shelf.SlLaysE0
import Derived.Shelf.RegionOpenPlain
import Derived.Deep.LoopGhost
import Derived.Lib.SliceRun
import Derived.Lib.Bytealg
import Derived.Calls
import Derived.Shelf.SlSortFuncK.SWK
import Derived.Deep.Cut
import Derived.Deep.CutRange
import Derived.Deep.DeepCutAuto
import Derived.Lib.ReflectliteSwap
import Derived.Laws.Externs
import Derived.Lib.ReflectliteSlice
import Derived.Lib.AppendZeros
import Derived.BigQuiet
import Derived.Shelf.SlSortFuncK.WholeK
import Derived.Shelf.GgSortFunc.Tiny
import Derived.Maps.RangeRun
import Derived.Test.YtphcaholhacnpaaGreatZk4
set_option linter.unusedVariables false
set_option linter.unusedSimpArgs false
set_option linter.unusedSectionVars false
namespace Go.Proofs.YtphcaholhacnpaaGreat
open Go.E
set_option maxRecDepth 100000
set_option maxHeartbeats 4000000
def szP(p:Past):Prop:=p.cloud.length*16≤140737488350000∧p.vec.length≤9223372036854775807
def szQ(rs:List Record):Prop:=∀ r∈rs,szP r.past
theorem A55{rs:List Record}(h:szQ rs):B0t rs:=fun r hr=>(h r hr).1
theorem A67{rs:List Record}(h:szQ rs){i:Int}(h0:0≤i)(hi:i < rs.length):szP rs[i.toNat]!.past:=h _ (D9 (by omega))
theorem Bb2{rs:List Record}(h:szQ rs){i:Int}(h0:0 < i)(hi:i < rs.length):szP rs[(i-1).toNat]!.past:=h _ (D9 (by omega))
theorem con227(r:Record)(hb:szP r.past):Con Tryz.prog 227 [.agg (c54 r)] (.i .i64 (ckR r)) :=
 by
 have g:∀ {b:Bool},¬ b=true→b=false:=fun {b} h=>by cases b <;> simp_all
 refine sC A6 [.tmp 2] 21 Tryz.func227 ?_
 intro e0 cx
 refine sq<|rG cx [1] [1] z0<|sn<|sq<|sq<|B1 (σ':=⟨[(1,.ptr (1) (0) (0) (0)),(11,.b (decide (¬r.sku={ data:=#[]:ByteArray }∧¬I2 r.sku=true)))],[(1,⟨0,54,.var [.s (r.sku),.sl (List.map c3 r.past.vec),.sl (List.map A9 r.past.cloud)]⟩)]⟩) ?_ ?_
 refine A5 (¬r.sku={ data:=#[]:ByteArray }) (fun h_1=>?_) (fun h_1=>?_)
 refine rG cx [1,11] [1] (tT 2 (A19 h_1:(AV.b !r.sku.toList == { data:=#[]:ByteArray }.toList)=AV.b true) (fT (A9o (r.sku)) (tT 7 (C3:(AV.b !I2 r.sku)=AV.b (decide ¬I2 r.sku=true)) (tD 8 (decide ¬I2 r.sku=true) (¬r.sku={ data:=#[]:ByteArray }∧¬I2 r.sku=true) (by simp only [eq_false h_1,tsl]) (oA 6 (.b (I2 r.sku)) z0))))) ?_
 exact⟨rfl,by kernel_rfl⟩
 refine rG cx [1,11] [1] (tT 2 (A2y:(AV.b !r.sku.toList == { data:=#[]:ByteArray }.toList)=AV.b (decide ¬r.sku={ data:=#[]:ByteArray })) (tT 3 (A0 h_1) (tT 8 (by first | (simp only [eq_false h_1,tsl];done) | simp_all:AV.b false=AV.b (decide (¬r.sku={ data:=#[]:ByteArray }∧¬I2 r.sku=true))) z0))) ?_
 exact⟨rfl,by kernel_rfl⟩
 refine sn<|dC (¬r.sku={ data:=#[]:ByteArray }∧¬I2 r.sku=true) (fun h2=>?_) fun h2=>?_
 refine sq<|rG cx [2] [] z0<|sn<|rT<|nR<|qR (.i .i64 ((5:Int))) (.eq (by unfold ckR;rw[if_pos ⟨h2.1,g h2.2⟩]))
 refine sK<|sn<|sq<|sq<|B1 (σ':=⟨[(20,.b (decide (¬r.past=A3 r.past∨B8 r.past=0)))],[]⟩) ?_ ?_
 refine A5 (¬r.past=A3 r.past) (fun h4=>?_) (fun h4=>?_)
 refine rg (A:=_∧_∧(AV.b true=AV.b (decide (¬r.past=A3 r.past∨B8 r.past=0)))) cx [(2,{ val:=some (.b (decide (r.past=A3 r.past))),tell:=some (.b (false)) }),(8,{ tell:=some (.b (decide (¬r.past=A3 r.past∨B8 r.past=0))) })] [20] [] ⟨(A0 h4),(Ag7 (r.past) (by exact hb.1) (by exact hb.2)),(by simp only [eq_false h4,tsl])⟩ ?_
 exact⟨rfl,by kernel_rfl⟩
 refine rG cx [20] [] (fT (Ag7 (r.past) (by exact hb.1) (by exact hb.2)) (tQ 3 (r.past=A3 r.past) (tT 4 (A0 h4) (fT (con79 (r.past) (by exact hb.1)) (tT 8 (by first | (simp only [eq_false h4,tsl];done) | simp_all:AV.b (decide (B8 r.past=0))=AV.b (decide (¬r.past=A3 r.past∨B8 r.past=0))) (oA 2 (.b (decide (r.past=A3 r.past))) (oA 7 (.b (decide (B8 r.past=0))) z0))))))) ?_
 exact⟨rfl,by kernel_rfl⟩
 refine sn<|dC (¬r.past=A3 r.past∨B8 r.past=0) (fun h5=>?_) fun h5=>?_
 refine sq<|rG cx [2] [] z0<|sn<|rT<|nR<|qR (.i .i64 ((1:Int))) (.eq (by unfold ckR;rw[if_neg (fun c=>h2 ⟨c.1,by rw[c.2];simp⟩),if_pos h5]))
 refine sK<|sn<|sq<|rG cx [2] [] z0<|sn<|rT<|qR (.i .i64 ((0:Int))) (.eq (by unfold ckR;rw[if_neg (fun c=>h2 ⟨c.1,by rw[c.2];simp⟩),if_neg h5]))
theorem con228(r s:Record)(hr:szR r)(hs:szR s):Con Tryz.prog 228 [.agg (c54 r),.agg (c54 s)] (.i .i64 (D2 r s)) :=
 by
 have L:∀ {x:Int},X7 r.sku s.sku=x→¬ x=0→AV.i .i64 x=AV.i .i64 (D2 r s):=fun {x} h k=>by
  unfold D2;rw[if_pos (by rw[h];exact k),h]
 refine sC A6 [.tmp 4] 20 Tryz.func228 ?_
 intro e0 cx
 refine sq<|rG cx [2,3] [2,3] z0<|sn<|sq<|sq<|rG cx [2,3,9] [2,3] (tT 4 (B45:AV.b (Op.bytesLess r.sku.toList s.sku.toList)=AV.b (sLt r.sku s.sku)) z0)<|sn<|P0 (sLt r.sku s.sku) (by kernel_rfl) (by kernel_rfl) (fun h0=>?_) (fun h0=>?_)
 refine sq<|rG cx [4] [] z0<|sn<|rT<|nR<|qR (.i .i64 ((-1:Int))) (.eq (by exact L (by rw[J6,if_pos h0]) (by decide)))
 refine sK<|sn<|sq<|sq<|rG cx [2,3,14] [2,3] (tT 4 (B46:(AV.b !(Op.bytesLess r.sku.toList s.sku.toList || r.sku.toList == s.sku.toList))=AV.b (decide ¬(sLt r.sku s.sku=true∨r.sku=s.sku))) z0)<|sn<|dC (¬(sLt r.sku s.sku=true∨r.sku=s.sku)) (fun h1=>?_) fun h1=>?_
 refine sq<|rG cx [4] [] z0<|sn<|rT<|nR<|qR (.i .i64 ((1:Int))) (.eq ?g1);rotate_left
 refine sK<|sn<|sq<|rG cx [4] [] (fT (con185 (r.past) (s.past) (by exact hr) (by exact hs)) (oA 4 (.i .i64 (A9h r.past s.past)) z0)) ?_
 refine sn<|rT<|qR (.i .i64 (A9h r.past s.past)) (.eq ?g4);rotate_left
 case g1 =>
  have a:¬ sLt r.sku s.sku=true:=by rw[h0];simp
  have b:sLt s.sku r.sku=true:=Classical.byContradiction fun b=>h1 (.inr (A1k a b))
  exact L (by rw[J6,if_neg a,if_pos b]) (by decide)
 case g4 =>
  have e:r.sku=s.sku:=by
   rcases Classical.not_not.1 h1 with h1 | h1
   ·rw[h0]at h1;cases h1
   ·exact h1
  unfold D2
  rw[if_neg (fun c=>c (A20.2 e))]
theorem An8(rs:List Record)(hb:szQ rs):Con Tryz.prog 189 [.sl (rs.map c54)] (.i .i64 (F0 rs)) :=
 by
 have e:∀ {i:Int},0≤i→(i-1).toNat=i.toNat-1:=fun {i} h=>by omega
 refine lN 0 c54 (rs) Tryz.func189 fun hl_0=>sC A6 [.tmp 2] 31 Tryz.func189 ?_
 intro e0 cx
 refine sq<|rG cx [0] [] z0<|sn<|sq<|sq<|rG cx [0,3] [] z0<|sn<|bL 0<|sL (X:=Int) (fun x=>⟨[(0,.sl (List.map c54 rs)),(3,.i .i64 (x))],[]⟩) (fun x ↦ decKc rs x) (fun x ↦ Af9 rs x) [0,3] [] ((0:Int)) (show Af9 rs (0:Int)from(by exact⟨by omega,by omega,fun j hj=>by omega⟩)) ?_
 intro i0 h_1
 obtain⟨hh2,hh3,hh4⟩:0≤i0∧i0≤(↑rs.length:Int)∧∀(j:Nat),(↑j:Int) < i0→B36 rs j=true:=h_1
 refine sq<|rD cx [0,3,7] [] (tL 2 c54 rs (zB 3 (i0 <(↑rs.length:Int)))) (fun hh5=>?_) fun hh5=>?_
 refine sK<|sn<|sq<|bL 1<|sq<|sq<|rG cx [0,3,15] [] (fA (0≤i0) (fG c54 rs i0.toNat (fR 3 (fN 3 3 (fT (con227 (rs[i0.toNat]!) (by exact A67 hb hh2 hh5)) (tN 5 (ckR rs[i0.toNat]!) (0:Int) (oR 2 (c54 rs[i0.toNat]!) (oA 4 (.i .i64 (ckR rs[i0.toNat]!)) z0)))))))) ?_
 refine sn<|dC (¬ckR rs[i0.toNat]! =(0:Int)) (fun h6=>?_) fun h6=>?_
 refine sq<|rG cx [2] [] z0<|sn<|rT<|nR<|bR<|nR<|nR<|bR<|nR<|qR (.i .i64 ((1:Int))) (.eq ?g2);rotate_left
 refine sK<|sn<|sq<|B1 (σ':=⟨[(0,.sl (List.map c54 rs)),(3,.i .i64 (i0)),(30,.b (decide ((0:Int) < i0∧0≤D2 rs[(i0-1).toNat]! rs[i0.toNat]!)))],[]⟩) ?_ ?_
 refine A5 ((0:Int) < i0) (fun h8=>?_) (fun h8=>?_)
 refine rA cx [0,3,30] [] (tT 1 (A4 h8) (tW 5 (i0-1) (fO (0≤i0-1) (fG c54 rs ((i0-1).toNat) (fR 3 (fN 3 3 (fA (0≤i0) (fG c54 rs i0.toNat (fR 3 (fN 3 3 (fT (con228 (rs[(i0-1).toNat]!) (rs[i0.toNat]!) (by exact(Bb2 hb h8 hh5).1) (by exact(A67 hb hh2 hh5).1)) (tB 13 (0≤D2 rs[(i0-1).toNat]! rs[i0.toNat]!) (tD 14 (decide (0≤D2 rs[(i0-1).toNat]! rs[i0.toNat]!)) ((0:Int) < i0∧0≤D2 rs[(i0-1).toNat]! rs[i0.toNat]!) (by simp only [eq_true h8,tsl]) (oR 6 (c54 rs[(i0-1).toNat]!) (oR 10 (c54 rs[i0.toNat]!) (oA 12 (.i .i64 (D2 rs[(i0-1).toNat]! rs[i0.toNat]!)) z0)))))))))))))))) ?_
 exact⟨rfl,by kernel_rfl⟩
 refine rA cx [0,3,30] [] (tT 1 (A0 h8) (tD 14 false ((0:Int) < i0∧0≤D2 rs[(i0-1).toNat]! rs[i0.toNat]!) (by simp only [eq_false h8,tsl]) z0)) ?_
 exact⟨rfl,by kernel_rfl⟩
 refine sn<|dC ((0:Int) < i0∧0≤D2 rs[(i0-1).toNat]! rs[i0.toNat]!) (fun h9=>?_) fun h9=>?_
 refine sq<|rG cx [2] [] z0<|sn<|rT<|bR<|nR<|nR<|bR<|nR<|qR (.i .i64 ((1:Int))) (.eq ?g5);rotate_left
 refine sK<|bN<|sn<|rG cx [0,3] [] (tW 1 (i0+1) z0)<|sn<|nX (i0+1) (show((↑rs.length:Int)-(i0+1)).toNat <((↑rs.length:Int)-i0).toNat from(by omega)) (show Af9 rs (i0+1)from ?g6);rotate_left
 refine eX 0<|nE<|nE<|bH<|sn<|sq<|rG cx [2] [] z0<|sn<|rT<|qR (.i .i64 ((0:Int))) (.eq (by rw[B0s fun j hj=>hh4 j (by omega)]))
 case g2 =>
  revert i0 hh2 hh3 hh4 hh5 h6
  intro i h0 h1 h2 h3 h4
  rw[A7c (i:=i.toNat) (by omega)]
  rw[Q7]
  exact fun c=>h4 c.1
 case g5 =>
  revert i0 hh2 hh3 hh4 hh5 h6 h9
  intro i h0 h1 h2 h3 h4 h5
  rw[A7c (i:=i.toNat) (by omega)]
  rw[e h0]at h5
  rw[Q7]
  rintro⟨a,b⟩
  omega
 case g6 =>
  rw[e hh2]at h9
  refine A61 hh2 hh5 hh4 ((Q7 _ _).2 ⟨Classical.not_not.1 h6,?_⟩)
  by_cases c:i0.toNat=0
  ·exact .inl c
  ·exact .inr (Classical.byContradiction fun a=>h9 ⟨by omega,by omega⟩)
end Go.Proofs.YtphcaholhacnpaaGreat
namespace Go.Proofs.YtphcaholhacnpaaGreat
open Go.E
set_option maxRecDepth 100000
set_option maxHeartbeats 4000000
theorem Bb3{l:List Run}(h:M0 l):l=[]↔∀ n,¬ inR l n:=by
 constructor
 ·rintro rfl n ⟨r,hr,_⟩;cases hr
 ·intro k
  cases l with
  | nil=>rfl
  | cons r l =>
   have:=h.2 r (by simp)
   exact absurd ⟨r,by simp,by omega,by omega⟩ (k r.lo)
theorem B1n(a b:Past):B8 (B3 a b)=0↔∀ r:Nat,r < 16→V3 (A8 [a] r) (A8 [b] r)=[]:=by
 rw[S7]
 constructor
 ·intro h r hr
  rw[Bb3 (A1h _ _)]
  intro n hn
  have hs:=A1h (A8 [a] r) (A8 [b] r)
  obtain⟨x,hx,h1,h2⟩:=hn
  have hx':=hs.2 x hx
  have:=h ⟨r,n⟩
  have k:C7 (B3 a b) ⟨r,n⟩=true:=by
   unfold B3
   rw[P5]
   refine⟨?_,⟨x,hx,h1,h2⟩⟩
   unfold I0
   simp
   omega
  rw[k]at this
  cases this
 ·intro h d
  rw[← Bool.not_eq_true]
  unfold B3
  rw[P5]
  rintro⟨h1,h2⟩
  have hr:d.rep.toNat < 16:=by
   unfold I0 at h1
   simp at h1
   omega
  rw[h _ hr]at h2
  obtain⟨x,hx,_⟩:=h2
  cases hx
def isWi(A B:Nat→List Run)(r:Int):Prop:=∀ k:Nat,(k:Int) < r→V3 (A k) (B k)=[]
def Bb4(A B:Nat→List Run)(r:Int)(T U:Nat→List Run):Prop:=T=A∧U=B∧0≤r∧r≤16∧isWi A B r
theorem B5s(b:List Run):V3 [] b=[]:=by
 unfold V3
 have:nrm ([]:List Run)=[]:=A3u ⟨List.Pairwise.nil,fun r hr=>by cases hr⟩
 rw[this,M1]
noncomputable def A8b(a b:Past):Int:=if B8 (B3 a b)=0∧B8 (B3 b a)=0 then 0 else if B8 (B3 a b)=0 then 1 else if B8 (B3 b a)=0 then 2 else 3
theorem con178(a b:List Run)(ha:a.length*16≤140737488351232)(hb:b.length*16≤140737488351232):Con Tryz.prog 178 [.sl (a.map c206),.sl (b.map c206)] (.b (decide (((V3 a b).length:Int)=0))) :=
 by
 refine lN 0 c206 (a) Tryz.func178 fun hl_0=>lN 1 c206 (b) Tryz.func178 fun hl_1=>sC A6 [.tmp 4] 10 Tryz.func178 ?_
 intro e0 cx
 refine sq<|rG cx [0,1] [] z0<|sn<|sq<|rG cx [4] [] (fT (B7f (a) (b) (by(with_reducible assumption)) (by(with_reducible assumption))) (tL 3 c206 (V3 a b) (tB 4 ((↑(V3 a b).length:Int)=0) (oA 2 (.sl (List.map c206 (V3 a b))) z0))))<|sn<|rT ?_
 exact A3h (r:=.b (decide ((↑(V3 a b).length:Int)=0))) (obl:=[]) (by kernel_rfl) trivial (B5.refl _)
theorem An9(a b:Past)(ha:a.cloud.length*16≤140737488350000)(hb:b.cloud.length*16≤140737488350000):Con Tryz.prog 117 [.agg (c26 a),.agg (c26 b)] (.b (decide (B8 (B3 a b)=0))) :=
 by
 refine sC A6 [.tmp 4] 39 Tryz.func117 ?_
 intro e0 cx
 refine sq<|rG cx [2,3] [2,3] z0<|sn<|sq<|rA cx [5,6] [10,13] (fT (Af3 ([a]) (by exact A60 ha)) (fT (Af3 ([b]) (by exact A60 hb)) (oV 2 { val:=some (.ptr ((204:Nat)) (0) (0) (0)),row:=(E2 c206 16 (A8 [a])) } (oV 5 { val:=some (.ptr ((204:Nat)) (0) (0) (0)),row:=(E2 c206 16 (A8 [b])) } z0)))) ?_
 refine sn<|sq<|sq<|rG cx [5,6,14] [10,13] z0<|sn<|bL 0<|sL (X:=Int×(Nat→List Run)×(Nat→List Run)) (fun x=>⟨[(5,.ptr (10) (0) (0) (0)),(6,.ptr (13) (0) (0) (0)),(14,.i .i64 (x.1))],[(10,⟨0,204,.arr (E2 c206 16 x.2.1)⟩),(13,⟨0,204,.arr (E2 c206 16 x.2.2)⟩)]⟩) (fun x ↦ decEa x.1 x.2.1 x.2.2) (fun x ↦ Bb4 (A8 [a]) (A8 [b]) x.1 x.2.1 x.2.2) [5,6,14] [10,13] (((0:Int),A8 [a],A8 [b])) (show Bb4 (A8 [a]) (A8 [b]) (0:Int) (A8 [a]) (A8 [b])from(by exact⟨rfl,rfl,by omega,by omega,fun k hk=>by omega⟩)) ?_
 rintro⟨r0,T1,U2⟩ h_3
 obtain⟨hh4,h5,h6,h7,h8⟩:T1=A8 [a]∧U2=A8 [b]∧0≤r0∧r0≤16∧isWi (A8 [a]) (A8 [b]) r0:=h_3
 refine rE cx [5,6,14,15] [10,13] (zB 0 (r0 <(16:Int))) (fun h9=>?_) fun h9=>?_
 refine sK<|sn<|sq<|bL 1<|sq<|rG cx [5,6,14,7] [10,13] z0<|sn<|sq<|B1 (σ':=⟨[(5,.ptr (10) (0) (0) (0)),(6,.ptr (13) (0) (0) (0)),(14,.i .i64 (r0)),(37,.b (decide ((0:Int) <(↑(T1 r0.toNat).length:Int)∧¬(↑(V3 (T1 r0.toNat) (U2 r0.toNat)).length:Int)=0)))],[(10,⟨0,204,.arr (E2 c206 16 T1)⟩),(13,⟨0,204,.arr (E2 c206 16 U2)⟩)]⟩) ?_ ?_
 refine A5 ((0:Int) <(↑(T1 r0.toNat).length:Int)) (fun h11=>?_) (fun h11=>?_)
 refine rA cx [5,6,14,37] [10,13] (fA (0≤r0) (fO (r0 <(↑(16:Nat):Int)) (fP ((E2 c206 16 T1)[r0.toNat*(1:Nat)+0]?=some (AV.sl (List.map c206 (T1 r0.toNat)))) (by((try simp only [Nat.mul_one,Nat.add_zero,Nat.zero_add]);with_reducible refine D8 ?_;omega)) (tL 5 c206 (T1 r0.toNat) (tT 6 (A4 h11) (fA (0≤r0) (fO (r0 <(↑(16:Nat):Int)) (fP ((E2 c206 16 T1)[r0.toNat*(1:Nat)+0]?=some (AV.sl (List.map c206 (T1 r0.toNat)))) (by((try simp only [Nat.mul_one,Nat.add_zero,Nat.zero_add]);with_reducible refine D8 ?_;omega)) (fA (0≤r0) (fO (r0 <(↑(16:Nat):Int)) (fP ((E2 c206 16 U2)[r0.toNat*(1:Nat)+0]?=some (AV.sl (List.map c206 (U2 r0.toNat)))) (by((try simp only [Nat.mul_one,Nat.add_zero,Nat.zero_add]);with_reducible refine D8 ?_;omega)) (fT (con178 (T1 r0.toNat) (U2 r0.toNat) (by subst hh4;exact A43 ha _) (by subst h5;exact A43 hb _)) (tQ 19 ((↑(V3 (T1 r0.toNat) (U2 r0.toNat)).length:Int)=0) (tD 20 (decide ¬(↑(V3 (T1 r0.toNat) (U2 r0.toNat)).length:Int)=0) ((0:Int) <(↑(T1 r0.toNat).length:Int)∧¬(↑(V3 (T1 r0.toNat) (U2 r0.toNat)).length:Int)=0) (by simp only [eq_true h11,tsl]) (oR 4 [.sl (List.map c206 (T1 r0.toNat))] (oR 12 [.sl (List.map c206 (T1 r0.toNat))] (oR 17 [.sl (List.map c206 (U2 r0.toNat))] (oA 18 (.b (decide ((↑(V3 (T1 r0.toNat) (U2 r0.toNat)).length:Int)=0))) z0)))))))))))))))))) ?_
 exact⟨rfl,by kernel_rfl⟩
 refine rA cx [5,6,14,37] [10,13] (fA (0≤r0) (fO (r0 <(↑(16:Nat):Int)) (fP ((E2 c206 16 T1)[r0.toNat*(1:Nat)+0]?=some (AV.sl (List.map c206 (T1 r0.toNat)))) (by((try simp only [Nat.mul_one,Nat.add_zero,Nat.zero_add]);with_reducible refine D8 ?_;omega)) (tL 5 c206 (T1 r0.toNat) (tT 6 (A0 h11) (tD 20 false ((0:Int) <(↑(T1 r0.toNat).length:Int)∧¬(↑(V3 (T1 r0.toNat) (U2 r0.toNat)).length:Int)=0) (by simp only [eq_false h11,tsl]) (oR 4 [.sl (List.map c206 (T1 r0.toNat))] z0))))))) ?_
 exact⟨rfl,by kernel_rfl⟩
 refine sn<|dC ((0:Int) <(↑(T1 r0.toNat).length:Int)∧¬(↑(V3 (T1 r0.toNat) (U2 r0.toNat)).length:Int)=0) (fun h12=>?_) fun h12=>?_
 refine sq<|rG cx [4] [] z0<|sn<|rT<|bR<|nR<|nR<|bR<|nR<|qR (.b (false)) (.eq ?g5);rotate_left
 refine sK<|bN<|sn<|rG cx [5,6,14] [10,13] (tW 0 (r0+1) z0)<|sn<|nX ((r0+1,T1,U2)) (show(16-(r0+1)).toNat <(16-r0).toNat from(by omega)) (show Bb4 (A8 [a]) (A8 [b]) (r0+1) T1 U2 from ?g6);rotate_left
 refine eX 0<|nE<|nE<|bH<|sn<|sq<|rG cx [4] [] z0<|sn<|rT<|qR (.b (true)) (.eq ?g7);rotate_left
 case g5 =>
  subst hh4 h5
  refine congrArg AV.b (decide_eq_false fun k=>h12.2 ?_).symm
  rw[(B1n a b).1 k r0.toNat (by omega)]
  rfl
 case g6 =>
  subst hh4 h5
  refine⟨rfl,rfl,by omega,by omega,fun k hk=>?_⟩
  by_cases e:k=r0.toNat
  ·subst e
   by_cases c:A8 [a] r0.toNat=[]
   ·rw[c,B5s]
   ·have hp:=List.length_pos_iff.2 c
    exact List.eq_nil_of_length_eq_zero (by
     have:=Classical.not_not.1 fun q=>h12 ⟨by omega,q⟩
     omega)
  ·exact h8 k (by omega)
 case g7 =>
  refine congrArg AV.b (decide_eq_true ?_).symm
  exact(B1n a b).2 fun k hk=>h8 k (by omega)
theorem B7s(a b:Past)(ha:a.cloud.length*16≤140737488350000)(hb:b.cloud.length*16≤140737488350000):Con Tryz.prog 138 [.agg (c26 a),.agg (c26 b)] (.i .i64 (A8b a b)) :=
 by
 refine sC A6 [.tmp 4] 22 Tryz.func138 ?_
 intro e0 cx
 refine sq<|rG cx [2,3] [2,3] z0<|sn<|sq<|sq<|rA cx [5,6] [] (fT (An9 (a) (b) (by(with_reducible assumption)) (by(with_reducible assumption))) (fT (An9 (b) (a) (by(with_reducible assumption)) (by(with_reducible assumption))) (oA 2 (.b (decide (B8 (B3 a b)=0))) (oA 5 (.b (decide (B8 (B3 b a)=0))) z0))))<|sn<|bL 0<|sq<|B1 (σ':=⟨[(5,.b (decide (B8 (B3 a b)=0))),(6,.b (decide (B8 (B3 b a)=0))),(13,.b (decide (B8 (B3 a b)=0∧B8 (B3 b a)=0)))],[]⟩) ?_ ?_
 refine A5 (B8 (B3 a b)=0) (fun h_1=>?_) (fun h_1=>?_)
 refine rG cx [5,6,13] [] (tT 0 (A4 h_1) (tD 4 (decide (B8 (B3 b a)=0)) (B8 (B3 a b)=0∧B8 (B3 b a)=0) (by simp only [eq_true h_1,tsl]) z0)) ?_
 exact⟨rfl,by kernel_rfl⟩
 refine rG cx [5,6,13] [] (tT 0 (A0 h_1) (tD 4 false (B8 (B3 a b)=0∧B8 (B3 b a)=0) (by simp only [eq_false h_1,tsl]) z0)) ?_
 exact⟨rfl,by kernel_rfl⟩
 refine sn<|dC (B8 (B3 a b)=0∧B8 (B3 b a)=0) (fun h2=>?_) fun h2=>?_
 refine sq<|rG cx [4] [] z0<|sn<|rT<|bR<|nR<|qR (.i .i64 ((0:Int))) (.eq (by unfold A8b;rw[if_pos h2]))
 refine sq<|rG cx [6,18] [] z0<|sn<|dC (B8 (B3 a b)=0) (fun h3=>?_) fun h3=>?_
 refine sq<|rG cx [4] [] z0<|sn<|rT<|bR<|nR<|qR (.i .i64 ((1:Int))) (.eq (by unfold A8b;rw[if_neg h2,if_pos h3]))
 refine sq<|rG cx [20] [] z0<|sn<|dC (B8 (B3 b a)=0) (fun h4=>?_) fun h4=>?_
 refine sq<|rG cx [4] [] z0<|sn<|rT<|bR<|nR<|qR (.i .i64 ((2:Int))) (.eq (by unfold A8b;rw[if_neg h2,if_neg h3,if_pos h4]))
 refine sK<|bN<|sn<|sq<|rG cx [4] [] z0<|sn<|rT<|qR (.i .i64 ((3:Int))) (.eq (by unfold A8b;rw[if_neg h2,if_neg h3,if_neg h4]))
end Go.Proofs.YtphcaholhacnpaaGreat
namespace Go.E
def rlo{α:Type}(n:Nat):Result α→Prop
 | .ok _ w=>n≤w.drawn
 | .halt _ w=>n≤w.drawn
def glo(n:Nat):GStep→Prop
 | .go _ w _=>n≤w.drawn
 | .comm _ _ _ _ w _=>n≤w.drawn
 | .spawn _ _ w _=>n≤w.drawn
 | .count _ w _=>n≤w.drawn
 | .timer _ _ w _=>n≤w.drawn
 | .alone _ _ w _=>n≤w.drawn
 | .newcoro _ _ _ w _=>n≤w.drawn
 | .coroswitch _ _ _ w _=>n≤w.drawn
 | .collect _ w _=>n≤w.drawn
 | .watch _ w _=>n≤w.drawn
 | .ended _ _ _=>True
def slo(n:Nat):Stepped→Prop
 | .next m=>n≤m.world.drawn
 | .ended _ _=>True
def mlo(n:Nat):Move→Prop
 | .goroutine m _=>n≤m.world.drawn
 | .machine s _=>slo n s
theorem K7{n k:Nat}(h:n≤k){s:GStep}(hs:glo k s):glo n s:=by
 cases s <;> first | trivial | exact Nat.le_trans h hs
theorem A68{n k:Nat}(h:n≤k){s:Stepped}(hs:slo k s):slo n s:=by
 cases s <;> first | trivial | exact Nat.le_trans h hs
theorem Aa7{n k:Nat}(h:n≤k){s:Move}(hs:mlo k s):mlo n s:=by
 cases s with
 | goroutine m i=>exact Nat.le_trans h hs
 | machine s ops=>exact A68 h hs
theorem P8(n:Nat)(es:Array Event)(s:GStep):glo n (GStep.after es s)=glo n s:=by cases s <;> rfl
theorem A7r{α:Type}:∀(x:Ask α) (w:World),w.drawn≤(w.ask x).2.drawn
 | .done a,w=>Nat.le_refl _
 | .ask what range k,w=>by
  unfold World.ask
  simp only
  split
  ·exact A7r (k 0) w
  ·exact Nat.le_trans (Nat.le_succ _) (A7r _ { w with drawn:=w.drawn+1 })
theorem Ao0(w:World)(c:Sys):w.drawn≤(w.sys c).2.drawn:=by
 unfold World.sys
 have h:=A7r (Kernel.perform c w.os) w
 split
 ·exact Nat.le_refl _
 ·rename_i heq
  rw[heq]at h
  exact h
theorem B1o{p:Program}{w:World}{a k:Addr}{u:TypeId}{v:Value}{t:Bool}{r:World×List Addr}(h:w.viewStore p a u k v t=.ok r):r.1.drawn=w.drawn:=by
 unfold World.viewStore at h
 simp only [bind,Except.bind,pure,Except.pure,throw,throwThe,MonadExceptOf.throw]at h
 repeat' (split at h)
 all_goals first | (cases h;done) | (cases h;rfl) | (injection h with h;subst h;rfl)
theorem Ao1{p:Program}{w w':World}{a:Addr}{v:Value}{t:Bool}{l:List Addr}(h:w.farStore p a v t=.ok (w',l)):w'.drawn=w.drawn:=by
 unfold World.farStore at h
 split at h
 ·split at h
  ·rename_i r heq
   injection h with h
   subst h
   exact B1o heq
  ·cases h
 ·cases h
theorem A4h(w:World)(a:Addr)(n:Nat):(w.freeze a n).drawn=w.drawn:=by
 unfold World.freeze
 split <;> rfl
theorem Ao2{α:Type}{n k:Nat}(h:n≤k){r:Result α}(hr:rlo k r):rlo n r:=by cases r <;> exact Nat.le_trans h hr
theorem A7s{α:Type}(p:Program)(s:Sem α):∀ w:World,rlo w.drawn (s.run p w):=by
 induction s with
 | pure a=>intro w;exact Nat.le_refl _
 | load m a k ih =>
  intro w
  unfold Sem.run
  split
  ·exact ih _ w
  ·split
   ·exact ih _ w
   ·exact Nat.le_refl _
 | store m a v k ih =>
  intro w
  have far:rlo w.drawn (match w.cell? a with
   | some _=>if w.frozen? a then Result.halt (.unsupported (.unsafePointer "a write to bytes that a string shares")) w else k.run p (w.setCell a v)
   | none=>match w.farStore p a v (m == .atomic)with
    | .ok (w,_)=>k.run p w
    | .error h=>Result.halt h w):=by
   split
   ·split
    ·exact Nat.le_refl _
    ·exact ih (w.setCell a v)
   ·split
    ·rename_i heq
     have:=ih ‹World›
     have e:=Ao1 heq
     rw[e]at this
     exact this
    ·exact Nat.le_refl _
  cases v <;> first | exact far | exact Nat.le_refl _
 | new o k ih=>intro w;exact ih w.heap.size { w with heap:=w.heap.push o }
 | shape r k ih=>intro w;exact ih _ w
 | freeze a n k ih=>intro w;have:=ih (w.freeze a n);rw[A4h]at this;exact this
 | frozen a k ih=>intro w;exact ih _ w
 | getObj r k ih =>
  intro w
  unfold Sem.run
  split
  ·exact Nat.le_refl _
  ·exact ih _ w
  ·exact Nat.le_refl _
 | setObj r o k ih =>
  intro w
  unfold Sem.run
  split
  ·exact Nat.le_refl _
  ·exact ih { w with heap:=w.heap.setIfInBounds r o }
  ·exact Nat.le_refl _
 | choose q k ih =>
  intro w
  unfold Sem.run
  split
  ·exact ih _ w
  ·exact Ao2 (Nat.le_succ _) (ih _ { w with drawn:=w.drawn+1 })
 | sys c k ih=>intro w;exact Ao2 (Ao0 w c) (ih _ (w.sys c).2)
 | program k ih=>intro w;exact ih p w
 | mark m k ih=>intro w;exact ih w
 | halt h=>intro w;exact Nat.le_refl _
theorem K4{α:Type}(p:Program)(s:Sem α):∀(w:World) (es:Array Event),rlo w.drawn (s.runT p w es).1:=by
 induction s with
 | pure a=>intro w es;exact Nat.le_refl _
 | load m a k ih =>
  intro w es
  unfold Sem.runT
  split
  ·exact ih _ w _
  ·split
   ·exact ih _ w _
   ·exact Nat.le_refl _
 | store m a v k ih =>
  intro w es
  have far:rlo w.drawn (match w.cell? a with
   | some _=>if w.frozen? a then((Result.halt (.unsupported (.unsafePointer "a write to bytes that a string shares")) w,es):Result _×Array Event)else k.runT p (w.setCell a v) (es.push (⟨.cell a,true,m == Mode.atomic⟩:Event))
   | none=>match w.farStore p a v (m == Mode.atomic)with
    | .ok (w,touched)=>k.runT p w (es++touched.toArray.map (fun x=>(⟨.cell x,true,m == Mode.atomic⟩:Event)))
    | .error h=>(Result.halt h w,es)).1:=by
   split
   ·split
    ·exact Nat.le_refl _
    ·exact ih (w.setCell a v) _
   ·split
    ·rename_i heq
     have:=ih ‹World› (es++(‹List Addr›).toArray.map (fun x=>(⟨.cell x,true,m == Mode.atomic⟩:Event)))
     have e:=Ao1 heq
     rw[e]at this
     exact this
    ·exact Nat.le_refl _
  cases v <;> first | exact far | exact Nat.le_refl _
 | new o k ih=>intro w es;exact ih w.heap.size { w with heap:=w.heap.push o } es
 | shape r k ih=>intro w es;exact ih _ w es
 | freeze a n k ih=>intro w es;have:=ih (w.freeze a n) es;rw[A4h]at this;exact this
 | frozen a k ih=>intro w es;exact ih _ w es
 | getObj r k ih =>
  intro w es
  unfold Sem.runT
  split
  ·exact Nat.le_refl _
  ·exact ih _ w _
  ·exact Nat.le_refl _
 | setObj r o k ih =>
  intro w es
  unfold Sem.runT
  split
  ·exact Nat.le_refl _
  ·exact ih { w with heap:=w.heap.setIfInBounds r o } _
  ·exact Nat.le_refl _
 | choose q k ih =>
  intro w es
  unfold Sem.runT
  split
  ·exact ih _ w es
  ·exact Ao2 (Nat.le_succ _) (ih _ { w with drawn:=w.drawn+1 } es)
 | sys c k ih=>intro w es;exact Ao2 (Ao0 w c) (ih _ (w.sys c).2 _)
 | program k ih=>intro w es;exact ih p w es
 | mark m k ih=>intro w es;exact ih w _
 | halt h=>intro w es;exact Nat.le_refl _
theorem M2{α:Type}{p:Program}{s:Sem α}{w w':World}{a:α}(h:s.run p w=.ok a w'):w.drawn≤w'.drawn:=by have:=A7s p s w;rw[h]at this;exact this
theorem B5t{α:Type}{p:Program}{s:Sem α}{w w':World}{a:Halt}(h:s.run p w=.halt a w'):w.drawn≤w'.drawn:=by have:=A7s p s w;rw[h]at this;exact this
theorem A7t{α:Type}{p:Program}{s:Sem α}{w w':World}{a:α}{es es':Array Event}(h:s.runT p w es=(.ok a w',es')):w.drawn≤w'.drawn:=by have:=K4 p s w es;rw[h]at this;exact this
theorem Aa8{α:Type}{p:Program}{s:Sem α}{w w':World}{a:Halt}{es es':Array Event}(h:s.runT p w es=(.halt a w',es')):w.drawn≤w'.drawn:=by have:=K4 p s w es;rw[h]at this;exact this
theorem W0{α:Type}{p:Program}{s:Sem α}{w w':World}{a:α}{es:Array Event}(h:(s.runT p w es).1=.ok a w'):w.drawn≤w'.drawn:=by have:=K4 p s w es;rw[h]at this;exact this
theorem Au3{α:Type}{p:Program}{s:Sem α}{w w':World}{a:Halt}{es:Array Event}(h:(s.runT p w es).1=.halt a w'):w.drawn≤w'.drawn:=by have:=K4 p s w es;rw[h]at this;exact this
theorem A4i{α:Type}{o:Option α}{n:Nat}{a:GStep}{f:α→GStep}(h:glo n a)(hf:∀ x,glo n (f x)):glo n (o.elim a f):=by cases o <;> first | exact h | exact hf _
theorem A7u{n:Nat}{es:Array Event}{s:GStep}(h:glo n s):glo n (GStep.after es s):=by rw[P8];exact h
theorem J3(p:Program)(main:Bool)(fr:Frame)(cs:List Frame)(d:Option Dying)(v:Value)(w:World):glo w.drawn (doReturn p main fr cs d v w):=by
 unfold doReturn
 repeat' split
 all_goals first | trivial | exact Nat.le_refl _
theorem B5u(fr:Frame)(l:List ByteArray)(m:String)(b:Bool)(w:World):glo w.drawn (dieOf fr l m b w):=Nat.le_refl _
theorem L1(fr:Frame)(m:String)(w:World):glo w.drawn (endThrow fr m w):=Nat.le_refl _
theorem Au4(n:Nat)(w:World)(fd:Nat)(t:ByteArray)(o:Outcome):glo n (endWith w fd t o):=by
 unfold endWith
 simp only
 repeat' split
 all_goals trivial
theorem A0e(p:Program)(fr:Frame)(v:Value)(w:World):glo w.drawn (endPrinting p fr v w):=by
 unfold endPrinting
 simp only
 split
 ·exact L1 _ _ _
 ·trivial
theorem A4j(p:Program)(fr:Frame)(cs:List Frame)(d:Option Dying)(m:String)(w:World):glo w.drawn (endFatal p fr cs d m w):=by
 unfold endFatal
 simp only
 split
 ·rename_i h
  exact K7 (M2 h) (B5u _ _ _ _ _)
 ·trivial
 ·trivial
theorem Au5(p:Program)(fr:Frame)(d:Dying)(f:Fatal)(w:World):glo w.drawn (writeOn p fr d f w):=by
 unfold writeOn
 simp only
 split
 ·trivial
 ·split
  ·rename_i h;exact A7t h
  ·rename_i h;exact Aa8 h
  ·trivial
  ·trivial
theorem die_lo(p:Program)(fr:Frame)(d:Dying)(w:World):glo w.drawn (die p fr d w):=by
 unfold die
 split
 ·exact Au5 _ _ _ _ _
 ·split
  ·split
   ·exact Nat.le_refl _
   ·exact Au4 _ _ _ _ _
  ·simp only
   split
   ·exact Nat.le_refl _
   ·split
    ·rename_i h;exact M2 h
    ·trivial
   ·rw[P8]
    have h:=K4 p (invoke (.fn (.method ‹String›) #[]) #[.iface ‹TypeId› ‹Value›]) w #[]
    split <;> first | trivial | (rename_i k;rw[k]at h;first | exact h | exact K7 h (A0e _ _ _ _))
   ·trivial
theorem A4k(p:Program)(fr:Frame)(cs:List Frame)(dy:Option Dying)(d:Deferred)(w:World):glo w.drawn (callDeferred p fr cs dy d w):=by
 unfold callDeferred
 by_cases hc:((match d.target with | .nil=>true | _=>false) && (match fr.mode with | .panicking _=>true | _=>false))=true
 ·exact(congrArg (glo w.drawn) (if_pos hc)).mpr trivial
 ·refine(congrArg (glo w.drawn) (if_neg hc)).mpr ?_
  simp only [P8]
  have h:=K4 p (invoke d.target d.args) w #[]
  generalize (invoke d.target d.args).runT p w #[]=r at h ⊢
  obtain⟨r,es⟩:=r
  simp only at h ⊢
  cases r with
  | ok a w' =>
   have h:w.drawn≤w'.drawn:=h
   cases a with
   | coroswitch c b=>cases b <;> first | trivial | exact h
   | alone b v=>cases b <;> first | trivial | exact h
   | _=>(try simp only) <;>(repeat' split) <;> first | trivial | exact h
  | halt e w' =>
   have h:w.drawn≤w'.drawn:=h
   cases e <;>(try simp only) <;>(repeat' split) <;> first | trivial | exact h | exact K7 h (A4j _ _ _ _ _ _) | exact K7 h (L1 _ _ _)
theorem B1p(p:Program)(main:Bool)(fr:Frame)(cs:List Frame)(d:Option Dying)(w:World):glo w.drawn (unwind p main fr cs d w):=by
 unfold unwind
 split
 ·simp only [P8]
  split
  ·rename_i h
   have:=K4 p (Instr.takeDeferred ‹Nat›) w #[]
   rw[h]at this
   exact this
  ·trivial
 ·exact A4k _ _ _ _ _ _
 ·split
  ·trivial
  ·split
   ·trivial
   ·split
    ·exact Nat.le_refl _
    ·split
     ·split
      ·exact Nat.le_refl _
      ·split
       ·rename_i h;exact M2 h
       ·trivial
       ·trivial
     ·split
      ·exact A0e _ _ _ _
      ·trivial
  ·split
   ·exact J3 _ _ _ _ _ _ _
   ·simp only [P8]
    rename_i fn hfn
    have h:=K4 p (results fn fr.tmps) w #[]
    split <;> first | trivial | (rename_i k;rw[k]at h;exact K7 h (J3 _ _ _ _ _ _ _))
theorem B5v(p:Program)(fr:Frame)(cs:List Frame)(d:Option Dying)(g:Nat)(w:World):glo w.drawn (early p fr cs d g w):=by
 have nt:∀ w:World,glo w.drawn (match w.heap[g]? with
   | some (.pending c elem)=>GStep.go { frame:=fr,callers:=cs,status:=.running,dying:=d } { w with heap:=w.heap.setIfInBounds g (.cells c elem) }
   | _=>.ended (.stuck "early: the variable does not wait" (fr.pos p)) w):=by
  intro w
  split
  ·exact Nat.le_refl _
  ·trivial
 unfold early
 simp only
 split
 ·exact nt w
 ·split
  ·trivial
  ·split
   ·exact nt w
   ·split
    ·exact nt w
    ·split
     ·trivial
     ·exact Nat.le_refl _
     ·trivial
     ·exact nt w
     ·split
      ·exact Nat.le_refl _
      ·split
       ·exact nt w
       ·split
        ·rename_i h;exact K7 (M2 h) (nt _)
        ·rename_i h;exact M2 h
        ·trivial
theorem W1(p:Program)(listen:Bool)(fr:Frame)(cs:List Frame)(d:Option Dying)(s:Sem Next)(w:World):glo w.drawn (stepG.apply p listen fr cs d s w):=by
 unfold stepG.apply
 simp only [P8]
 have h:rlo w.drawn (if listen=true then s.runT p w #[]else(s.run p w,#[])).1:=by
  split
  ·exact K4 p s w #[]
  ·exact A7s p s w
 generalize (if listen=true then s.runT p w #[]else(s.run p w,#[]))=r at h ⊢
 obtain⟨r,es⟩:=r
 simp only at h ⊢
 cases r with
 | halt hh w' =>
  cases hh with
  | unsupported u=>cases u <;> first | trivial | exact K7 h (B5v _ _ _ _ _ _)
  | _=>(try simp only) <;> first | trivial | exact h | exact K7 h (A4j _ _ _ _ _ _) | exact K7 h (L1 _ _ _)
 | ok a w' =>
  cases a <;>(try simp only) <;>(repeat' split) <;> first
   | trivial
   | exact h
   | exact K7 h (L1 _ _ _)
theorem Bb5(p:Program)(listen:Bool)(fr:Frame)(cs:List Frame)(d:Option Dying)(w:World):glo w.drawn (stepG.oper p listen fr cs d w):=by
 unfold stepG.oper
 split
 ·trivial
 ·split
  ·exact W1 _ _ _ _ _ _ _
  ·exact W1 _ _ _ _ _ _ _
theorem Bb6(p:Program)(main listen:Bool)(fr:Frame)(cs:List Frame)(d:Option Dying)(w:World):glo w.drawn (stepG.exec p main listen fr cs d w):=by
 unfold stepG.exec
 simp only [P8]
 repeat' split
 all_goals first
  | trivial
  | exact Nat.le_refl _
  | exact W1 _ _ _ _ _ _ _
  | exact Bb5 _ _ _ _ _ _
  | exact M2 ‹_›
  | exact A7t ‹_›
  | exact Aa8 ‹_›
  | exact K7 (A7t ‹_›) (J3 _ _ _ _ _ _ _)
  | exact K7 (A7t ‹_›) (W1 _ _ _ _ _ _ _)
  | exact W0 ‹_›
  | exact Au3 ‹_›
  | exact K7 (W0 ‹_›) (J3 _ _ _ _ _ _ _)
  | exact A7u (K7 (W0 ‹_›) (J3 _ _ _ _ _ _ _))
  | exact K7 (W0 ‹_›) (W1 _ _ _ _ _ _ _)
  | exact A4i trivial (fun _=>Nat.le_refl _)
  | exact A4i (Nat.le_refl _) (fun _=>Nat.le_refl _)
  | exact A4i trivial (fun _=>W1 _ _ _ _ _ _ _)
  | exact A4i (A7u (K7 (W0 ‹_›) (J3 _ _ _ _ _ _ _))) (fun _=>Nat.le_refl _)
  | exact A4i (K7 (W0 ‹_›) (J3 _ _ _ _ _ _ _)) (fun _=>Nat.le_refl _)
  | exact A7u (K7 (W0 ‹_›) (W1 _ _ _ _ _ _ _))
theorem B5w(p:Program)(main:Bool)(g:Goroutine)(w:World)(listen:Bool):glo w.drawn (stepG p main g w listen):=by
 unfold stepG
 simp only
 split
 ·exact die_lo _ _ _ _
 ·exact Bb6 _ _ _ _ _ _ _
 ·exact B1p _ _ _ _ _ _
theorem Au6{rest:Rest}{cases:Array CommCase}{w w':World}(h:waitingAt rest cases w=some w'):w'.drawn=w.drawn:=by
 unfold waitingAt at h
 split at h
 ·split at h
  ·injection h with h;subst h;rfl
  ·cases h
 ·injection h with h;subst h;rfl
theorem Bb7(p:Program)(rest:Rest)(gs:Array Goroutine)(i:Nat)(g:Goroutine)(cases:Array CommCase)(b:Bool)(shape:CommShape)(w:World):slo w.drawn (communicate p rest gs i g cases b shape w).1:=by
 unfold communicate
 simp only
 split
 ·trivial
 ·split
  ·split
   ·split
    ·rename_i h;have:=Au6 h;exact Nat.le_of_eq this.symm
    ·trivial
   ·exact Nat.le_refl _
  ·split
   ·trivial
   ·rename_i h
    have h1:=M2 h
    split
    ·split <;> first | trivial | (rename_i h2;have h3:=B5t h2;exact Nat.le_trans h1 h3)
    ·exact h1
    ·exact h1
    ·split
     ·exact h1
     ·split <;> first | trivial | (rename_i h2;have h3:=M2 h2;exact Nat.le_trans h1 h3)
    ·exact h1
    ·exact h1
    ·trivial
theorem B1q(p:Program)(gs:Array Goroutine)(rest:Rest)(w:World):slo w.drawn (Go.look p gs rest w):=by
 unfold Go.look
 split
 ·simp only
  split
  ·trivial
  ·split
   ·trivial
   ·split <;> first | trivial | (rename_i h2;have h3:=M2 h2;exact h3)
 ·trivial
theorem B5x(w:World)(c:Nat):(drain w c).2.drawn=w.drawn:=by
 unfold drain
 split <;> rfl
theorem Aa9(m:Machine)(k:Nat)(t:Timer)(a b:Nat):(retime m k t a b).2.world.drawn=m.world.drawn:=by
 unfold retime
 simp only
 split
 ·exact B5x _ _
 ·rfl
theorem Ao3{m:Machine}{var:Addr}{f:Nat→Timer→Value×Machine}{v:Value}{m':Machine}{n:Nat}(hf:∀ k t,(f k t).2.world.drawn=n)(h:timerOp.named m var f=.ok (v,m')):m'.world.drawn=n:=by
 unfold timerOp.named at h
 split at h
 ·injection h with h
  have:=hf ‹Nat› (m.rest.timers.getD ‹Nat› default)
  rw[h]at this
  exact this
 ·cases h
theorem B1r{m m':Machine}{var:Addr}(h:timerOp.opened m var=some m'):m'.world.drawn=m.world.drawn:=by
 unfold timerOp.opened at h
 split at h
 ·split at h
  ·injection h with h;subst h;rfl
  ·cases h
 ·injection h with h;subst h;rfl
theorem Au7{m m':Machine}{op:TimerOp}{v:Value}(h:timerOp m op=.ok (v,m')):m'.world.drawn=m.world.drawn:=by
 unfold timerOp at h
 split at h
 ·split at h
  ·injection h with h;injection h with _ h;subst h;rfl
  ·split at h
   ·split at h
    ·cases h
    ·injection h with h;injection h with _ h;subst h;rfl
   ·cases h
 ·exact Ao3 (fun k t=>Aa9 _ _ _ _ _) h
 ·split at h
  ·rename_i h2
   rw[← B1r h2]
   exact Ao3 (fun k t=>Aa9 _ _ _ _ _) h
  ·cases h
 ·injection h with h;injection h with _ h;subst h;rfl
theorem B5y(p:Program)(m:Machine)(k:Nat):slo m.world.drawn (serve p m k):=by
 unfold serve
 split
 ·trivial
 ·exact Nat.le_refl _
 ·simp only
  split
  ·trivial
  ·exact Nat.le_refl _
theorem Bb8(p:Program)(m:Machine)(i:Nat)(listen:Bool):slo m.world.drawn (Go.runT p m i listen).1:=by
 unfold Go.runT
 simp only
 have h:=B5w p (i == 0) (m.gs.swapAt! i { (default:Goroutine)with status:=.finished }).1 m.world listen
 generalize stepG p (i == 0) (m.gs.swapAt! i { (default:Goroutine)with status:=.finished }).1 m.world listen=s at h ⊢
 cases s with
 | ended o w=>trivial
 | comm g cases b shape w=>exact A68 h (Bb7 _ _ _ _ _ _ _ _ _)
 | go g w=>exact h
 | spawn g c w=>exact h
 | count g w =>
  simp only
  split
  ·trivial
  ·exact h
 | alone g on w=>exact h
 | collect g w=>exact A68 h (B1q _ _ _ _)
 | watch g w=>exact h
 | newcoro g c d w=>exact h
 | coroswitch g c e w =>
  simp only
  split
  ·exact h
  ·split
   ·rename_i k
    have:=L1 g.frame "coroswitch on exited coro" w
    rw[k]at this
    exact Nat.le_trans h this
   ·trivial
  ·trivial
 | timer g op w =>
  simp only
  split
  ·rename_i k
   have:=Au7 k
   exact Nat.le_trans h (Nat.le_of_eq this.symm)
  ·split
   ·rename_i k
    have:=L1 g.frame ‹String› w
    rw[k]at this
    exact Nat.le_trans h this
   ·trivial
  ·trivial
  ·trivial
theorem Ag9 (p : Program) (rs : List Nat) (m : Machine) : mlo m.world.drawn (match (choose (.sched rs.length) : Sem Nat).run p m.world with
      | .halt _ w=>Move.machine (.ended (.stuck "sched" "") w)
      | .ok k world =>
        if rs.length≤1 then .goroutine { m with world } (rs.getD k 0)else
        match (choose (.extern "sched.slice" 65536):Sem Nat).run p world with
        | .halt _ w=>.machine (.ended (.stuck "sched.slice" "") w)
        | .ok n world => .goroutine { m with world, rest := { m.rest with slice := if n = 0 then none else some (rs.getD k 0, n) } } (rs.getD k 0)) := by
  split
  · trivial
  · rename_i h
    have h1:=M2 h
    split
    · exact h1
    · split
      · trivial
      · rename_i h2
        have h3:=M2 h2
        exact Nat.le_trans h1 h3
theorem adv_lo{m:Machine}{t:Nat}{s:Move}(h:mlo (m.advanceTo t).world.drawn s):mlo m.world.drawn s:=h
theorem A7v(p:Program)(m:Machine):mlo m.world.drawn (askOn p m):=by
 unfold askOn
 simp only
 split
 ·trivial
 ·rename_i h
  have h1:=M2 h
  split
  ·exact A68 h1 (B5y p { m with world:=‹World› } _)
  ·split
   ·split
    ·exact h1
    ·split
     ·exact h1
     ·split <;> trivial
   ·split
    ·exact Aa7 h1 (Ag9 p _ { m with world:=‹World› })
    ·split
     ·trivial
     ·rename_i h2
      have h3:=M2 h2
      exact Aa7 (Nat.le_trans h1 h3) (Ag9 p _ { m with world:=‹World› })
     ·rename_i h2
      have h3:=M2 h2
      exact Nat.le_trans h1 h3
     ·rename_i h2
      have h3:=M2 h2
      exact Aa7 (Nat.le_trans h1 h3) (adv_lo (Ag9 p _ _))
theorem B7t(p:Program)(m:Machine):mlo m.world.drawn (ask p m):=by
 unfold ask
 split
 ·split
  ·trivial
  ·rename_i h
   have h1:=M2 h
   have h2:=B1q p m.gs m.rest ‹World›
   split
   ·rename_i k
    rw[k]at h2
    exact Aa7 (Nat.le_trans h1 h2) (A7v _ _)
   ·exact A68 h1 h2
  ·rename_i h
   exact Aa7 (M2 h) (A7v p { m with world:=‹World› })
 ·exact A7v _ _
theorem Bb9(p:Program)(m:Machine):mlo m.world.drawn (move p m):=by
 unfold move
 split
 ·split
  ·exact Nat.le_refl _
  ·trivial
 ·split
  ·split
   ·exact Nat.le_refl _
   ·exact B7t p { m with rest:={ m.rest with slice:=none } }
  ·exact B7t _ _
theorem Bc0(p:Program)(m:Machine):slo m.world.drawn (step p m):=by
 unfold step stepT
 have h:=Bb9 p m
 split
 ·rename_i k;rw[k]at h;exact A68 h (Bb8 _ _ _ _)
 ·rename_i k;rw[k]at h;exact h
theorem Ao4{p:Program}{m m':Machine}(h:Steps p m m'):m.world.drawn≤m'.world.drawn:=by
 obtain⟨n,h⟩:=h
 induction n generalizing m with
 | zero=>simp only [runN]at h;injection h with h;subst h;exact Nat.le_refl _
 | succ n ih =>
  simp only [runN]at h
  have h1:=Bc0 p m
  split at h
  ·rename_i k;rw[k]at h1;exact Nat.le_trans h1 (ih h)
  ·rename_i k;rw[h]at k;exact absurd rfl (k _)
theorem B5z{P:Program}{f:FuncId}{args:Array Value}{w:World}{R:Ending→World→Prop}(hR:∀ w',¬ R .outgrown w')(h:Calls P f args w R):Calls P f args w fun e w'=>R e w'∧w.drawn≤w'.drawn:=by
 intro cs
 obtain⟨e,w',fr,h1,h2,h3,h4⟩:=h cs
 refine⟨e,w',fr,⟨h1,?_⟩,h2,h3,h4⟩
 cases e with
 | returned v=>exact Ao4 h2
 | panicked c=>exact Ao4 h2
 | outgrown=>exact absurd h1 (hR _)
end Go.E
namespace Go.E
open Go Go.Sort Go.RowKit Go.Lib Go.Shelf Go.Proofs
structure TotC {β:Type} (c:β→β→Int):Prop where
 neg:∀ x y,c x y < 0↔0 < c y x
 tr:∀ x y z,c x y≤0→c y z≤0→c x z≤0
 anti:∀ x y,c x y=0→x=y
theorem TotC.self{β:Type}{c:β→β→Int}(h:TotC c)(x:β):c x x=0:=by
 have:=h.neg x x
 omega
theorem TotC.swo{β:Type}{c:β→β→Int}(h:TotC c):SWO (ltOf c):=by
 refine⟨fun x=>?_,fun x y z h1 h2=>?_,fun x y z h1 h2=>?_⟩
 ·unfold ltOf
  rw[decide_eq_false_iff_not,h.self x]
  omega
 ·unfold ltOf at *
  rw[decide_eq_true_iff]at *
  have h3:=h.tr x y z (by omega) (by omega)
  apply Classical.byContradiction
  intro h4
  have e:=h.anti x z (by omega)
  subst e
  have:=(h.neg x y).1 h1
  omega
 ·unfold ltOf at *
  rw[decide_eq_false_iff_not]at *
  have a1:=h.neg x y
  have a2:=h.neg y z
  have a3:=h.neg x z
  have b1:=h.neg y x
  have b2:=h.neg z y
  have b3:=h.neg z x
  have:=h.tr z y x (by omega) (by omega)
  omega
def B60{β:Type}(c:β→β→Int)(l:List β):List β:=l.mergeSort (fun x y=>decide (c x y≤0))
def risO{β:Type}(c:β→β→Int)(l:List β):Prop:=l.Pairwise fun x y=>c x y≤0
theorem T3{β:Type}(c:β→β→Int)(l:List β):(B60 c l).Perm l:=List.mergeSort_perm _ _
theorem Ao5{β:Type}{c:β→β→Int}(h:TotC c)(l:List β):risO c (B60 c l):=by
 have:=List.pairwise_mergeSort (le:=fun x y=>decide (c x y≤0)) (fun x y z h1 h2=>by
  rw[decide_eq_true_iff]at *
  exact h.tr x y z h1 h2) (fun x y=>by
  rw[Bool.or_eq_true,decide_eq_true_iff,decide_eq_true_iff]
  have:=h.neg x y
  have:=h.neg y x
  omega) l
 exact this.imp fun h=>of_decide_eq_true h
theorem Bc1{β:Type}{c:β→β→Int}(h:TotC c){a b:List β}(hp:a.Perm b)(ha:risO c a)(hb:risO c b):a=b :=
 List.Perm.eq_of_pairwise (le:=fun x y=>c x y≤0) (fun x y _ _ h1 h2=>by
  apply h.anti
  have:=h.neg x y
  have:=h.neg y x
  omega) ha hb hp
theorem Bc2{β:Type}{c:β→β→Int}(h:TotC c){a l:List β}(hp:a.Perm l)(ha:risO c a):a=B60 c l:=Bc1 h (hp.trans (T3 c l).symm) ha (Ao5 h l)
section
variable {P : Program} {ρ : Ren} {β : Type} {enc : β → List AV} {k : Nat} {S : Nat → Prop} {w : World}
structure Cel (enc:β→List AV) (k:Nat) (S:Nat→Prop) (w:World) where
 el:β
 vs:List Value
 len:vs.length=k
 one:∀ u∈vs,u.oneCell'=true
 rel:∀(j:Nat) (a:AV) (u:Value),(enc el)[j]?=some a→vs[j]?=some u→RelV0 S w a u
theorem cels(hk:∀ x,(enc x).length=k):∀(l:List β) (xs:List Value),xs.length=l.length*k→(∀ u∈xs,u.oneCell'=true) →
  (∀(j:Nat) (a:AV) (u:Value),(l.map enc).flatten[j]?=some a→xs[j]?=some u→RelV0 S w a u) →
  ∃ ds:List (Cel enc k S w),ds.map Cel.el=l∧(ds.map Cel.vs).flatten=xs
 | [],xs,h,_,_=>⟨[],rfl,(List.eq_nil_of_length_eq_zero (by simpa using h)).symm⟩
 | x :: l,xs,h,h1,h2=>by
  rw[List.length_cons,Nat.succ_mul]at h
  obtain⟨ds,e1,e2⟩:=cels hk l (xs.drop k) (by rw[List.length_drop];omega) (fun u hu=>h1 u (List.mem_of_mem_drop hu)) (fun j a u ha hu=>by
   refine h2 (k+j) a u ?_ (by rw[List.getElem?_drop]at hu;exact hu)
   rw[List.map_cons,List.flatten_cons,List.getElem?_append_right (by rw[hk];omega),hk,Nat.add_sub_cancel_left]
   exact ha)
  refine⟨⟨x,xs.take k,by rw[List.length_take];omega,fun u hu=>h1 u (List.mem_of_mem_take hu),fun j a u ha hu=>?_⟩ :: ds,by rw[List.map_cons,e1],by rw[List.map_cons,List.flatten_cons,e2];exact List.take_append_drop k xs⟩
  have hj:j < k:=by
   have:=(List.getElem?_eq_some_iff.1 ha).1
   rwa [hk]at this
  refine h2 j a u ?_ (by rw[List.getElem?_take,if_pos hj]at hu;exact hu)
  rw[List.map_cons,List.flatten_cons,List.getElem?_append_left (by rw[hk];exact hj)]
  exact ha
theorem A7w{W W':World}(hb:Below W.heap.size W W')(hd:W.drawn≤W'.drawn):∃ q os,W'=grow (W.drewN q) os:=by
 refine⟨W'.drawn-W.drawn,W'.heap.extract W.heap.size W'.heap.size,?_⟩
 have hh:W'.heap=W.heap++W'.heap.extract W.heap.size W'.heap.size:=by
  apply Array.ext'
  rw[Array.toList_append,Array.toList_extract]
  apply List.ext_getElem?
  intro i
  by_cases hi:i < W.heap.size
  ·rw[List.getElem?_append_left (by simpa using hi)]
   have:=hb.block i hi
   simpa using this
  ·rw[List.getElem?_append_right (by simpa using hi)]
   simp only [List.extract,Array.length_toList,List.getElem?_take,List.getElem?_drop]
   have hs:=hb.size
   have e2:W.heap.size+(i-W.heap.size)=i:=by omega
   rw[e2]
   split
   ·rfl
   ·rw[List.getElem?_eq_none (by simp;omega)]
 have h1:=hb.os
 have h2:=hb.tape
 have h3:=hb.output
 have h4:W.drawn+(W'.drawn-W.drawn)=W'.drawn:=by omega
 cases W' with
 | mk heap tape drawn os output =>
  simp only [World.drewN,grow]at *
  subst h1 h2 h3
  rw[← hh,h4]
set_option maxHeartbeats 1000000 in
/-- slices.SortFunc at a row of one's own whose cells lead on. -/
theorem Au8 (L:SlLaysF0.n6 P ρ) (hcal:G4 P (ρ.f 6)) (g ty:Nat) (eg:∀ args w,(callFunc g args).run P w=.ok (.enter g args) w)
  (aE:∀ w,(isAgg (ρ.t 24)).run P w=.ok true w) (zE:∀ w,(Go.sizeOf (ρ.t 24)).run P w=.ok k w) (hk:∀ x,(enc x).length=k) (cf:β→β→Int) (hO:TotC cf)
  (hcon:∀ x y:β,Con P g [.agg (enc x),.agg (enc y)] (.i .i64 (cf x y))) (l:List β) (hlen:l.length < 4611686018427387904) :
  A0x P (ρ.f 6) g none false ty k (l.map enc) ((B60 cf l).map enc):=by
 have hsz:∀ m:List β,∀ r∈m.map enc,r.length=k:=fun m r hr=>by obtain⟨x,_,rfl⟩:=List.mem_map.1 hr;exact hk x
 refine⟨hcal,by rw[List.length_map,List.length_map,(T3 cf l).length_eq],hsz _,fun w base v cv S xs hS hb ho hx1 hxr _=>?_⟩
 rw[List.length_map]at ho ⊢
 simp only [Bool.false_eq_true,if_false,Av8]
 obtain⟨ds,e1,e2⟩:=cels (S:=S) (w:=w) hk l xs ho.1 hx1 hxr
 have hl:ds.length=l.length:=by rw[← e1,List.length_map]
 rcases ho.2 with⟨rfl,h0⟩ | ⟨b,cap,cur,rfl,hb',hh,h1,h2,h3,h4⟩
 ·have:l=[]:=List.eq_nil_of_length_eq_zero h0
  subst this
  refine(AnyF.slices_SortFunc_none (P:=P) (ρ:=ρ) L none 0 _ w).mono ?_
  rintro e' w' ⟨rfl,rfl⟩
  have e0:B60 cf ([]:List β)=[]:=List.eq_nil_of_length_eq_zero (by rw[(T3 cf []).length_eq];rfl)
  rw[e0]
  exact⟨rfl,[],⟨by simp,.inl ⟨rfl,rfl⟩⟩,fun u hu=>by simp at hu,fun j a u ha hu=>by simp at hu,fun j _ _=>rfl,rfl,rfl,rfl,Nat.le_refl _⟩
 ·have hbl:b < w.heap.size:=(Array.getElem?_eq_some_iff.1 hh).1
  by_cases hn:l.length=0
  ·have:l=[]:=List.eq_nil_of_length_eq_zero hn
   subst this
   refine(AnyF.slices_SortFunc_none (P:=P) (ρ:=ρ) L (some ⟨b,0,none⟩) cap _ w).mono ?_
   rintro e' w' ⟨rfl,rfl⟩
   have e0:B60 cf ([]:List β)=[]:=List.eq_nil_of_length_eq_zero (by rw[(T3 cf []).length_eq];rfl)
   rw[e0]
   have hxs:xs=[]:=List.eq_nil_of_length_eq_zero (by simpa using ho.1)
   subst hxs
   exact⟨rfl,[],ho,fun u hu=>by simp at hu,fun j a u ha hu=>by simp at hu,fun j _ _=>rfl,rfl,rfl,rfl,Nat.le_refl _⟩
  ·haveI:Inhabited (Cel enc k S w):=⟨ds[0]'(by omega)⟩
   have hvk:∀ x:Cel enc k S w,x.vs.length=k:=fun x=>x.len
   have hv1:∀ x:Cel enc k S w,∀ v∈x.vs,v.oneCell'=true:=fun x=>x.one
   rw[← e2]at ho
   have hnb:∀ j,S j→j≠b:=fun j hj e=>hb j (by rw[e];rfl) hj
   have hHd:HoldsK Cel.vs k w b 0 ds.toArray:=U7 hvk ho (by simp [hl]) (by simp)
   have hSW:SWO (ltOf fun x y:Cel enc k S w=>cf x.el y.el):=⟨fun x=>hO.swo.irrefl _,fun x y z=>hO.swo.trans _ _ _,fun x y z=>hO.swo.ntrans _ _ _⟩
   have hcmp:CmpLays P g #[] Cel.vs k (fun x y:Cel enc k S w=>cf x.el y.el) b 0 ds.toArray.size w:=by
    intro m os dk hs x y
    have hF:Fam Cel.vs k b 0 w dk (sortWorldK Cel.vs k w b 0 m dk os):=⟨w.drawn+m,os,rfl⟩
    have hf:=hF.facts
    have hkeep:∀ j,S j→(sortWorldK Cel.vs k w b 0 m dk os).heap[j]?=w.heap[j]?:=fun j hj=>hf.2.2.2 j (hS j hj) (hnb j hj)
    have hc:=(hcon x.el y.el).2 (sortWorldK Cel.vs k w b 0 m dk os) S [.agg x.vs.toArray,.agg y.vs.toArray] (fun j hj=>Nat.lt_of_lt_of_le (hS j hj) hF.size) rfl (fun j a u ha hu=>by
     match j with
     | 0 =>
      simp only [List.getElem?_cons_zero,Option.some.injEq]at ha hu
      subst ha hu
      refine RelV0.agg _ _ (by rw[hvk,hk]) (hv1 x) fun j a u ha hu=>(x.rel j a u ha hu).mono (fun _ h=>h) hkeep
     | 1 =>
      simp only [List.getElem?_cons_succ,List.getElem?_cons_zero,Option.some.injEq]at ha hu
      subst ha hu
      refine RelV0.agg _ _ (by rw[hvk,hk]) (hv1 y) fun j a u ha hu=>(y.rel j a u ha hu).mono (fun _ h=>h) hkeep
     | n+2=>simp at ha)
    refine(B5z (fun w' h=>by obtain⟨v,hv,_⟩:=h;cases hv) hc).mono ?_
    rintro e' w' ⟨⟨v,rfl,hr,hbel⟩,hd⟩
    refine⟨?_,A7w hbel hd⟩
    cases hr
    rfl
   have hw:=AnyQ.slices_SortFunc (P:=P) (ρ:=ρ) L k aE zE Cel.vs hvk hv1 (fun x y:Cel enc k S w=>cf x.el y.el) hSW g #[] b 0 cap ds.toArray w eg hcmp hHd hbl (by simpa [hl]using hlen)
   have hsize:ds.toArray.size=l.length:=by simp [hl]
   rw[hsize]at hw
   refine hw.mono ?_
   rintro e' w' ⟨rfl,d',n,os,hper,hsor,hw'⟩
   have hF:Fam Cel.vs k b 0 w d' w':=⟨w.drawn+n,os,by rw[hw'];rfl⟩
   have f:=hF.facts
   obtain⟨hsz',_,hp⟩:=hper
   have e3:d'.extract 0 l.length=d':=by rw[← hsize,← hsz'];exact Array.extract_size
   have e4:ds.toArray.extract 0 l.length=ds.toArray:=by rw[← hsize];exact Array.extract_size
   rw[e3,e4]at hp
   have hpl:d'.toList.Perm ds:=by
    simpa using hp
   have hel:d'.toList.map Cel.el=B60 cf l:=by
    refine Bc2 hO ?_ ?_
    ·have:=hpl.map Cel.el
     rwa [e1]at this
    ·unfold risO
     rw[List.pairwise_map,List.pairwise_iff_getElem]
     intro i j hi hj hij
     rw[Array.length_toList]at hi hj
     have:=hsor i j (Nat.zero_le _) hij (by rw[hsz']at hj;simpa [hl]using hj)
     unfold ltOf at this
     rw[decide_eq_false_iff_not,getElem!_pos _ j hj,getElem!_pos _ i hi]at this
     rw[Array.getElem_toList,Array.getElem_toList]
     have this:¬ cf d'[j].el d'[i].el < 0:=this
     have a1:=hO.neg d'[j].el d'[i].el
     have a2:=hO.neg d'[i].el d'[j].el
     omega
   have ow:=hF.owns (d:=ds.toArray) hvk (by rw[hsz']) (by simp) (by simp [hl]) ho
   refine⟨rfl,(d'.toList.map Cel.vs).flatten,ow,fun u hu=>?_,fun j a u ha hu=>?_,fun j hj hjb=>f.2.2.2 j hj (fun e=>hjb (by rw[e];rfl)),f.1,f.2.1,f.2.2.1,hF.size⟩
   ·obtain⟨r,hr,hu⟩:=List.mem_flatten.1 hu
    obtain⟨x,_,rfl⟩:=List.mem_map.1 hr
    exact hv1 x u hu
   ·rw[← hel,List.map_map]at ha
    have hj:=(List.getElem?_eq_some_iff.1 hu).1
    rw[C6 (sz:=k) (fun r hr=>by obtain⟨x,_,rfl⟩:=List.mem_map.1 hr;exact hvk x),List.length_map]at hj
    have k0:0 < k:=Nat.pos_of_ne_zero fun h=>by
     have:d'.toList.length*k=0:=Nat.mul_eq_zero.2 (.inr h)
     omega
    have hq:j % k < k:=Nat.mod_lt _ k0
    have hi:j / k < d'.toList.length:=(Nat.div_lt_iff_lt_mul k0).2 hj
    have ej:j / k*k+j % k=j:=by rw[Nat.mul_comm];exact Nat.div_add_mod j k
    have g1:=E9 (sz:=k) (rows:=d'.toList.map Cel.vs) (fun r hr=>by obtain⟨x,_,rfl⟩:=List.mem_map.1 hr;exact hvk x) (j:=j / k) (q:=j % k) (r:=(d'.toList[j / k]).vs) (by rw[List.getElem?_map,List.getElem?_eq_getElem hi];rfl) hq
    have g2:=E9 (sz:=k) (rows:=d'.toList.map (enc ∘ Cel.el)) (fun r hr=>by obtain⟨x,_,rfl⟩:=List.mem_map.1 hr;exact hk _) (j:=j / k) (q:=j % k) (r:=enc (d'.toList[j / k]).el) (by rw[List.getElem?_map,List.getElem?_eq_getElem hi];rfl) hq
    rw[ej]at g1 g2
    rw[g1]at hu
    rw[g2]at ha
    exact((d'.toList[j / k]).rel _ _ _ ha hu).mono (fun _ h=>h) (fun q hq=>f.2.2.2 q (hS q hq) (hnb q hq))
end
end Go.E
namespace Go.Proofs.YtphcaholhacnpaaGreat
open Go.E
set_option maxRecDepth 100000
set_option maxHeartbeats 4000000
def Au9{α:Type}(p:α→α→Bool):α→List α→List α
 | _,[]=>[]
 | a,b :: l=>if p b a then Au9 p b l else b :: Au9 p b l
def Ah0{α:Type}(p:α→α→Bool):List α→List α
 | []=>[]
 | a :: l=>a :: Au9 p a l
theorem Ao6{α:Type}(p:α→α→Bool)(x:α):∀(t:List α) (a:α),Au9 p a (t++[x])=Au9 p a t++(if p x ((a :: t).getLast (by simp))then[]else[x])
 | [],a=>rfl
 | b :: t,a=>by
  have ih:=Ao6 p x t b
  simp only [List.cons_append,Au9,List.getLast_cons_cons]
  split
  ·exact ih
  ·rw[ih];rfl
theorem A02{α:Type}[Inhabited α](p:α→α→Bool){l:List α}{j:Nat}(h1:1≤j)(hj:j < l.length):Ah0 p (l.take (j+1))=Ah0 p (l.take j)++(if p l[j]! l[j-1]! then[]else[l[j]!]):=by
 have e:l.take (j+1)=l.take j++[l[j]!]:=by rw[List.take_succ_eq_append_getElem hj,getElem!_pos l j hj]
 rw[e]
 cases hl:l.take j with
 | nil =>
  have:=congrArg List.length hl
  rw[List.length_take,List.length_nil]at this
  omega
 | cons a t =>
  have hlen:(a :: t).length=j:=by rw[← hl,List.length_take];omega
  have hlast:(a :: t).getLast (by simp)=l[j-1]!:=by
   rw[List.getLast_eq_getElem,getElem!_pos l (j-1) (by omega)]
   simp only [← hl,List.getElem_take]
   congr 1
   rw[hl,hlen]
  show a :: Au9 p a (t++[l[j]!])=_
  rw[Ao6,hlast]
  rfl
theorem A24{α:Type}[Inhabited α](p:α→α→Bool)(l:List α):∀ k:Nat,k≤l.length→(∀ j:Nat,1≤j→j < k→p l[j]! l[j-1]! = false)→Ah0 p (l.take k)=l.take k
 | 0,_,_=>by simp [Ah0]
 | 1,hk,_=>by
  cases l with
  | nil=>simp at hk
  | cons a l=>simp [Ah0,Au9]
 | k+2,hk,h=>by
  rw[A02 p (by omega) (by omega),A24 p l (k+1) (by omega) (fun j h1 h2=>h j h1 (by omega)),h (k+1) (by omega) (by omega)]
  simp only [Bool.false_eq_true,if_false]
  rw[List.take_succ_eq_append_getElem (show k+1 < l.length by omega),getElem!_pos l (k+1) (by omega)]
def eqR(a b:Record):Bool:=decide (D2 a b=0)
def H7(l:List Record):List Record:=Ah0 eqR l
theorem B1s:∀(l:List Record) (a:Record),(a :: l).Pairwise (fun x y=>D2 x y≤0)→(∀ r∈a :: l,r.past=A3 r.past) →
  (∀ y∈Au9 eqR a l,D2 a y < 0)∧upR (Au9 eqR a l)∧∀ y,y∈a :: Au9 eqR a l↔y∈a :: l
 | [],a,_,_=>⟨fun y hy=>(by cases hy),List.Pairwise.nil,fun y=>by simp [Au9]⟩
 | b :: l,a,hp,hn=>by
  have h1:=List.pairwise_cons.1 hp
  have ih:=B1s l b h1.2 (fun r hr=>hn r (List.mem_cons_of_mem _ hr))
  simp only [Au9]
  by_cases e:eqR b a=true
  ·have e':b=a:=A7b (hn b (by simp)) (hn a (by simp)) (by simpa [eqR]using e)
   subst e'
   rw[if_pos e]
   refine⟨ih.1,ih.2.1,fun y=>?_⟩
   rw[ih.2.2 y]
   simp
  ·rw[if_neg e]
   have hab:D2 a b < 0:=by
    have h2:=h1.1 b (by simp)
    have h3:¬ D2 b a=0:=by simpa [eqR]using e
    have:=A2g.neg a b
    omega
   refine⟨fun y hy=>?_,List.pairwise_cons.2 ⟨ih.1,ih.2.1⟩,fun y=>?_⟩
   ·rcases List.mem_cons.1 hy with rfl | hy
    ·exact hab
    ·have:=ih.1 y hy
     exact A2g.lt hab (by omega)
   ·have:=ih.2.2 y
    simp only [List.mem_cons]at this ⊢
    rw[this]
theorem Ao7{l:List Record}(hp:l.Pairwise (fun x y=>D2 x y≤0))(hn:∀ r∈l,r.past=A3 r.past):upR (H7 l)∧∀ y,y∈H7 l↔y∈l:=by
 unfold H7
 cases l with
 | nil=>exact⟨List.Pairwise.nil,fun y=>by simp [Ah0]⟩
 | cons a l =>
  have h:=B1s l a hp hn
  exact⟨List.pairwise_cons.2 ⟨h.1,h.2.1⟩,h.2.2⟩
def Bh4:Type:={r:Record // r.past=A3 r.past}
theorem B61:(⟨noneS,⟨[],[]⟩⟩:Record).past=A3 (⟨noneS,⟨[],[]⟩⟩:Record).past:=A9m.symm
instance:Inhabited Bh4:=⟨⟨⟨noneS,⟨[],[]⟩⟩,B61⟩⟩
noncomputable def B1t(r:Record):Bh4:=if h:r.past=A3 r.past then⟨r,h⟩else default
def Bc3(x y:Bh4):Int:=D2 x.1 y.1
def Bc4(x:Bh4):List AV:=c54 x.1
theorem totRB:TotC Bc3:=by
 refine⟨fun x y=>?_,fun x y z h1 h2=>A2g.tr x.1 y.1 z.1 h1 h2,fun x y h=>Subtype.ext (A7b x.2 y.2 h)⟩
 unfold Bc3
 have:=A2g.neg x.1 y.1
 omega
noncomputable def srtB(l:List Record):List Bh4:=B60 Bc3 (l.map B1t)
noncomputable def Ac5(l:List Record):List Record:=(srtB l).map (·.1)
def T4(l:List Record):Prop:=∀ r∈l,r.past=A3 r.past
theorem Ao8{l:List Record}(h:T4 l):(l.map B1t).map (·.1)=l:=by
 rw[List.map_map]
 conv=>rhs;rw[← List.map_id l]
 refine List.map_congr_left fun r hr=>?_
 have e:B1t r=⟨r,h r hr⟩:=by unfold B1t;exact dif_pos (h r hr)
 show(B1t r).1=r
 rw[e]
theorem B1u{l:List Record}(h:T4 l):(Ac5 l).Perm l:=by
 have:=(T3 Bc3 (l.map B1t)).map (·.1)
 rw[Ao8 h]at this
 exact this
theorem A4l(l:List Record):T4 (Ac5 l):=by
 intro r hr
 obtain⟨x,_,rfl⟩:=List.mem_map.1 hr
 exact x.2
theorem A69(l:List Record):(Ac5 l).Pairwise (fun x y=>D2 x y≤0):=by
 have:=Ao5 totRB (l.map B1t)
 unfold Ac5 srtB
 rw[List.pairwise_map]
 exact this
noncomputable def Bc5(l:List Record):List Record:=H7 (Ac5 l)
theorem Bc6(l:List Record):upR (Bc5 l):=(Ao7 (A69 l) (A4l l)).1
theorem Ao9{l:List Record}(h:T4 l)(r:Record):r∈Bc5 l↔r∈l:=by
 unfold Bc5
 rw[(Ao7 (A69 l) (A4l l)).2 r]
 exact(B1u h).mem_iff
theorem B1v{l:List Record}(h:T4 l):T4 (Bc5 l):=fun r hr=>h r ((Ao9 h r).1 hr)
theorem B62{a l:List Record}(h:T4 l)(ha:upR a)(hm:∀ r,r∈a↔r∈l):a=Bc5 l :=
 A5y ha (Bc6 l) (fun r hr=>h r ((hm r).1 hr)) (B1v h) (fun r=>by rw[hm r,Ao9 h r])
theorem A7x{l:List Record}(h:T4 l):B0t l:=fun r hr=>by have:=V7 (h r hr);unfold szR;omega
def clnR(r:Record):Record:=⟨r.sku,A3 r.past⟩
noncomputable def lsR(rs:List Record):List Record:=(rs.filter fun r=>decide (¬ B8 r.past=0)).map clnR
def Ab0(r:Record):Bool:=decide (r.sku=noneS) || I2 r.sku
noncomputable def I3(rs:List Record):List Record×Int:=if rs.all Ab0=true then(Bc5 (lsR rs),0)else([],5)
theorem B63(rs:List Record):T4 (lsR rs):=by
 intro r hr
 obtain⟨x,_,rfl⟩:=List.mem_map.1 hr
 exact(B06 x.past).symm
theorem B64{rs:List Record}(h:∀ r∈rs,ckR r=0):lsR rs=rs:=by
 unfold lsR
 have e:rs.filter (fun r=>decide (¬ B8 r.past=0))=rs:=List.filter_eq_self.2 fun r hr=>by
  rw[decide_eq_true_iff];exact(At2.1 (h r hr)).2.2
 rw[e]
 conv=>rhs;rw[← List.map_id rs]
 refine List.map_congr_left fun r hr=>?_
 unfold clnR
 rw[←(At2.1 (h r hr)).2.1]
 rfl
theorem B65{rs:List Record}(h:∀ r∈rs,ckR r=0):rs.all Ab0=true:=by
 rw[List.all_eq_true]
 intro r hr
 unfold Ab0
 rw[Bool.or_eq_true,decide_eq_true_iff]
 exact(At2.1 (h r hr)).1
theorem A03{a:List Record}(h:F0 a=0):T4 a:=fun r hr=>(At2.1 (((A1o a).1 h).1 r hr)).2.1
end Go.Proofs.YtphcaholhacnpaaGreat
namespace Go.Proofs.YtphcaholhacnpaaGreat
open Go.E
set_option maxRecDepth 100000
set_option maxHeartbeats 4000000
theorem Ab1{e:Entry}:A4r e=0↔I0 e.dot=true∧I2 e.sku=true∧1≤e.qty∧e.qty≤1000000:=by
 unfold A4r I0
 rw[decide_eq_true_iff]
 by_cases a:e.dot.rep < 0∨16≤e.dot.rep
 ·rw[if_pos a];omega
 ·rw[if_neg a]
  by_cases b:e.dot.num < 1∨1000000000 < e.dot.num
  ·rw[if_pos b];omega
  ·rw[if_neg b]
   cases c:I2 e.sku with
   | false=>simp
   | true =>
    rw[if_neg (by simp)]
    by_cases d:e.qty < 1∨1000000 < e.qty
    ·rw[if_pos d]
     exact⟨fun h=>by omega,fun h=>by have:=h.2.2.1;have:=h.2.2.2;omega⟩
    ·rw[if_neg d]
     exact⟨fun _=>⟨by omega,rfl,by omega,by omega⟩,fun _=>rfl⟩
theorem B7u(f:Facts):∃ b:Bool,b=decide (E3 f.adds=0∧f.gone=A3 f.gone∧F0 f.recs=0):=⟨_,rfl⟩
noncomputable def okF(f:Facts):Bool:=Classical.choose (B7u f)
theorem B7v(f:Facts):okF f=decide (E3 f.adds=0∧f.gone=A3 f.gone∧F0 f.recs=0):=Classical.choose_spec (B7u f)
def szF(f:Facts):Prop:=szP f.gone∧szQ f.recs
end Go.Proofs.YtphcaholhacnpaaGreat
namespace Go.Proofs.YtphcaholhacnpaaGreat
open Go.E
set_option maxRecDepth 100000
set_option maxHeartbeats 4000000
noncomputable def O2(rs:List Record)(p:Past):List Record:=rs.filter fun r=>decide (¬ B8 (B3 r.past p)=0)
noncomputable def K0(rs:List Record)(p:Past):List Record×Int:=if F0 rs=0∧p=A3 p then(O2 rs p,0)else([],1)
def A56(rs:List Record)(p:Past)(i:Int)(v:List Int)(c:List Span)(out:List Record):Prop:=v=p.vec∧c=p.cloud∧0≤i∧i≤rs.length∧(out.length:Int)≤i∧out=O2 (rs.take i.toNat) p
def decWt(rs:List Record)(i:Int)(v:List Int)(c:List Span)(out:List Record):Nat:=(rs.length-i).toNat
theorem B1w{rs:List Record}{p:Past}{i:Int}{o:List Record}(h0:0≤i)(hi:i < rs.length)(ho:o=O2 (rs.take i.toNat) p) :
  O2 (rs.take (i+1).toNat) p=o++if B8 (B3 rs[i.toNat]!.past p)=0 then[]else[rs[i.toNat]!]:=by
 unfold O2 at *
 rw[← C8 h0 hi,List.filter_append,ho]
 congr 1
 generalize rs[i.toNat]! = x
 split
 ·rename_i h;simp [List.filter_cons,h]
 ·rename_i h;simp [List.filter_cons,h]
theorem B1x{rs:List Record}(h:F0 rs=0){i:Int}(h0:0≤i)(hi:i < rs.length):(⟨rs[i.toNat]!.sku,A3 rs[i.toNat]!.past⟩:Record)=rs[i.toNat]!:=by
 have:=(At2.1 (((A1o rs).1 h).1 _ (D9 (l:=rs) (i:=i.toNat) (by omega)))).2.1
 rw[← this]
theorem A7y{rs:List Record}{p:Past}(h:¬F0 rs=0∨¬p=A3 p):K0 rs p=([],1):=by unfold K0;rw[if_neg (fun k=>h.elim (fun g=>g k.1) (fun g=>g k.2))]
theorem K5{rs:List Record}{p:Past}(h:¬(¬F0 rs=0∨¬p=A3 p)):F0 rs=0∧p=A3 p:=⟨Classical.not_not.1 fun k=>h (.inl k),Classical.not_not.1 fun k=>h (.inr k)⟩
theorem A0p{rs:List Record}{p:Past}(h:F0 rs=0)(k:p=A3 p):K0 rs p=(O2 rs p,0):=by unfold K0;rw[if_pos ⟨h,k⟩]
theorem B7w{rs:List Record}{p:Past}{i:Int}{o:List Record}(hr:F0 rs=0)(h0:0≤i)(hi:i < rs.length)(h1:(o.length:Int)≤i)(ho:o=O2 (rs.take i.toNat) p)(h:¬ B8 (B3 rs[i.toNat]!.past p)=0):A56 rs p (i+1) p.vec p.cloud (o++[⟨rs[i.toNat]!.sku,A3 rs[i.toNat]!.past⟩]) :=
 ⟨rfl,rfl,by omega,by omega,by rw[List.length_append,List.length_singleton];omega,by rw[B1w h0 hi ho,if_neg h,B1x hr h0 hi]⟩
theorem B1y{rs:List Record}{p:Past}{i:Int}{o:List Record}(h0:0≤i)(hi:i < rs.length)(h1:(o.length:Int)≤i)(ho:o=O2 (rs.take i.toNat) p)(h:¬ ¬ B8 (B3 rs[i.toNat]!.past p)=0):A56 rs p (i+1) p.vec p.cloud o :=
 ⟨rfl,rfl,by omega,by omega,by omega,by rw[B1w h0 hi ho,if_pos (Classical.not_not.1 h),List.append_nil]⟩
theorem B7x(rs:List Record)(p:Past)(hb:B0t rs)(hl:rs.length*64≤140737488350000)(hp:p.cloud.length*16≤140737488350000):Con Tryz.prog 128 [.sl (rs.map c54),.agg (c26 p)] (.tup [.sl ((K0 rs p).1.map c54),.i .i64 (K0 rs p).2]) :=
 by
 refine lN 0 c54 (rs) Tryz.func128 fun hl_0=>sC A6 [.tmp 4,.tmp 5] 35 Tryz.func128 ?_
 intro e0 cx
 refine sq<|rG cx [0,3] [3] z0<|sn<|sq<|sq<|B1 (σ':=⟨[(0,.sl (List.map c54 rs)),(3,.ptr (3) (0) (0) (0)),(16,.b (decide (¬F0 rs=0∨¬p=A3 p)))],[(3,⟨0,26,.var [.sl (List.map c3 p.vec),.sl (List.map A9 p.cloud)]⟩)]⟩) ?_ ?_
 refine A5 (¬F0 rs=0) (fun h_1=>?_) (fun h_1=>?_)
 refine rG cx [0,3,16] [3] (fT (A62 (rs) (by(with_reducible assumption))) (tT 2 (H2 h_1:AV.b (F0 rs !=0)=AV.b true) (tD 7 true (¬F0 rs=0∨¬p=A3 p) (by simp only [eq_false h_1,tsl]) (oA 1 (.i .i64 (F0 rs)) z0)))) ?_
 exact⟨rfl,by kernel_rfl⟩
 refine rG cx [0,3,16] [3] (fT (A62 (rs) (by(with_reducible assumption))) (tN 2 (F0 rs) (0:Int) (tT 3 (A0 h_1) (fT (A9d (p) (by(with_reducible assumption))) (tQ 6 (p=A3 p) (tT 7 (by first | (simp only [eq_false h_1,tsl];done) | simp_all:AV.b (decide ¬p=A3 p)=AV.b (decide (¬F0 rs=0∨¬p=A3 p))) (oA 1 (.i .i64 (F0 rs)) (oA 5 (.b (decide (p=A3 p))) z0)))))))) ?_
 exact⟨rfl,by kernel_rfl⟩
 refine sn<|dC (¬F0 rs=0∨¬p=A3 p) (fun hh2=>?_) fun hh2=>?_
 refine sq<|rG cx [4,5] [] z0<|sn<|rT<|nR<|qR (.tup [.nl,.i .i64 ((1:Int))]) (B5.tup (ZLe.cons (B5.nl' (show List.map c54 (K0 rs p).1=[]from(by rw[A7y hh2];rfl))) (ZLe.cons (B5.eq (show AV.i .i64 1=AV.i .i64 (K0 rs p).2 from(by rw[A7y hh2]))) ZLe.nil)))
 refine sK<|sn<|sq<|rG cx [0,3,6] [3] z0<|sn<|sq<|sq<|rG cx [3,6,17,18,19] [3] (tL 1 c54 rs z0)<|sn<|bL 0<|E0 6 1006 54 3 (σ':=⟨[(3,.ptr (3) (0) (0) (0)),(6,.own 1006 0),(17,.sl (List.map c54 rs)),(18,.i .i64 ((↑rs.length:Int))),(19,.i .i64 ((0:Int)))],[(3,⟨0,26,.var [.sl (List.map c3 p.vec),.sl (List.map A9 p.cloud)]⟩),(1006,⟨0,54,.row 3 (List.map c54 [])⟩)]⟩) (by kernel_rfl)<|sL (X:=Int×List Int×List Span×List Record) (fun x=>⟨[(3,.ptr (3) (0) (0) (0)),(6,.own 1006 0),(17,.sl (List.map c54 rs)),(18,.i .i64 ((↑rs.length:Int))),(19,.i .i64 (x.1))],[(3,⟨0,26,.var [.sl (List.map c3 x.2.1),.sl (List.map A9 x.2.2.1)]⟩),(1006,⟨0,54,.row 3 (List.map c54 x.2.2.2)⟩)]⟩) (fun x ↦ decWt rs x.1 x.2.1 x.2.2.1 x.2.2.2) (fun x ↦ A56 rs p x.1 x.2.1 x.2.2.1 x.2.2.2) [3,6,17,18,19] [3,1006] (((0:Int),p.vec,p.cloud,[])) (show A56 rs p (0:Int) p.vec p.cloud []from(by exact⟨rfl,rfl,by omega,by omega,by simp,rfl⟩)) ?_
 rintro⟨i3,v4,c5,o6⟩ h_7
 obtain⟨h8,h9,h10,h11,h12,h13⟩:v4=p.vec∧c5=p.cloud∧0≤i3∧i3≤(↑rs.length:Int)∧(↑o6.length:Int)≤i3∧o6=O2 (List.take i3.toNat rs) p:=h_7
 refine rE cx [3,6,17,18,19,20] [3,1006] (zB 0 (i3 <(↑rs.length:Int))) (fun h14=>?_) fun h14=>?_
 refine sK<|sn<|sq<|bL 1<|sq<|rG cx [3,6,17,18,19,8] [3,1006,8] (fA (0≤i3) (fG c54 rs i3.toNat (fR 3 (fN 3 3 (oR 0 (c54 rs[i3.toNat]!) z0)))))<|sn<|sq<|rG cx [3,6,17,18,19,8,27] [3,1006,8] (fT (An9 (rs[i3.toNat]!.past) ({ vec:=v4,cloud:=c5:Past }) (by exact V4 hb h10 h14) (by subst h9;exact hp)) (tQ 4 (B8 (B3 rs[i3.toNat]!.past { vec:=v4,cloud:=c5:Past })=0) (oA 3 (.b (decide (B8 (B3 rs[i3.toNat]!.past { vec:=v4,cloud:=c5:Past })=0))) z0))) ?_
 refine sn<|dC (¬B8 (B3 rs[i3.toNat]!.past { vec:=v4,cloud:=c5:Past })=0) (fun h15=>?_) fun h15=>?_
 refine rG cx [3,6,17,18,19] [3,1006] (fT (B13 (rs[i3.toNat]!) (by exact V4 hb h10 h14)) (fR 54 (fR 3 (fR 3 (fX c54 [{ sku:=rs[i3.toNat]!.sku,past:=A3 rs[i3.toNat]!.past:Record }] 3 (fS c54 o6 c54 [{ sku:=rs[i3.toNat]!.sku,past:=A3 rs[i3.toNat]!.past:Record }] (fP (((List.map c54 o6).length+(List.map c54 [{ sku:=rs[i3.toNat]!.sku,past:=A3 rs[i3.toNat]!.past:Record }]).length)*(64:Nat)≤(140737488355328:Nat)) (by(simp only [Go.maxLen,List.length_map,List.length_append,List.length_cons,List.length_nil];omega)) (fM c54 o6 [{ sku:=rs[i3.toNat]!.sku,past:=A3 rs[i3.toNat]!.past:Record }] (oA 2 (.agg [.s ({ sku:=rs[i3.toNat]!.sku,past:=A3 rs[i3.toNat]!.past:Record }.sku),.sl (List.map c3 { sku:=rs[i3.toNat]!.sku,past:=A3 rs[i3.toNat]!.past:Record }.past.vec),.sl (List.map A9 { sku:=rs[i3.toNat]!.sku,past:=A3 rs[i3.toNat]!.past:Record }.past.cloud)]) (oV 4 { rows:=some (List.map c54 (o6++[{ sku:=rs[i3.toNat]!.sku,past:=A3 rs[i3.toNat]!.past:Record }])) } z0)))))))))) ?_
 refine bN<|sn<|rG cx [3,6,17,18,19] [3,1006] (tW 0 (i3+1) z0)<|sn<|nX ((i3+1,v4,c5,o6++[{ sku:=rs[i3.toNat]!.sku,past:=A3 rs[i3.toNat]!.past:Record }])) (show((↑rs.length:Int)-(i3+1)).toNat <((↑rs.length:Int)-i3).toNat from(by omega)) (show A56 rs p (i3+1) v4 c5 (o6++[{ sku:=rs[i3.toNat]!.sku,past:=A3 rs[i3.toNat]!.past:Record }])from(by subst h8 h9;exact B7w (K5 hh2).1 h10 h14 h12 h13 h15))
 refine sK<|bN<|sn<|rG cx [3,6,17,18,19] [3,1006] (tW 0 (i3+1) z0)<|sn<|nX ((i3+1,v4,c5,o6)) (show((↑rs.length:Int)-(i3+1)).toNat <((↑rs.length:Int)-i3).toNat from(by omega)) (show A56 rs p (i3+1) v4 c5 o6 from(by subst h8 h9;exact B1y h10 h14 h12 h13 h15))
 refine eX 0<|nE<|nE<|bH<|sn<|sq<|rG cx [4,5] [1006] z0<|sn<|rT<|qR (.tup [.sl (List.map c54 o6),.i .i64 ((0:Int))]) (B5.tup (ZLe.cons (B5.eq (show AV.sl (List.map c54 o6)=AV.sl (List.map c54 (K0 rs p).1)from(by rw[A0p (K5 hh2).1 (K5 hh2).2,h13,List.take_of_length_le (by omega)]))) (ZLe.cons (B5.eq (show AV.i .i64 0=AV.i .i64 (K0 rs p).2 from(by rw[A0p (K5 hh2).1 (K5 hh2).2]))) ZLe.nil)))
theorem con191(rs:List Record)(p:Past)(hb:szQ rs)(hl:rs.length*64≤140737488350000)(hp:szP p):Con Tryz.prog 191 [.sl (rs.map c54),.agg (c26 p)] (.tup [.sl ((K0 rs p).1.map c54),.i .i64 (K0 rs p).2]) :=
 by
 refine lN 0 c54 (rs) Tryz.func191 fun hl_0=>sC A6 [.tmp 4,.tmp 5] 38 Tryz.func191 ?_
 intro e0 cx
 refine sq<|rG cx [0,3] [3] z0<|sn<|sq<|sq<|B1 (σ':=⟨[(0,.sl (List.map c54 rs)),(3,.ptr (3) (0) (0) (0)),(15,.b (decide (¬F0 rs=0∨¬p=A3 p)))],[(3,⟨0,26,.var [.sl (List.map c3 p.vec),.sl (List.map A9 p.cloud)]⟩)]⟩) ?_ ?_
 refine A5 (¬F0 rs=0) (fun hh1=>?_) (fun hh1=>?_)
 refine rG cx [0,3,15] [3] (fT (An8 (rs) (by(with_reducible assumption))) (tT 2 (H2 hh1:AV.b (F0 rs !=0)=AV.b true) (tD 7 true (¬F0 rs=0∨¬p=A3 p) (by simp only [eq_false hh1,tsl]) (oA 1 (.i .i64 (F0 rs)) z0)))) ?_
 exact⟨rfl,by kernel_rfl⟩
 refine rG cx [0,3,15] [3] (fT (An8 (rs) (by(with_reducible assumption))) (tN 2 (F0 rs) (0:Int) (tT 3 (A0 hh1) (fT (Ag7 (p) (by exact hp.1) (by exact hp.2)) (tQ 6 (p=A3 p) (tT 7 (by first | (simp only [eq_false hh1,tsl];done) | simp_all:AV.b (decide ¬p=A3 p)=AV.b (decide (¬F0 rs=0∨¬p=A3 p))) (oA 1 (.i .i64 (F0 rs)) (oA 5 (.b (decide (p=A3 p))) z0)))))))) ?_
 exact⟨rfl,by kernel_rfl⟩
 refine sn<|dC (¬F0 rs=0∨¬p=A3 p) (fun hh2=>?_) fun hh2=>?_
 refine sq<|rG cx [4,5] [] z0<|sn<|rT<|nR<|qR (.tup [.nl,.i .i64 ((1:Int))]) (B5.tup (ZLe.cons (B5.nl' (show List.map c54 (K0 rs p).1=[]from(by rw[A7y hh2];rfl))) (ZLe.cons (B5.eq (show AV.i .i64 1=AV.i .i64 (K0 rs p).2 from(by rw[A7y hh2]))) ZLe.nil)))
 refine sK<|sn<|sq<|rG cx [0,3,6] [3] z0<|sn<|sq<|sq<|rG cx [0,3,6,7] [3] z0<|sn<|bL 0<|E0 6 1006 54 3 (σ':=⟨[(0,.sl (List.map c54 rs)),(3,.ptr (3) (0) (0) (0)),(6,.own 1006 0),(7,.i .i64 ((0:Int)))],[(3,⟨0,26,.var [.sl (List.map c3 p.vec),.sl (List.map A9 p.cloud)]⟩),(1006,⟨0,54,.row 3 (List.map c54 [])⟩)]⟩) (by kernel_rfl)<|sL (X:=Int×List Int×List Span×List Record) (fun x=>⟨[(0,.sl (List.map c54 rs)),(3,.ptr (3) (0) (0) (0)),(6,.own 1006 0),(7,.i .i64 (x.1))],[(3,⟨0,26,.var [.sl (List.map c3 x.2.1),.sl (List.map A9 x.2.2.1)]⟩),(1006,⟨0,54,.row 3 (List.map c54 x.2.2.2)⟩)]⟩) (fun x ↦ decWt rs x.1 x.2.1 x.2.2.1 x.2.2.2) (fun x ↦ A56 rs p x.1 x.2.1 x.2.2.1 x.2.2.2) [0,3,6,7] [3,1006] (((0:Int),p.vec,p.cloud,[])) (show A56 rs p (0:Int) p.vec p.cloud []from(by exact⟨rfl,rfl,by omega,by omega,by simp,rfl⟩)) ?_
 rintro⟨i3,v4,c5,o6⟩ h_7
 obtain⟨h8,h9,h10,h11,h12,h13⟩:v4=p.vec∧c5=p.cloud∧0≤i3∧i3≤(↑rs.length:Int)∧(↑o6.length:Int)≤i3∧o6=O2 (List.take i3.toNat rs) p:=h_7
 refine sq<|rD cx [0,3,6,7,19] [3,1006] (tL 2 c54 rs (zB 3 (i3 <(↑rs.length:Int)))) (fun h14=>?_) fun h14=>?_
 refine sK<|sn<|sq<|bL 1<|sq<|rA cx [0,3,6,7,29] [3,1006] (fA (0≤i3) (fG c54 rs i3.toNat (fR 3 (fN 2 2 (fT (con46 (rs[i3.toNat]!.past) ({ vec:=v4,cloud:=c5:Past }) (by exact(A67 hb h10 h14).1) (by subst h9;exact hp.1)) (tQ 7 (B8 (B3 rs[i3.toNat]!.past { vec:=v4,cloud:=c5:Past })=0) (oR 2 (c54 rs[i3.toNat]!) (oA 6 (.b (decide (B8 (B3 rs[i3.toNat]!.past { vec:=v4,cloud:=c5:Past })=0))) z0)))))))) ?_
 refine sn<|dC (¬B8 (B3 rs[i3.toNat]!.past { vec:=v4,cloud:=c5:Past })=0) (fun h15=>?_) fun h15=>?_
 refine rG cx [0,3,6,7] [3,1006] (fA (0≤i3) (fG c54 rs i3.toNat (fR 3 (fN 3 3 (fR 54 (fR 3 (fR 3 (fX c54 [rs[i3.toNat]!] 3 (fS c54 o6 c54 [rs[i3.toNat]!] (fP (((List.map c54 o6).length+(List.map c54 [rs[i3.toNat]!]).length)*(64:Nat)≤(140737488355328:Nat)) (by(simp only [Go.maxLen,List.length_map,List.length_append,List.length_cons,List.length_nil];omega)) (fM c54 o6 [rs[i3.toNat]!] (oR 3 (c54 rs[i3.toNat]!) (oV 6 { rows:=some (List.map c54 (o6++[rs[i3.toNat]!])) } z0)))))))))))))<|bN<|sn<|rG cx [0,3,6,7] [3,1006] (tW 1 (i3+1) z0)<|sn<|nX ((i3+1,v4,c5,o6++[rs[i3.toNat]!])) (show((↑rs.length:Int)-(i3+1)).toNat <((↑rs.length:Int)-i3).toNat from(by omega)) (show A56 rs p (i3+1) v4 c5 (o6++[rs[i3.toNat]!])from(by subst h8 h9;rw[← B1x (K5 hh2).1 h10 h14];exact B7w (K5 hh2).1 h10 h14 h12 h13 h15))
 refine sK<|bN<|sn<|rG cx [0,3,6,7] [3,1006] (tW 1 (i3+1) z0)<|sn<|nX ((i3+1,v4,c5,o6)) (show((↑rs.length:Int)-(i3+1)).toNat <((↑rs.length:Int)-i3).toNat from(by omega)) (show A56 rs p (i3+1) v4 c5 o6 from(by subst h8 h9;exact B1y h10 h14 h12 h13 h15))
 refine eX 0<|nE<|nE<|bH<|sn<|sq<|rG cx [4,5] [1006] z0<|sn<|rT<|qR (.tup [.sl (List.map c54 o6),.i .i64 ((0:Int))]) (B5.tup (ZLe.cons (B5.eq (show AV.sl (List.map c54 o6)=AV.sl (List.map c54 (K0 rs p).1)from(by rw[A0p (K5 hh2).1 (K5 hh2).2,h13,List.take_of_length_le (by omega)]))) (ZLe.cons (B5.eq (show AV.i .i64 0=AV.i .i64 (K0 rs p).2 from(by rw[A0p (K5 hh2).1 (K5 hh2).2]))) ZLe.nil)))
theorem con226(a b:Dot):Con Tryz.prog 226 [.agg (c44 a),.agg (c44 b)] (.b (dLt a b)) :=
 by
 refine sC A6 [.tmp 4] 24 Tryz.func226 ?_
 intro e0 cx
 refine sq<|rG cx [2,3] [2,3] z0<|sn<|sq<|B1 (σ':=⟨[(4,.b (decide (a.rep < b.rep∨a.rep=b.rep∧a.num < b.num)))],[]⟩) ?_ ?_
 refine A5 (a.rep < b.rep) (fun h_1=>?_) (fun h_1=>?_)
 refine rG cx [4] [] (tT 4 (A4 h_1) (tD 19 true (a.rep < b.rep∨a.rep=b.rep∧a.num < b.num) (by simp only [eq_true h_1,tsl]) z0)) ?_
 exact⟨rfl,by kernel_rfl⟩
 refine A5 (a.rep=b.rep) (fun h_2=>?_) (fun h_2=>?_)
 refine rG cx [4] [] (tT 4 (A0 h_1) (tT 10 (A4 h_2) (tB 16 (a.num < b.num) (tD 19 (decide (a.num < b.num)) (a.rep < b.rep∨a.rep=b.rep∧a.num < b.num) (by simp only [eq_false h_1,eq_true h_2,tsl]) z0)))) ?_
 exact⟨rfl,by kernel_rfl⟩
 refine rG cx [4] [] (tT 4 (A0 h_1) (tT 10 (A0 h_2) (tD 19 false (a.rep < b.rep∨a.rep=b.rep∧a.num < b.num) (by simp only [eq_false h_1,eq_false h_2,tsl]) z0))) ?_
 exact⟨rfl,by kernel_rfl⟩
 refine sn<|rT<|qR (.b (decide (a.rep < b.rep∨a.rep=b.rep∧a.num < b.num))) (.eq ?g0);rotate_left
 case g0=>exact rfl
theorem A2j(es:List Entry):Con Tryz.prog 188 [.sl (es.map c46)] (.b (decide (E3 es=0))) :=
 by
 have e:∀ {i:Int},0≤i→(i-1).toNat=i.toNat-1:=fun {i} h=>by omega
 refine lN 0 c46 (es) Tryz.func188 fun hl_0=>sC A6 [.tmp 2] 59 Tryz.func188 ?_
 intro e0 cx
 refine sq<|rG cx [0] [] z0<|sn<|sq<|sq<|rG cx [0,3] [] z0<|sn<|bL 0<|sL (X:=Int) (fun x=>⟨[(0,.sl (List.map c46 es)),(3,.i .i64 (x))],[]⟩) (fun x ↦ decL es x) (fun x ↦ B9g es x) [0,3] [] ((0:Int)) (show B9g es (0:Int)from(by exact⟨by omega,by omega,fun j hj=>by omega⟩)) ?_
 intro i0 h_1
 obtain⟨hh2,hh3,hh4⟩:0≤i0∧i0≤(↑es.length:Int)∧∀(j:Nat),(↑j:Int) < i0→Av3 es j=true:=h_1
 refine sq<|rD cx [0,3,7] [] (tL 2 c46 es (zB 3 (i0 <(↑es.length:Int)))) (fun hh5=>?_) fun hh5=>?_
 refine sK<|sn<|sq<|bL 1<|sq<|sq<|B1 (σ':=⟨[(0,.sl (List.map c46 es)),(3,.i .i64 (i0)),(41,.b (decide (¬I0 es[i0.toNat]!.dot=true∨¬I2 es[i0.toNat]!.sku=true∨es[i0.toNat]!.qty <(1:Int)∨(1000000:Int) < es[i0.toNat]!.qty)))],[]⟩) ?_ ?_
 refine A5 (¬I0 es[i0.toNat]!.dot=true) (fun h_7=>?_) (fun h_7=>?_)
 refine rg (A:=(0≤i0)∧((List.map c46 es)[i0.toNat]?=some (c46 es[i0.toNat]!))∧((c46 es[i0.toNat]!).length=(4:Nat))∧((2:Nat)≤[AV.i .i64 es[i0.toNat]!.dot.rep,AV.i .i64 es[i0.toNat]!.dot.num,AV.s es[i0.toNat]!.sku,AV.i .i64 es[i0.toNat]!.qty].length)∧_∧_∧(AV.b true=AV.b (decide (¬I0 es[i0.toNat]!.dot=true∨¬I2 es[i0.toNat]!.sku=true∨es[i0.toNat]!.qty <(1:Int)∨(1000000:Int) < es[i0.toNat]!.qty)))) cx [(2,{ row:=(c46 es[i0.toNat]!) }),(5,{ val:=some (.b (I0 es[i0.toNat]!.dot)),tell:=some (.b (false)) }),(31,{ tell:=some (.b (decide (¬I0 es[i0.toNat]!.dot=true∨¬I2 es[i0.toNat]!.sku=true∨es[i0.toNat]!.qty <(1:Int)∨(1000000:Int) < es[i0.toNat]!.qty))) })] [0,3,41] [] ⟨(by(with_reducible assumption)),(by(with_reducible refine F3 ?_;omega)),(by kernel_rfl),(by(simp only [List.length_append,List.length_cons,List.length_nil];omega)),(L4 h_7),(At6 (es[i0.toNat]!.dot)),(by simp only [eq_false h_7,tsl])⟩ ?_
 exact⟨rfl,by kernel_rfl⟩
 refine A5 (¬I2 es[i0.toNat]!.sku=true) (fun h_8=>?_) (fun h_8=>?_)
 refine rg (A:=(0≤i0)∧((List.map c46 es)[i0.toNat]?=some (c46 es[i0.toNat]!))∧((c46 es[i0.toNat]!).length=(4:Nat))∧((2:Nat)≤[AV.i .i64 es[i0.toNat]!.dot.rep,AV.i .i64 es[i0.toNat]!.dot.num,AV.s es[i0.toNat]!.sku,AV.i .i64 es[i0.toNat]!.qty].length)∧_∧((AV.b !I0 es[i0.toNat]!.dot)=AV.b (decide ¬I0 es[i0.toNat]!.dot=true))∧_∧(0≤i0)∧((List.map c46 es)[i0.toNat]?=some (c46 es[i0.toNat]!))∧((c46 es[i0.toNat]!).length=(4:Nat))∧_∧_∧(AV.b true=AV.b (decide (¬I0 es[i0.toNat]!.dot=true∨¬I2 es[i0.toNat]!.sku=true∨es[i0.toNat]!.qty <(1:Int)∨(1000000:Int) < es[i0.toNat]!.qty)))) cx [(2,{ row:=(c46 es[i0.toNat]!) }),(5,{ val:=some (.b (I0 es[i0.toNat]!.dot)) }),(6,{ tell:=some (.b (decide ¬I0 es[i0.toNat]!.dot=true)) }),(7,{ tell:=some (.b (false)) }),(10,{ row:=(c46 es[i0.toNat]!) }),(13,{ val:=some (.b (I2 es[i0.toNat]!.sku)),tell:=some (.b (false)) }),(31,{ tell:=some (.b (decide (¬I0 es[i0.toNat]!.dot=true∨¬I2 es[i0.toNat]!.sku=true∨es[i0.toNat]!.qty <(1:Int)∨(1000000:Int) < es[i0.toNat]!.qty))) })] [0,3,41] [] ⟨(by(with_reducible assumption)),(by(with_reducible refine F3 ?_;omega)),(by kernel_rfl),(by(simp only [List.length_append,List.length_cons,List.length_nil];omega)),(At6 (es[i0.toNat]!.dot)),(C3),(A0 h_7),(by(with_reducible assumption)),(by(with_reducible refine F3 ?_;omega)),(by kernel_rfl),(L4 h_8),(A9o (es[i0.toNat]!.sku)),(by first | (simp only [eq_false h_7,eq_false h_8,tsl];done) | simp_all)⟩ ?_
 exact⟨rfl,by kernel_rfl⟩
 refine A5 (es[i0.toNat]!.qty <(1:Int)) (fun h_9=>?_) (fun h_9=>?_)
 refine rG cx [0,3,41] [] (fA (0≤i0) (fG c46 es i0.toNat (fR 4 (fN 2 4 (fT (At6 (es[i0.toNat]!.dot)) (tT 6 (C3:(AV.b !I0 es[i0.toNat]!.dot)=AV.b (decide ¬I0 es[i0.toNat]!.dot=true)) (tT 7 (A0 h_7) (fA (0≤i0) (fG c46 es i0.toNat (fR 4 (fT (A9o (es[i0.toNat]!.sku)) (tT 14 (C3:(AV.b !I2 es[i0.toNat]!.sku)=AV.b (decide ¬I2 es[i0.toNat]!.sku=true)) (tT 15 (A0 h_8) (fA (0≤i0) (fG c46 es i0.toNat (fR 4 (tT 22 (A4 h_9) (tT 31 (by first | (simp only [eq_false h_7,eq_false h_8,eq_true h_9,tsl];done) | simp_all:AV.b true=AV.b (decide (¬I0 es[i0.toNat]!.dot=true∨¬I2 es[i0.toNat]!.sku=true∨es[i0.toNat]!.qty <(1:Int)∨(1000000:Int) < es[i0.toNat]!.qty))) (oR 2 (c46 es[i0.toNat]!) (oA 5 (.b (I0 es[i0.toNat]!.dot)) (oR 10 (c46 es[i0.toNat]!) (oA 13 (.b (I2 es[i0.toNat]!.sku)) (oR 19 (c46 es[i0.toNat]!) z0))))))))))))))))))))))) ?_
 exact⟨rfl,by kernel_rfl⟩
 refine rG cx [0,3,41] [] (fA (0≤i0) (fG c46 es i0.toNat (fR 4 (fN 2 4 (fT (At6 (es[i0.toNat]!.dot)) (tT 6 (C3:(AV.b !I0 es[i0.toNat]!.dot)=AV.b (decide ¬I0 es[i0.toNat]!.dot=true)) (tT 7 (A0 h_7) (fA (0≤i0) (fG c46 es i0.toNat (fR 4 (fT (A9o (es[i0.toNat]!.sku)) (tT 14 (C3:(AV.b !I2 es[i0.toNat]!.sku)=AV.b (decide ¬I2 es[i0.toNat]!.sku=true)) (tT 15 (A0 h_8) (fA (0≤i0) (fG c46 es i0.toNat (fR 4 (tT 22 (A0 h_9) (fA (0≤i0) (fG c46 es i0.toNat (fR 4 (tB 30 ((1000000:Int) < es[i0.toNat]!.qty) (tT 31 (by first | (simp only [eq_false h_7,eq_false h_8,eq_false h_9,tsl];done) | simp_all:AV.b (decide ((1000000:Int) < es[i0.toNat]!.qty))=AV.b (decide (¬I0 es[i0.toNat]!.dot=true∨¬I2 es[i0.toNat]!.sku=true∨es[i0.toNat]!.qty <(1:Int)∨(1000000:Int) < es[i0.toNat]!.qty))) (oR 2 (c46 es[i0.toNat]!) (oA 5 (.b (I0 es[i0.toNat]!.dot)) (oR 10 (c46 es[i0.toNat]!) (oA 13 (.b (I2 es[i0.toNat]!.sku)) (oR 19 (c46 es[i0.toNat]!) (oR 27 (c46 es[i0.toNat]!) z0)))))))))))))))))))))))))))) ?_
 exact⟨rfl,by kernel_rfl⟩
 refine sn<|dC (¬I0 es[i0.toNat]!.dot=true∨¬I2 es[i0.toNat]!.sku=true∨es[i0.toNat]!.qty <(1:Int)∨(1000000:Int) < es[i0.toNat]!.qty) (fun h10=>?_) fun h10=>?_
 refine sq<|rG cx [2] [] z0<|sn<|rT<|nR<|bR<|nR<|nR<|bR<|nR<|qR (.b (false)) (.eq ?g1);rotate_left
 refine sK<|sn<|sq<|B1 (σ':=⟨[(0,.sl (List.map c46 es)),(3,.i .i64 (i0)),(58,.b (decide ((0:Int) < i0∧¬dLt es[(i0-1).toNat]!.dot es[i0.toNat]!.dot=true)))],[]⟩) ?_ ?_
 refine A5 ((0:Int) < i0) (fun h_12=>?_) (fun h_12=>?_)
 refine rA cx [0,3,58] [] (tT 1 (A4 h_12) (tW 5 (i0-1) (fO (0≤i0-1) (fG c46 es ((i0-1).toNat) (fR 4 (fN 2 4 (fA (0≤i0) (fG c46 es i0.toNat (fR 4 (fN 2 4 (fT (con226 (es[(i0-1).toNat]!.dot) (es[i0.toNat]!.dot)) (tT 15 (C3:(AV.b !dLt es[(i0-1).toNat]!.dot es[i0.toNat]!.dot)=AV.b (decide ¬dLt es[(i0-1).toNat]!.dot es[i0.toNat]!.dot=true)) (tD 16 (decide ¬dLt es[(i0-1).toNat]!.dot es[i0.toNat]!.dot=true) ((0:Int) < i0∧¬dLt es[(i0-1).toNat]!.dot es[i0.toNat]!.dot=true) (by simp only [eq_true h_12,tsl]) (oR 6 (c46 es[(i0-1).toNat]!) (oR 11 (c46 es[i0.toNat]!) (oA 14 (.b (dLt es[(i0-1).toNat]!.dot es[i0.toNat]!.dot)) z0)))))))))))))))) ?_
 exact⟨rfl,by kernel_rfl⟩
 refine rA cx [0,3,58] [] (tT 1 (A0 h_12) (tD 16 false ((0:Int) < i0∧¬dLt es[(i0-1).toNat]!.dot es[i0.toNat]!.dot=true) (by simp only [eq_false h_12,tsl]) z0)) ?_
 exact⟨rfl,by kernel_rfl⟩
 refine sn<|dC ((0:Int) < i0∧¬dLt es[(i0-1).toNat]!.dot es[i0.toNat]!.dot=true) (fun h13=>?_) fun h13=>?_
 refine sq<|rG cx [2] [] z0<|sn<|rT<|bR<|nR<|nR<|bR<|nR<|qR (.b (false)) (.eq ?g2);rotate_left
 refine sK<|bN<|sn<|rG cx [0,3] [] (tW 1 (i0+1) z0)<|sn<|nX (i0+1) (show((↑es.length:Int)-(i0+1)).toNat <((↑es.length:Int)-i0).toNat from(by omega)) (show B9g es (i0+1)from ?g3);rotate_left
 refine eX 0<|nE<|nE<|bH<|sn<|sq<|rG cx [2] [] z0<|sn<|rT<|qR (.b (true)) (.eq (by rw[B0v fun j hj=>hh4 j (by omega)];rfl))
 case g1 =>
  revert i0 hh2 hh3 hh4 hh5 h10
  intro i h0 h1 h2 h3 h4
  rw[A7d (i:=i.toNat) (by omega) (A7e _)]
  ·rfl
  rw[V5,Ab1]
  rintro⟨⟨a,b,c,d⟩,_⟩
  rcases h4 with h4 | h4 | h4 | h4
  ·exact h4 a
  ·exact h4 b
  ·omega
  ·omega
 case g2 =>
  revert i0 hh2 hh3 hh4 hh5 h10 h13
  intro i h0 h1 h2 h3 h4 h5
  rw[A7d (i:=i.toNat) (by omega) (A7e _)]
  ·rfl
  rw[e h0]at h5
  rw[V5]
  rintro⟨_,b | b⟩
  ·omega
  ·exact h5.2 b
 case g3 =>
  rw[e hh2]at h13
  refine A9q hh2 hh5 hh4 ((V5 _ _).2 ⟨Ab1.2 ⟨Classical.byContradiction fun a=>h10 (.inl a),Classical.byContradiction fun a=>h10 (.inr (.inl a)),Int.not_lt.1 fun a=>h10 (.inr (.inr (.inl a))),Int.not_lt.1 fun a=>h10 (.inr (.inr (.inr a)))⟩,?_⟩)
  by_cases c:i0.toNat=0
  ·exact .inl c
  ·exact .inr (Classical.byContradiction fun a=>h13 ⟨by omega,a⟩)
end Go.Proofs.YtphcaholhacnpaaGreat
namespace Go.Proofs.YtphcaholhacnpaaGreat
open Go.E
set_option maxRecDepth 100000
set_option maxHeartbeats 4000000
open Go Go.Sort Go.RowKit Go.Lib Go.Shelf Go.Proofs
def renClE:Go.Shelf.Ren:=⟨fun | 41=>142 | n=>n,fun | 4=>4 | 22=>22 | 23=>46 | n=>n,fun n=>n⟩
theorem Bc7:Go.Proofs.SlLaysE0.n41 Tryz.prog renClE:={ mixed:=by kernel_rfl,f41:=⟨Tryz.f142.name,by decide,Tryz.func142.trans (congrArg some (by kernel_rfl))⟩,t4:=Tryz.underlying4,a4:=Tryz.isAgg4,z4:=Tryz.sizeOf4,v4:=Tryz.zeroValue4,t22:=Tryz.underlying22,a22:=Tryz.isAgg22,z22:=Tryz.sizeOf22,v22:=Tryz.zeroValue22 }
theorem con142(es:List Entry)(hl:es.length*40≤140737488355328):A59 Tryz.prog 142 [.sl (es.map c46)] 46 (.row 4 (es.map c46)) :=
 A1y (T:=tab) Bc7 A6 (te:=_) rfl ⟨_,Tryz.func142,by kernel_rfl,by kernel_rfl⟩ (by kernel_rfl) (by decide +kernel) (fun r hr=>by obtain⟨x,_,rfl⟩:=List.mem_map.1 hr;kernel_rfl) (by rw[List.length_map];exact hl)
end Go.Proofs.YtphcaholhacnpaaGreat
namespace Go.Proofs.YtphcaholhacnpaaGreat
open Go.E
set_option maxRecDepth 100000
set_option maxHeartbeats 4000000
def E6(es:List Entry)(d:Dot):Entry×Bool:=match es.find? (fun e=>decide (e.dot=d))with | some e=>(e,true) | none=>(default,false)
def Bc8(es:List Entry)(d:Dot)(i r n a b:Int)(s:ByteArray)(q:Int):Prop:=0≤i∧i≤es.length∧r=d.rep∧n=d.num∧∀ j:Nat,(j:Int) < i→¬ es[j]!.dot=d
def dec28(es:List Entry)(i r n a b:Int)(s:ByteArray)(q:Int):Nat:=(es.length-i).toNat
theorem B1z{es:List Entry}{d:Dot}:∀ {i:Nat},i < es.length→es[i]!.dot=d→(∀ j:Nat,j < i→¬ es[j]!.dot=d)→E6 es d=(es[i]!,true):=by
 induction es with
 | nil=>intro i hi;simp at hi
 | cons e es ih =>
  intro i hi hb hok
  cases i with
  | zero =>
   have hb':e.dot=d:=by simpa using hb
   unfold E6
   simp [List.find?_cons,hb']
  | succ i =>
   have h0:¬ e.dot=d:=by simpa using hok 0 (by omega)
   have:=ih (i:=i) (by simpa using hi) (by simpa using hb) (fun j hj=>by simpa using hok (j+1) (by omega))
   unfold E6 at this ⊢
   simpa [List.find?_cons,h0]using this
theorem B20{es:List Entry}{d:Dot}(h:∀ j:Nat,j < es.length→¬ es[j]!.dot=d):E6 es d=(default,false):=by
 unfold E6
 have:es.find? (fun e=>decide (e.dot=d))=none:=by
  rw[List.find?_eq_none]
  intro x hx
  obtain⟨j,hj,rfl⟩:=List.mem_iff_getElem.1 hx
  have:=h j hj
  rw[getElem!_pos es j hj]at this
  simpa using this
 rw[this]
theorem con95(es:List Entry)(d:Dot):Con Tryz.prog 95 [.sl (es.map c46),.agg (c44 d)] (.tup [.agg (c46 (E6 es d).1),.b (E6 es d).2]) :=
 by
 refine lN 0 c46 (es) Tryz.func95 fun hl_0=>sC A6 [.cell 4 46,.tmp 5] 21 Tryz.func95 ?_
 intro e0 cx
 refine sq<|rG cx [0,3,4] [3,4] z0<|sn<|sq<|sq<|rG cx [3,4,8,9,10] [3,4] (tL 1 c46 es z0)<|sn<|bL 0<|sL (X:=Int×Int×Int×Int×Int×ByteArray×Int) (fun x=>⟨[(3,.ptr (3) (0) (0) (0)),(4,.ptr (4) (0) (0) (0)),(8,.sl (List.map c46 es)),(9,.i .i64 ((↑es.length:Int))),(10,.i .i64 (x.1))],[(3,⟨0,44,.var [.i .i64 (x.2.1),.i .i64 (x.2.2.1)]⟩),(4,⟨0,46,.var [.i .i64 (x.2.2.2.1),.i .i64 (x.2.2.2.2.1),.s (x.2.2.2.2.2.1),.i .i64 (x.2.2.2.2.2.2)]⟩)]⟩) (fun x ↦ dec28 es x.1 x.2.1 x.2.2.1 x.2.2.2.1 x.2.2.2.2.1 x.2.2.2.2.2.1 x.2.2.2.2.2.2) (fun x ↦ Bc8 es d x.1 x.2.1 x.2.2.1 x.2.2.2.1 x.2.2.2.2.1 x.2.2.2.2.2.1 x.2.2.2.2.2.2) [3,4,8,9,10] [3,4] (((0:Int),d.rep,d.num,(0:Int),(0:Int),{ data:=#[]:ByteArray },(0:Int))) (show Bc8 es d (0:Int) d.rep d.num (0:Int) (0:Int) { data:=#[]:ByteArray } (0:Int)from(by exact⟨by omega,by omega,rfl,rfl,fun j hj=>by omega⟩)) ?_
 rintro⟨i0,r1,n2,a3,b4,s5,q6⟩ h_7
 obtain⟨h8,h9,h10,h11,h12⟩:0≤i0∧i0≤(↑es.length:Int)∧r1=d.rep∧n2=d.num∧∀(j:Nat),(↑j:Int) < i0→¬es[j]!.dot=d:=h_7
 refine rE cx [3,4,8,9,10,11] [3,4] (zB 0 (i0 <(↑es.length:Int))) (fun h13=>?_) fun h13=>?_
 refine sK<|sn<|sq<|bL 1<|sq<|rG cx [3,4,8,9,10,7] [3,4,7] (fA (0≤i0) (fG c46 es i0.toNat (fR 4 (fN 4 4 (oR 0 (c46 es[i0.toNat]!) z0)))))<|sn<|sq<|rG cx [3,4,8,9,10,7,17] [3,4,7] (fT (eq44 es[i0.toNat]!.dot { rep:=r1,num:=n2:Dot }) (oA 3 (.b (decide (es[i0.toNat]!.dot={ rep:=r1,num:=n2:Dot }))) z0))<|sn<|dC (es[i0.toNat]!.dot={ rep:=r1,num:=n2:Dot }) (fun h14=>?_) fun h14=>?_
 refine sq<|rG cx [4,5] [4] z0<|sn<|rT<|bR<|nR<|nR<|bR<|nR<|qR (.tup [.agg [.i .i64 (es[i0.toNat]!.dot.rep),.i .i64 (es[i0.toNat]!.dot.num),.s (es[i0.toNat]!.sku),.i .i64 (es[i0.toNat]!.qty)],.b (true)]) (B5.tup (ZLe.cons (B5.eq (show AV.agg [AV.i .i64 es[i0.toNat]!.dot.rep,AV.i .i64 es[i0.toNat]!.dot.num,AV.s es[i0.toNat]!.sku,AV.i .i64 es[i0.toNat]!.qty]=AV.agg [AV.i .i64 (E6 es d).1.dot.rep,AV.i .i64 (E6 es d).1.dot.num,AV.s (E6 es d).1.sku,AV.i .i64 (E6 es d).1.qty]from(by exact(by subst h10 h11;rw[B1z (by omega) h14 (fun j hj=>h12 j (by omega))])))) (ZLe.cons (B5.eq (show AV.b true=AV.b (E6 es d).2 from(by exact(by subst h10 h11;rw[B1z (by omega) h14 (fun j hj=>h12 j (by omega))])))) ZLe.nil)))
 refine sK<|bN<|sn<|rG cx [3,4,8,9,10] [3,4] (tW 0 (i0+1) z0)<|sn<|nX ((i0+1,r1,n2,a3,b4,s5,q6)) (show((↑es.length:Int)-(i0+1)).toNat <((↑es.length:Int)-i0).toNat from(by omega)) (show Bc8 es d (i0+1) r1 n2 a3 b4 s5 q6 from ?g3);rotate_left
 refine eX 0<|nE<|nE<|bH<|sn<|sq<|rG cx [4,5] [4] z0<|sn<|rT<|qR (.tup [.agg [.i .i64 ((0:Int)),.i .i64 ((0:Int)),.s ({ data:=#[]:ByteArray }),.i .i64 ((0:Int))],.b (false)]) (B5.tup (ZLe.cons (B5.eq (show AV.agg [AV.i .i64 (0:Int),AV.i .i64 (0:Int),AV.s { data:=#[]:ByteArray },AV.i .i64 (0:Int)]=AV.agg [AV.i .i64 (E6 es d).1.dot.rep,AV.i .i64 (E6 es d).1.dot.num,AV.s (E6 es d).1.sku,AV.i .i64 (E6 es d).1.qty]from(by exact(by rw[B20 (fun j hj=>h12 j (by omega))];rfl)))) (ZLe.cons (B5.eq (show AV.b false=AV.b (E6 es d).2 from(by exact(by rw[B20 (fun j hj=>h12 j (by omega))])))) ZLe.nil)))
 case g3=>revert i0 r1 n2 a3 b4 s5 q6 h8 h9 h10 h11 h12 h13 h14;exact(fun i r n a b s q h0 h1 h2 h3 h4 h5 h6=>⟨by omega,by omega,h2,h3,fun j hj=>by
   subst h2 h3
   by_cases e:j=i.toNat
   ·rw[e];exact h6
   ·exact h4 j (by omega)⟩)
end Go.Proofs.YtphcaholhacnpaaGreat
namespace Go.Proofs.YtphcaholhacnpaaGreat
open Go.E
set_option maxRecDepth 100000
set_option maxHeartbeats 4000000
noncomputable def A2o(f:Facts):Int:=if okF f=true then 0 else 1
def Ab2:Facts:=⟨[],⟨[],[]⟩,[]⟩
theorem D7{f:Facts}:okF f=true↔E3 f.adds=0∧f.gone=A3 f.gone∧F0 f.recs=0:=by rw[B7v,decide_eq_true_iff]
end Go.Proofs.YtphcaholhacnpaaGreat
namespace Go.Proofs.YtphcaholhacnpaaGreat
open Go.E
set_option maxRecDepth 100000
set_option maxHeartbeats 4000000
theorem W2{f:Facts}:A2o f=0↔okF f=true:=by
 unfold A2o
 by_cases h:okF f=true
 ·rw[if_pos h];exact⟨fun _=>h,fun _=>rfl⟩
 ·rw[if_neg h];exact⟨fun k=>by omega,fun k=>absurd k h⟩
theorem Ap0(f:Facts)(hb:szF f):Con Tryz.prog 127 [.agg (c36 f)] (.i .i64 (A2o f)) :=
 by
 have no:(¬E3 f.adds=0∨¬f.gone=A3 f.gone∨¬F0 f.recs=0)↔¬ okF f=true:=by
  rw[D7]
  constructor
  ·rintro(h | h | h) k
   ·exact h k.1
   ·exact h k.2.1
   ·exact h k.2.2
  ·intro h
   by_cases a:E3 f.adds=0
   ·by_cases b:f.gone=A3 f.gone
    ·exact .inr (.inr fun c=>h ⟨a,b,c⟩)
    ·exact .inr (.inl b)
   ·exact .inl a
 refine sC A6 [.tmp 2] 19 Tryz.func127 ?_
 intro e0 cx
 refine sq<|rG cx [1] [1] z0<|sn<|sq<|sq<|B1 (σ':=⟨[(18,.b (decide (¬E3 f.adds=0∨¬f.gone=A3 f.gone∨¬F0 f.recs=0)))],[]⟩) ?_ ?_
 refine A5 (¬E3 f.adds=0) (fun h1=>?_) (fun h1=>?_)
 refine rG cx [18] [] (fT (A44 (f.adds)) (tT 3 (H2 h1:AV.b (E3 f.adds !=0)=AV.b true) (tD 15 true (¬E3 f.adds=0∨¬f.gone=A3 f.gone∨¬F0 f.recs=0) (by simp only [eq_false h1,tsl]) (oA 2 (.i .i64 (E3 f.adds)) z0)))) ?_
 exact⟨rfl,by kernel_rfl⟩
 refine A5 (¬f.gone=A3 f.gone) (fun h2=>?_) (fun h2=>?_)
 refine rg (A:=_∧(AV.b (E3 f.adds !=0)=AV.b (decide ¬E3 f.adds=0))∧_∧_∧_∧(AV.b true=AV.b (decide (¬E3 f.adds=0∨¬f.gone=A3 f.gone∨¬F0 f.recs=0)))) cx [(2,{ val:=some (.i .i64 (E3 f.adds)) }),(3,{ tell:=some (.b (decide ¬E3 f.adds=0)) }),(4,{ tell:=some (.b (false)) }),(7,{ val:=some (.b (decide (f.gone=A3 f.gone))),tell:=some (.b (false)) }),(15,{ tell:=some (.b (decide (¬E3 f.adds=0∨¬f.gone=A3 f.gone∨¬F0 f.recs=0))) })] [18] [] ⟨(A44 (f.adds)),(A2u),(A0 h1),(A0 h2),(A9d (f.gone) (by exact hb.1.1)),(by first | (simp only [eq_false h1,eq_false h2,tsl];done) | simp_all)⟩ ?_
 exact⟨rfl,by kernel_rfl⟩
 refine rG cx [18] [] (fT (A44 (f.adds)) (tN 3 (E3 f.adds) (0:Int) (tT 4 (A0 h1) (fT (A9d (f.gone) (by exact hb.1.1)) (tQ 8 (f.gone=A3 f.gone) (tT 9 (A0 h2) (fT (A62 (f.recs) (by exact A55 hb.2)) (tN 14 (F0 f.recs) (0:Int) (tT 15 (by first | (simp only [eq_false h1,eq_false h2,tsl];done) | simp_all:AV.b (decide ¬F0 f.recs=0)=AV.b (decide (¬E3 f.adds=0∨¬f.gone=A3 f.gone∨¬F0 f.recs=0))) (oA 2 (.i .i64 (E3 f.adds)) (oA 7 (.b (decide (f.gone=A3 f.gone))) (oA 13 (.i .i64 (F0 f.recs)) z0)))))))))))) ?_
 exact⟨rfl,by kernel_rfl⟩
 refine sn<|dC (¬E3 f.adds=0∨¬f.gone=A3 f.gone∨¬F0 f.recs=0) (fun h3=>?_) fun h3=>?_
 refine sq<|rG cx [2] [] z0<|sn<|rT<|nR<|qR (.i .i64 ((1:Int))) (.eq (by unfold A2o;rw[if_neg (no.1 h3)]))
 refine sK<|sn<|sq<|rG cx [2] [] z0<|sn<|rT<|qR (.i .i64 ((0:Int))) (.eq (by unfold A2o;rw[if_pos (Classical.not_not.1 fun k=>h3 (no.2 k))]))
end Go.Proofs.YtphcaholhacnpaaGreat
namespace Go.Proofs.YtphcaholhacnpaaGreat
open Go.E
set_option maxRecDepth 100000
set_option maxHeartbeats 4000000
def F1(es:List Entry):Past×Int:=if okL es=true then(E8 (ofT (es.map fun e=>e.dot)),0)else(⟨[],[]⟩,1)
def M3(es:List Entry)(p:Past)(t:Bool):List Entry×Int:=if okL es=true∧p=A3 p then(es.filter (fun e=>C7 p e.dot == t),0)else([],1)
theorem A7z{es:List Entry}(h:¬ E3 es=0):F1 es=(⟨[],[]⟩,1):=by unfold F1;rw[if_neg (B7e h)]
theorem Ap1{es:List Entry}(h:E3 es=0):F1 es=(E8 (ofT (es.map fun e=>e.dot)),0):=by unfold F1;rw[if_pos (W4 h)]
theorem Ap2{es:List Entry}{p:Past}{t:Bool}(h:¬ E3 es=0∨¬ p=A3 p):M3 es p t=([],1):=by
 unfold M3
 rw[if_neg]
 rintro⟨h1,h2⟩
 exact h.elim (fun k=>B7e k h1) (fun k=>k h2)
theorem Ap3{es:List Entry}{p:Past}{t:Bool}(h:E3 es=0)(h2:p=A3 p):M3 es p t=(es.filter (fun e=>C7 p e.dot == t),0):=by unfold M3;rw[if_pos ⟨W4 h,h2⟩]
def Ab3(es:List Entry)(i:Int)(l:List Dot):Prop:=l.length=es.length∧l.take i.toNat=(es.take i.toNat).map fun e=>e.dot
def invD(es:List Entry)(i:Int)(l:List Dot):Prop:=0≤i∧i≤es.length∧l.length=es.length∧Ab3 es i l
def decD(es:List Entry)(i:Int)(l:List Dot):Nat:=(es.length-i).toNat
theorem Ah1{es:List Entry}{i:Int}{l:List Dot}(h0:0≤i)(h:i < es.length)(hs:Ab3 es i l):Ab3 es (i+1) (l.set i.toNat es[i.toNat]!.dot):=by
 obtain⟨h1,h2⟩:=hs
 refine⟨by rw[List.length_set];exact h1,?_⟩
 rw[← C8 h0 h,List.map_append,← h2,show(i+1).toNat=i.toNat+1 by omega,List.take_succ_eq_append_getElem (by rw[List.length_set];omega)]
 simp [List.take_set_of_le]
theorem Av0{es:List Entry}{i:Int}{l:List Dot}(h:¬ i < es.length)(hs:Ab3 es i l):l=es.map fun e=>e.dot:=by
 obtain⟨h1,h2⟩:=hs
 rwa [List.take_of_length_le (by omega),List.take_of_length_le (by omega)]at h2
theorem ok_len{es:List Entry}(h:¬ ¬ E3 es=0):es.length≤16000000000:=A0m (W4 (Classical.not_not.1 h))
theorem A4m{es:List Entry}{p:Past}(h:¬(¬ E3 es=0∨¬ p=A3 p)):E3 es=0∧p=A3 p:=⟨Classical.not_not.1 fun k=>h (.inl k),Classical.not_not.1 fun k=>h (.inr k)⟩
theorem B21(es:List Entry):(F1 es).1.cloud.length≤8000000000∧(F1 es).1.vec.length≤16:=by
 unfold F1
 split
 ·exact O1 _
 ·simp
theorem B22(es:List Entry):Con Tryz.prog 113 [.sl (es.map c46)] (.tup [.agg (c26 (F1 es).1),.i .i64 (F1 es).2]) :=
 by
 refine lN 0 c46 (es) Tryz.func113 fun hl_0=>sC A6 [.cell 2 26,.tmp 3] 29 Tryz.func113 ?_
 intro e0 cx
 refine sq<|rG cx [0,2] [2] z0<|sn<|sq<|sq<|rG cx [0,2,9] [2] (fT (A44 (es)) (tN 2 (E3 es) (0:Int) (oA 1 (.i .i64 (E3 es)) z0)))<|sn<|dC (¬E3 es=0) (fun hh0=>?_) fun hh0=>?_
 refine sq<|rG cx [2,3] [2] z0<|sn<|rT<|nR<|qR (.tup [.agg [.nl,.nl],.i .i64 ((1:Int))]) (B5.tup (ZLe.cons (B5.agg (ZLe.cons (B5.nl' (show List.map c3 (F1 es).1.vec=[]from(by rw[A7z hh0];rfl))) (ZLe.cons (B5.nl' (show List.map A9 (F1 es).1.cloud=[]from(by rw[A7z hh0];rfl))) ZLe.nil))) (ZLe.cons (B5.eq (show AV.i .i64 1=AV.i .i64 (F1 es).2 from(by rw[A7z hh0]))) ZLe.nil)))
 refine sK<|sn<|sq<|rG cx [0,2,4] [2,13] (tL 1 c46 es (fR (↑es.length:Int) (fR (↑es.length:Int) (fP ((16:Nat)*es.length≤(281474976710656:Nat)) (by have:=ok_len hh0;omega) (fP (es.length≤maxLen) (by(simp only [Go.maxLen];omega)) (fR 2 (fP (ZLe [AV.i .i64 (0:Int),AV.i .i64 (0:Int)] [AV.i .i64 { rep:=(0:Int),num:=(0:Int):Dot }.rep,AV.i .i64 { rep:=(0:Int),num:=(0:Int):Dot }.num]) (by(with_reducible exact ZLe.refl _)) (fP (List.replicate es.length [AV.i .i64 { rep:=(0:Int),num:=(0:Int):Dot }.rep,AV.i .i64 { rep:=(0:Int),num:=(0:Int):Dot }.num]=List.map c44 (List.replicate es.length { rep:=(0:Int),num:=(0:Int):Dot })) (by(with_reducible refine Ae0 ?_;kernel_rfl)) (oV 2 { row:=[.i .i64 ({ rep:=(0:Int),num:=(0:Int):Dot }.rep),.i .i64 ({ rep:=(0:Int),num:=(0:Int):Dot }.num)],rows:=some (List.map c44 (List.replicate es.length { rep:=(0:Int),num:=(0:Int):Dot })),n:=es.length } z0))))))))) ?_
 refine sn<|sq<|sq<|rG cx [2,4,14,15,16] [2,13] (tL 1 c46 es z0)<|sn<|bL 0<|sL (X:=Int×List Dot) (fun x=>⟨[(2,.ptr (2) (0) (0) (0)),(4,.own 13 0),(14,.sl (List.map c46 es)),(15,.i .i64 ((↑es.length:Int))),(16,.i .i64 (x.1))],[(2,⟨0,26,.var [.nl,.nl]⟩),(13,⟨0,44,.row 2 (List.map c44 x.2)⟩)]⟩) (fun x ↦ decD es x.1 x.2) (fun x ↦ invD es x.1 x.2) [2,4,14,15,16] [2,13] (((0:Int),List.replicate es.length { rep:=(0:Int),num:=(0:Int):Dot })) (show invD es (0:Int) (List.replicate es.length { rep:=(0:Int),num:=(0:Int):Dot })from(by exact⟨by omega,by omega,by simp,by simp,by simp⟩)) ?_
 rintro⟨i1,l2⟩ h_3
 obtain⟨hh4,h5,h6,h7⟩:0≤i1∧i1≤(↑es.length:Int)∧l2.length=es.length∧Ab3 es i1 l2:=h_3
 refine rE cx [2,4,14,15,16,17] [2,13] (zB 0 (i1 <(↑es.length:Int))) (fun h8=>?_) fun h8=>?_
 refine sK<|sn<|sq<|bL 1<|sq<|rG cx [2,4,14,15,16,6,5] [2,13,6] (fA (0≤i1) (fG c46 es i1.toNat (fR 4 (fN 4 4 (oR 1 (c46 es[i1.toNat]!) z0)))))<|sn<|rG cx [2,4,14,15,16] [2,13] (fA (0≤i1) (fP (i1.toNat <(List.map c44 l2).length) (by(first | omega | (simp only [List.length_map];omega))) (fR 2 (fG c44 l2 i1.toNat (fR 2 (fP (0+(2:Nat)≤2) (by(first | omega | (simp only [List.length_map];omega))) (fP ((List.map c44 l2).set i1.toNat (List.take (0) (c44 l2[i1.toNat]!)++D4 (AV.agg [AV.i .i64 es[i1.toNat]!.dot.rep,AV.i .i64 es[i1.toNat]!.dot.num])++List.drop (0+(2:Nat)) (c44 l2[i1.toNat]!))=List.map c44 (l2.set i1.toNat es[i1.toNat]!.dot)) (by(with_reducible refine A1w ?_;kernel_rfl)) (oV 5 { row:=(c44 l2[i1.toNat]!),rows:=some (List.map c44 (l2.set i1.toNat es[i1.toNat]!.dot)) } z0)))))))) ?_
 refine bN<|sn<|rG cx [2,4,14,15,16] [2,13] (tW 0 (i1+1) z0)<|sn<|nX ((i1+1,l2.set i1.toNat es[i1.toNat]!.dot)) (show((↑es.length:Int)-(i1+1)).toNat <((↑es.length:Int)-i1).toNat from(by omega)) (show invD es (i1+1) (l2.set i1.toNat es[i1.toNat]!.dot)from(by exact⟨by omega,by omega,by rw[List.length_set];exact h6,Ah1 hh4 h8 h7⟩))
 refine eX 0<|nE<|nE<|bH<|sn<|sq<|rG cx [2,3] [2] (fT (con108 (l2) (by have:=ok_len hh0;omega)) (oA 1 (.agg [.sl (List.map c3 (E8 (ofT l2)).vec),.sl (List.map A9 (E8 (ofT l2)).cloud)]) z0)) ?_
 refine sn<|rT<|qR (.tup [.agg [.sl (List.map c3 (E8 (ofT l2)).vec),.sl (List.map A9 (E8 (ofT l2)).cloud)],.i .i64 ((0:Int))]) (B5.tup (ZLe.cons (B5.eq (show AV.agg [AV.sl (List.map c3 (E8 (ofT l2)).vec),AV.sl (List.map A9 (E8 (ofT l2)).cloud)]=AV.agg [AV.sl (List.map c3 (F1 es).1.vec),AV.sl (List.map A9 (F1 es).1.cloud)]from(by rw[Ap1 (Classical.not_not.1 hh0),Av0 h8 h7]))) (ZLe.cons (B5.eq (show AV.i .i64 0=AV.i .i64 (F1 es).2 from(by rw[Ap1 (Classical.not_not.1 hh0)]))) ZLe.nil)))
theorem B7y(e:Entry)(p:Past):Con Tryz.prog 153 [.agg (c46 e),.eptr (c26 p)] (.b (C7 p e.dot == false)) :=
 by
 refine sC A6 [.tmp 3] 9 Tryz.func153 ?_
 intro e0 cx
 refine sq<|rG cx [1,2] [2] z0<|sn<|sq<|rG cx [3] [] (fN 2 2 (fT (A9e (p) (e.dot)) (tT 4 (C3:(AV.b !C7 p e.dot)=AV.b (decide ¬C7 p e.dot=true)) (oA 3 (.b (C7 p e.dot)) z0))))<|sn<|rT<|qR (.b (decide ¬C7 p e.dot=true)) (.eq ?g0);rotate_left
 case g0=>exact(by cases C7 p e.dot <;> rfl)
theorem B66(es:List Entry)(p:Past)(hs:es.length*40≤140737488351232):Con Tryz.prog 103 [.sl (es.map c46),.fn (.func 153) [] [.eptr (c26 p)]] (.sl ((es.filter (fun e=>C7 p e.dot == false)).map c46)) :=
 by
 refine lN 0 c46 (es) Tryz.func103 fun hl_0=>sC A6 [.tmp 4] 23 Tryz.func103 ?_
 intro e0 cx
 refine sq<|rG cx [0,1] [] z0<|sn<|sq<|rG cx [0,1,5] [] z0<|sn<|sq<|sq<|rG cx [1,5,8,9,10] [] (tL 1 c46 es z0)<|sn<|bL 0<|E0 5 1005 46 4 (σ':=⟨[(1,.fn (Fn.func (153:FuncId)) [] [.eptr [.sl (List.map c3 p.vec),.sl (List.map A9 p.cloud)]]),(5,.own 1005 0),(8,.sl (List.map c46 es)),(9,.i .i64 ((↑es.length:Int))),(10,.i .i64 ((0:Int)))],[(1005,⟨0,46,.row 4 (List.map c46 [])⟩)]⟩) (by kernel_rfl)<|sL (X:=Int×List Entry) (fun x=>⟨[(1,.fn (Fn.func (153:FuncId)) [] [.eptr [.sl (List.map c3 p.vec),.sl (List.map A9 p.cloud)]]),(5,.own 1005 0),(8,.sl (List.map c46 es)),(9,.i .i64 ((↑es.length:Int))),(10,.i .i64 (x.1))],[(1005,⟨0,46,.row 4 (List.map c46 x.2)⟩)]⟩) (fun x ↦ decP es x.1 x.2) (fun x ↦ B9i (fun e ↦ C7 p e.dot == false) es x.1 x.2) [1,5,8,9,10] [1005] (((0:Int),[])) (show B9i (fun e ↦ C7 p e.dot == false) es (0:Int) []from(by exact(B0w _ _))) ?_
 rintro⟨i0,l1⟩ h_2
 obtain⟨hh3,hh4,hh5,h6⟩:0≤i0∧i0≤(↑es.length:Int)∧l1=List.filter (fun e ↦ C7 p e.dot == false) (List.take i0.toNat es)∧(↑l1.length:Int)≤i0:=h_2
 refine rE cx [1,5,8,9,10,11] [1005] (zB 0 (i0 <(↑es.length:Int))) (fun h7=>?_) fun h7=>?_
 refine sK<|sn<|sq<|bL 1<|sq<|rG cx [1,5,8,9,10,7] [1005,7] (fA (0≤i0) (fG c46 es i0.toNat (fR 4 (fN 4 4 (oR 0 (c46 es[i0.toNat]!) z0)))))<|sn<|sq<|rG cx [1,5,8,9,10,7,16] [1005,7] (fT (B7y (es[i0.toNat]!) (p)) (oA 2 (resC (B7y (es[i0.toNat]!) (p))) z0))<|sn<|P0 (C7 p es[i0.toNat]!.dot == false) (by kernel_rfl) (by kernel_rfl) (fun h8=>?_) (fun h8=>?_)
 refine rG cx [1,5,8,9,10] [1005] (fR 46 (fR 4 (fR 4 (fX c46 [es[i0.toNat]!] 4 (fS c46 l1 c46 [es[i0.toNat]!] (fP (((List.map c46 l1).length+(List.map c46 [es[i0.toNat]!]).length)*(40:Nat)≤(140737488355328:Nat)) (by(simp only [Go.maxLen,List.length_map,List.length_append,List.length_cons,List.length_nil];omega)) (fM c46 l1 [es[i0.toNat]!] (oV 3 { rows:=some (List.map c46 (l1++[es[i0.toNat]!])) } z0))))))))<|bN<|sn<|rG cx [1,5,8,9,10] [1005] (tW 0 (i0+1) z0)<|sn<|nX ((i0+1,l1++[es[i0.toNat]!])) (show((↑es.length:Int)-(i0+1)).toNat <((↑es.length:Int)-i0).toNat from(by omega)) (show B9i (fun e ↦ C7 p e.dot == false) es (i0+1) (l1++[es[i0.toNat]!])from(by exact(B4z hh3 hh5 h6 h7 h8)))
 refine sK<|bN<|sn<|rG cx [1,5,8,9,10] [1005] (tW 0 (i0+1) z0)<|sn<|nX ((i0+1,l1)) (show((↑es.length:Int)-(i0+1)).toNat <((↑es.length:Int)-i0).toNat from(by omega)) (show B9i (fun e ↦ C7 p e.dot == false) es (i0+1) l1 from(by exact(B0x hh3 hh5 h6 h7 (by simpa using h8))))
 refine eX 0<|nE<|nE<|bH<|sn<|sq<|rG cx [4] [1005] z0<|sn<|rT<|qR (.sl (List.map c46 l1)) (.eq (by exact(by rw[B0y hh5 h7])))
theorem con82(es:List Entry)(p:Past)(hb:p.cloud.length*16≤140737488350000):Con Tryz.prog 82 [.sl (es.map c46),.agg (c26 p)] (.tup [.sl ((M3 es p false).1.map c46),.i .i64 (M3 es p false).2]) :=
 by
 refine lN 0 c46 (es) Tryz.func82 fun hl_0=>sC A6 [.tmp 4,.tmp 5] 17 Tryz.func82 ?_
 intro e0 cx
 refine sq<|rG cx [0,3] [3] z0<|sn<|sq<|sq<|B1 (σ':=⟨[(0,.sl (List.map c46 es)),(3,.ptr (3) (0) (0) (0)),(13,.b (decide (¬E3 es=0∨¬p=A3 p)))],[(3,⟨0,26,.var [.sl (List.map c3 p.vec),.sl (List.map A9 p.cloud)]⟩)]⟩) ?_ ?_
 refine A5 (¬E3 es=0) (fun h_1=>?_) (fun h_1=>?_)
 refine rG cx [0,3,13] [3] (fT (A44 (es)) (tT 2 (H2 h_1:AV.b (E3 es !=0)=AV.b true) (tD 7 true (¬E3 es=0∨¬p=A3 p) (by simp only [eq_false h_1,tsl]) (oA 1 (.i .i64 (E3 es)) z0)))) ?_
 exact⟨rfl,by kernel_rfl⟩
 refine rG cx [0,3,13] [3] (fT (A44 (es)) (tN 2 (E3 es) (0:Int) (tT 3 (A0 h_1) (fT (A9d (p) (by(with_reducible assumption))) (tQ 6 (p=A3 p) (tT 7 (by first | (simp only [eq_false h_1,tsl];done) | simp_all:AV.b (decide ¬p=A3 p)=AV.b (decide (¬E3 es=0∨¬p=A3 p))) (oA 1 (.i .i64 (E3 es)) (oA 5 (.b (decide (p=A3 p))) z0)))))))) ?_
 exact⟨rfl,by kernel_rfl⟩
 refine sn<|dC (¬E3 es=0∨¬p=A3 p) (fun h2=>?_) fun h2=>?_
 refine sq<|rG cx [4,5] [] z0<|sn<|rT<|nR<|qR (.tup [.nl,.i .i64 ((1:Int))]) (B5.tup (ZLe.cons (B5.nl' (show List.map c46 (M3 es p false).1=[]from(by exact(by rw[Ap2 h2];rfl)))) (ZLe.cons (B5.eq (show AV.i .i64 1=AV.i .i64 (M3 es p false).2 from(by exact(by rw[Ap2 h2])))) ZLe.nil)))
 refine sK<|sn<|sq<|rG cx [4,5] [] (fT (B66 (es) (p) (by exact(by have:=A0m (W4 (A4m h2).1);omega))) (oA 2 (.sl (List.map c46 (List.filter (fun e ↦ C7 p e.dot == false) es))) z0)) ?_
 refine sn<|rT<|qR (.tup [.sl (List.map c46 (List.filter (fun e ↦ C7 p e.dot == false) es)),.i .i64 ((0:Int))]) (B5.tup (ZLe.cons (B5.eq (show AV.sl (List.map c46 (List.filter (fun e ↦ C7 p e.dot == false) es))=AV.sl (List.map c46 (M3 es p false).1)from(by exact(by rw[Ap3 (A4m h2).1 (A4m h2).2])))) (ZLe.cons (B5.eq (show AV.i .i64 0=AV.i .i64 (M3 es p false).2 from(by exact(by rw[Ap3 (A4m h2).1 (A4m h2).2])))) ZLe.nil)))
end Go.Proofs.YtphcaholhacnpaaGreat
namespace Go.Proofs.YtphcaholhacnpaaGreat
open Go.E
set_option maxRecDepth 100000
set_option maxHeartbeats 4000000
theorem B24(r:Record):(⟨r.sku,r.past⟩:Record)=r:=rfl
end Go.Proofs.YtphcaholhacnpaaGreat
namespace Go.Proofs.YtphcaholhacnpaaGreat
open Go.E
set_option maxRecDepth 100000
set_option maxHeartbeats 4000000
theorem Bc9{a b:List (List AV)}(hl:a.length=b.length)(h:∀(j:Nat) (x y:List AV),a[j]?=some x→b[j]?=some y→ZLe x y):B5 (.sl a) (.sl b):=fun S w v hv=>by
 cases hv with
 | sl _ A cap sz u hc hm hn hsz hA h1 h2 =>
  rw[hl]
  refine .sl b A cap sz u (by omega) (by omega) hn (fun r hr=>?_) (fun k=>?_) h1 (fun j q r x hj hq=>?_)
  ·obtain⟨j,hj,rfl⟩:=List.mem_iff_getElem.1 hr
   have k:j < a.length:=by omega
   rw[←(h j a[j] b[j] (List.getElem?_eq_getElem k) (List.getElem?_eq_getElem hj)).1]
   exact hsz _ (List.getElem_mem k)
  ·obtain⟨ad,e,hs,hc'⟩:=hA (by omega)
   exact⟨ad,e,hs,fun j q hj=>hc' j q (by omega)⟩
  ·have k:j < a.length:=by
    have:=List.getElem?_eq_some_iff.1 hj
    obtain⟨h',_⟩:=this
    omega
   have z:=h j a[j] r (List.getElem?_eq_getElem k) hj
   have kq:q < a[j].length:=by
    have:=List.getElem?_eq_some_iff.1 hq
    obtain⟨h',_⟩:=this
    rw[z.1]
    exact h'
   exact z.2 q _ x (List.getElem?_eq_getElem kq) hq S w _ (h2 j q _ _ (List.getElem?_eq_getElem k) (List.getElem?_eq_getElem kq))
end Go.Proofs.YtphcaholhacnpaaGreat
namespace Go.Proofs.YtphcaholhacnpaaGreat
open Go.E
set_option maxRecDepth 100000
set_option maxHeartbeats 4000000
open Go Go.Sort Go.RowKit Go.Lib Go.Shelf Go.Proofs
def renSk:Go.Shelf.Ren:=⟨fun
 | 6=>180 | 14=>223 | 15=>221 | 20=>263 | 21=>264 | 22=>265
 | 23=>266 | 24=>267 | 25=>268 | 26=>269 | 27=>270 | 28=>253 | 29=>254
 | 46=>283 | 47=>284 | 48=>285 | 49=>286 | 50=>287 | 57=>291 | n=>n,
 fun | 0=>0 | 3=>3 | 4=>4 | 5=>5 | 9=>9 | 22=>34 | 24=>54 | 25=>192 | 39=>255 | 45=>281 | 46=>282 | 50=>278 | 53=>270 | 55=>51 | 66=>298 | 70=>296 | 76=>304 | 77=>127 | n=>n,
 fun n=>n⟩
theorem laysSk:Go.Proofs.SlLaysF0.n6 Tryz.prog renSk:={
 mixed:=(by kernel_rfl),
 f6:=⟨Tryz.f180.name,by decide,Tryz.func180.trans (congrArg some (by kernel_rfl))⟩,
 f14:=⟨Tryz.f223.name,by decide,Tryz.func223.trans (congrArg some (by kernel_rfl))⟩,
 f15:=Tryz.func221.trans (congrArg some (by kernel_rfl)),
 f20:=⟨Tryz.f263.name,by decide,Tryz.func263.trans (congrArg some (by kernel_rfl))⟩,
 f21:=⟨Tryz.f264.name,by decide,Tryz.func264.trans (congrArg some (by kernel_rfl))⟩,
 f22:=⟨Tryz.f265.name,by decide,Tryz.func265.trans (congrArg some (by kernel_rfl))⟩,
 f23:=⟨Tryz.f266.name,by decide,Tryz.func266.trans (congrArg some (by kernel_rfl))⟩,
 f24:=⟨Tryz.f267.name,by decide,Tryz.func267.trans (congrArg some (by kernel_rfl))⟩,
 f25:=⟨Tryz.f268.name,by decide,Tryz.func268.trans (congrArg some (by kernel_rfl))⟩,
 f26:=⟨Tryz.f269.name,by decide,Tryz.func269.trans (congrArg some (by kernel_rfl))⟩,
 f27:=⟨Tryz.f270.name,by decide,Tryz.func270.trans (congrArg some (by kernel_rfl))⟩,
 f28:=Tryz.func253.trans (congrArg some (by kernel_rfl)),
 f29:=Tryz.func254.trans (congrArg some (by kernel_rfl)),
 f46:=⟨Tryz.f283.name,by decide,Tryz.func283.trans (congrArg some (by kernel_rfl))⟩,
 f47:=Tryz.func284.trans (congrArg some (by kernel_rfl)),
 f48:=Tryz.func285.trans (congrArg some (by kernel_rfl)),
 f49:=⟨Tryz.f286.name,by decide,Tryz.func286.trans (congrArg some (by kernel_rfl))⟩,
 f50:=⟨Tryz.f287.name,by decide,Tryz.func287.trans (congrArg some (by kernel_rfl))⟩,
 f57:=⟨Tryz.f291.name,by decide,Tryz.func291.trans (congrArg some (by kernel_rfl))⟩,
 t0:=Tryz.underlying0,a0:=Tryz.isAgg0,z0:=Tryz.sizeOf0,v0:=Tryz.zeroValue0,
 t3:=Tryz.underlying3,a3:=Tryz.isAgg3,z3:=Tryz.sizeOf3,v3:=Tryz.zeroValue3,
 t4:=Tryz.underlying4,a4:=Tryz.isAgg4,z4:=Tryz.sizeOf4,v4:=Tryz.zeroValue4,
 t5:=Tryz.underlying5,a5:=Tryz.isAgg5,z5:=Tryz.sizeOf5,v5:=Tryz.zeroValue5,
 t9:=Tryz.underlying9,a9:=Tryz.isAgg9,z9:=Tryz.sizeOf9,v9:=Tryz.zeroValue9,
 t22:=Tryz.underlying34,a22:=Tryz.isAgg34,z22:=Tryz.sizeOf34,v22:=Tryz.zeroValue34,
 t25:=Tryz.underlying192,a25:=Tryz.isAgg192,z25:=Tryz.sizeOf192,v25:=Tryz.zeroValue192,
 t39:=Tryz.underlying255,a39:=Tryz.isAgg255,z39:=Tryz.sizeOf255,v39:=Tryz.zeroValue255,
 t45:=Tryz.underlying281,a45:=Tryz.isAgg281,z45:=Tryz.sizeOf281,v45:=Tryz.zeroValue281,
 t46:=Tryz.underlying282,a46:=Tryz.isAgg282,z46:=Tryz.sizeOf282,v46:=Tryz.zeroValue282,
 t50:=Tryz.underlying278,a50:=Tryz.isAgg278,z50:=Tryz.sizeOf278,v50:=Tryz.zeroValue278,
 t53:=Tryz.underlying270,a53:=Tryz.isAgg270,z53:=Tryz.sizeOf270,v53:=Tryz.zeroValue270,
 t55:=Tryz.underlying51,a55:=Tryz.isAgg51,z55:=Tryz.sizeOf51,v55:=Tryz.zeroValue51,
 t66:=Tryz.underlying298,a66:=Tryz.isAgg298,z66:=Tryz.sizeOf298,v66:=Tryz.zeroValue298,
 t70:=Tryz.underlying296,a70:=Tryz.isAgg296,z70:=Tryz.sizeOf296,v70:=Tryz.zeroValue296,
 t76:=Tryz.underlying304,a76:=Tryz.isAgg304,z76:=Tryz.sizeOf304,v76:=Tryz.zeroValue304,
 t77:=Tryz.underlying127,a77:=Tryz.isAgg127,z77:=Tryz.sizeOf127,v77:=Tryz.zeroValue127 }
theorem io180(l:List Record)(hn:T4 l)(hlen:l.length < 4611686018427387904) :
  A0x Tryz.prog 180 141 none false 54 3 (l.map c54) ((Ac5 l).map c54):=by
 have h:=Au8 (P:=Tryz.prog) (ρ:=renSk) (β:=Bh4) (enc:=Bc4) (k:=3) laysSk ⟨_,Tryz.func180,by kernel_rfl,by kernel_rfl⟩ 141 54
  (fun args w=>X0 ⟨_,Tryz.func141,by kernel_rfl,by kernel_rfl⟩ w) (fun _=>by kernel_rfl) (fun _=>by kernel_rfl) (fun _=>rfl) Bc3 totRB
  (fun x y=>Am3 x.1 y.1 (by have:=V7 x.2;unfold szR;omega) (by have:=V7 y.2;unfold szR;omega)) (l.map B1t) (by simpa using hlen)
 have e1:(l.map B1t).map Bc4=l.map c54:=by
  conv=>rhs;rw[← Ao8 hn,List.map_map]
  rfl
 have e2:(B60 Bc3 (l.map B1t)).map Bc4=(Ac5 l).map c54:=by
  unfold Ac5 srtB
  rw[List.map_map]
  rfl
 rw[e1,e2]at h
 exact h
theorem B7z(a b:Record)(ha:szR a)(hb:szR b):Con Tryz.prog 182 [.agg (c54 a),.agg (c54 b)] (.b (eqR a b)) :=
 by
 refine sC A6 [.tmp 4] 9 Tryz.func182 ?_
 intro e0 cx
 refine sq<|rG cx [2,3] [2,3] z0<|sn<|sq<|rG cx [4] [] (fT (Am3 (a) (b) (by(with_reducible assumption)) (by(with_reducible assumption))) (tB 3 (D2 a b=0) (oA 2 (.i .i64 (D2 a b)) z0)))<|sn<|rT<|qR (.b (decide (D2 a b=0))) (.eq ?g0);rotate_left
 case g0=>exact rfl
def B67(l:List Record)(q k:Int)(m:List Record):Prop:=m=H7 (l.take q.toNat)++l.drop k.toNat∧k=((H7 (l.take q.toNat)).length:Int)
def Bd0(l:List Record)(k:Int)(m:List Record):Prop:=m=l∧1≤k∧k≤l.length∧∀ j:Nat,1≤j→(j:Int) < k→eqR l[j]! l[j-1]! = false
def decC1(l:List Record)(k:Int)(m:List Record):Nat:=(l.length-k).toNat
def B68(l:List Record)(k0:Int)(k k2:Int)(m:List Record):Prop:=1≤k2∧k0+k2≤l.length∧k0≤k∧k≤k0+k2-1∧m.length=l.length∧B67 l (k0+k2) k m
def decC2(l:List Record)(k0:Int)(k k2:Int)(m:List Record):Nat:=(l.length-k0-k2).toNat
theorem Ab4{out:List Record}{b:Go.E.Blk}{n m:Nat}(hb:b.k=.row m (out.map c54))(h:n < out.length):Go.E.rowAt b n (c54 out[n]!):=by
 unfold Go.E.rowAt
 rw[hb]
 exact F3 h
theorem A4n{l m:List Record}{q k:Int}(h:B67 l q k m){j:Nat}(h1:k≤j)(h2:j < l.length):m[j]! = l[j]!:=by
 obtain⟨e,hk⟩:=h
 have hlen:m.length=(H7 (l.take q.toNat)).length+(l.length-k.toNat):=by rw[e,List.length_append,List.length_drop]
 rw[getElem!_pos m j (by omega),getElem!_pos l j h2]
 simp only [e]
 rw[List.getElem_append_right (by omega),List.getElem_drop]
 congr 1
 omega
theorem Bd1{l m:List Record}{q k:Int}(h1:1≤q)(hq:q < l.length)(hk:k < l.length)(he:eqR l[q.toNat]! l[q.toNat-1]! = false)(h:B67 l q k m):B67 l (q+1) (k+1) (m.set k.toNat l[q.toNat]!):=by
 obtain⟨e,hl⟩:=h
 have hs:H7 (l.take (q+1).toNat)=H7 (l.take q.toNat)++[l[q.toNat]!]:=by
  unfold H7
  rw[show(q+1).toNat=q.toNat+1 by omega,A02 eqR (by omega) (by omega),he]
  rfl
 refine⟨?_,by rw[hs,List.length_append,List.length_singleton];omega⟩
 rw[hs,e,List.set_append_right _ _ (by omega),show k.toNat-(H7 (l.take q.toNat)).length=0 by omega,List.drop_eq_getElem_cons (show k.toNat < l.length by omega),show(k+1).toNat=k.toNat+1 by omega,List.append_assoc]
 rfl
theorem Bd2{l m:List Record}{q k:Int}(h1:1≤q)(hq:q < l.length)(he:eqR l[q.toNat]! l[q.toNat-1]! = true)(h:B67 l q k m):B67 l (q+1) k m:=by
 obtain⟨e,hl⟩:=h
 have hs:H7 (l.take (q+1).toNat)=H7 (l.take q.toNat):=by
  unfold H7
  rw[show(q+1).toNat=q.toNat+1 by omega,A02 eqR (by omega) (by omega),he]
  simp
 exact⟨by rw[hs];exact e,by rw[hs];exact hl⟩
theorem B69{l:List Record}{k:Int}(h1:1≤k)(hk:k < l.length)(h:∀ j:Nat,1≤j→(j:Int) < k→eqR l[j]! l[j-1]! = false)(he:eqR l[k.toNat]! l[(k-1).toNat]! = true):B67 l (k+1) k l:=by
 have hs:H7 (l.take (k+1).toNat)=l.take k.toNat:=by
  unfold H7
  rw[show(k+1).toNat=k.toNat+1 by omega,A02 eqR (by omega) (by omega),← show(k-1).toNat=k.toNat-1 by omega,he,A24 eqR l k.toNat (by omega) (fun j h1 h2=>h j h1 (by omega))]
  simp
 refine⟨by rw[hs,List.take_append_drop],by rw[hs,List.length_take];omega⟩
theorem cm_end{l m:List Record}{q k:Int}(hq:q=l.length)(h:B67 l q k m):m.take k.toNat=H7 l:=by
 obtain⟨e,hl⟩:=h
 rw[List.take_of_length_le (by omega)]at e hl
 rw[e,List.take_append_of_le_length (by omega),List.take_of_length_le (by omega)]
theorem cm_all{l:List Record}{k:Int}(hk:¬ k < l.length)(h:∀ j:Nat,1≤j→(j:Int) < k→eqR l[j]! l[j-1]! = false):l=H7 l:=by
 have:=A24 eqR l l.length (Nat.le_refl _) (fun j h1 h2=>h j h1 (by omega))
 rw[List.take_length]at this
 exact this.symm
theorem B6a{l:List Record}(h:(l.length:Int) < 2):l=H7 l:=by
 match l,h with
 | [],_=>rfl
 | [a],_=>rfl
 | a :: b :: l,h=>simp only [List.length_cons]at h;omega
theorem A25{α:Type}(c:α→List AV){m m':List α}{k:Int}(h0:0≤k)(h1:k≤m.length)(h:m'.length=m.length):((List.take ((none:Option Int).getD ((List.map c m).length:Int)-k).toNat (List.drop k.toNat (List.map c m'))).length:Int)=m.length-k:=by
 simp only [List.length_take,List.length_drop,List.length_map,Option.getD_none]
 omega
theorem cm_no(c:Record→List AV)(m:List Record):(none:Option Int).getD ((List.map c m).length:Int)=m.length:=by simp
theorem cm_cut{m X Y:List Record}{k:Nat}(h:k≤m.length):List.take k (List.take k m++X++Y)=m.take k:=by
 rw[List.append_assoc,List.take_append_of_le_length (by rw[List.length_take];omega),List.take_take,Nat.min_self]
theorem con181(l:List Record)(hs:B0t l)(hl:l.length≤1000000000000000):Bg5 Tryz.prog 181 54 3 (l.map c54) [.fn (.func 182) [] []] ((H7 l).map c54) :=
 by
 have nn:=fun m:List Record=>cm_no c54 m
 refine Ay6 A6 (by kernel_rfl) (.tmp 4) 66 Tryz.func181 (by kernel_rfl) (by kernel_rfl) (by(with_reducible refine M6 (fun _=>?_) _);kernel_rfl) (by(with_reducible refine M6 (fun _=>?_) _);kernel_rfl) ?_
 intro e0 cx
 refine sq<|rG cx [0,1] [0] z0<|sn<|sq<|rD cx [0,1,10] [0] (tL 1 c54 l (zB 2 ((↑l.length:Int) <(2:Int)))) (fun hh0=>?_) fun hh0=>?_
 refine sq<|rG cx [4] [0] z0<|sn<|rT<|nR<|A5e (rows':=(List.map c54 l)) .ret (.inr rfl) 4 0 0 (by kernel_rfl) (by kernel_rfl) (by kernel_rfl) (by rw[← B6a hh0])
 refine sK<|sn<|sq<|sq<|rG cx [0,1,5] [0] z0<|sn<|bL 0<|sL (X:=Int×List Record) (fun x=>⟨[(0,.own 0 0),(1,.fn (Fn.func (182:FuncId)) [] []),(5,.i .i64 (x.1))],[(0,⟨0,54,.row 3 (List.map c54 x.2)⟩)]⟩) (fun x ↦ decC1 l x.1 x.2) (fun x ↦ Bd0 l x.1 x.2) [0,1,5] [0] (((1:Int),l)) (show Bd0 l (1:Int) l from(by exact⟨rfl,by omega,by omega,fun j h1 h2=>by omega⟩)) ?_
 rintro⟨k1,m2⟩ h_3
 obtain⟨hh4,hh5,h6,h7⟩:m2=l∧1≤k1∧k1≤(↑l.length:Int)∧∀(j:Nat),(1:Nat)≤j→(↑j:Int) < k1→eqR l[j]! l[j-(1:Nat)]! = false:=h_3
 refine sq<|rD cx [0,1,5,15] [0] (tL 2 c54 m2 (zB 3 (k1 <(↑m2.length:Int)))) (fun h8=>?_) fun h8=>?_
 refine sK<|sn<|sq<|bL 1<|sq<|rA cx [0,1,5,28] [0] (fO (0≤k1) (fP (k1.toNat <(List.map c54 m2).length) (by(first | omega | (simp only [List.length_map];omega))) (fR 3 (fP (E.rowAt { ver:=0,ty:=54,k:=BK.row (3) (List.map c54 m2):Blk } k1.toNat (c54 m2[k1.toNat]!)) (by subst hh4;exact Ab4 rfl (by omega)) (fP (0+(3:Nat)≤(c54 m2[k1.toNat]!).length) (by exact Nat.le_refl 3) (tW 7 (k1-1) (fO (0≤k1-1) (fP ((k1-1).toNat <(List.map c54 m2).length) (by(first | omega | (simp only [List.length_map];omega))) (fR 3 (fP (E.rowAt { ver:=0,ty:=54,k:=BK.row (3) (List.map c54 m2):Blk } (k1-1).toNat (c54 m2[(k1-1).toNat]!)) (by subst hh4;exact Ab4 rfl (by omega)) (fP (0+(3:Nat)≤(c54 m2[(k1-1).toNat]!).length) (by exact Nat.le_refl 3) (fT (B7z (m2[k1.toNat]!) (m2[(k1-1).toNat]!) (by subst hh4;exact hs _ (D9 (by omega))) (by subst hh4;exact hs _ (D9 (by omega)))) (oR 4 (c54 m2[k1.toNat]!) (oR 9 (c54 m2[(k1-1).toNat]!) (oA 10 (.b (eqR m2[k1.toNat]! m2[(k1-1).toNat]!)) z0))))))))))))))) ?_
 refine sn<|P0 (eqR m2[k1.toNat]! m2[(k1-1).toNat]!) (by kernel_rfl) (by kernel_rfl) (fun h9=>?_) (fun h9=>?_)
 refine sq<|rG cx [0,1,5,6] [0] (fO (0≤k1) (fP (k1≤none.getD (↑(List.map c54 m2).length:Int)) (by rw[nn];omega) (fP (none.getD (↑(List.map c54 m2).length:Int)≤(↑(List.map c54 m2).length:Int)) (by rw[nn,List.length_map];exact Int.le_refl _) (fP (k1 <(↑(List.map c54 m2).length:Int)) (by(first | omega | (simp only [List.length_map];omega))) (fR (some (3)) z0))))) ?_
 refine sn<|sq<|sq<|rG cx [0,1,5,6,7] [0] z0<|sn<|bL 2<|sL (X:=Int×Int×List Record) (fun x=>⟨[(0,.own 0 0),(1,.fn (Fn.func (182:FuncId)) [] []),(5,.i .i64 (x.1)),(6,.vw (0) (0) (k1.toNat) ((none.getD (↑(List.map c54 m2).length:Int)-k1).toNat)),(7,.i .i64 (x.2.1))],[(0,⟨0,54,.row 3 (List.map c54 x.2.2)⟩)]⟩) (fun x ↦ decC2 l k1 x.1 x.2.1 x.2.2) (fun x ↦ B68 l k1 x.1 x.2.1 x.2.2) [0,1,5,6,7] [0] ((k1,(1:Int),m2)) (show B68 l k1 k1 (1:Int) m2 from(by subst hh4;exact⟨by omega,by omega,by omega,by omega,rfl,B69 hh5 h8 h7 h9⟩)) ?_
 rintro⟨k10,k11,m12⟩ h_13
 obtain⟨h14,h15,h16,h17,h18,h19⟩:1≤k11∧k1+k11≤(↑l.length:Int)∧k1≤k10∧k10≤k1+k11-1∧m12.length=l.length∧B67 l (k1+k11) k10 m12:=h_13
 refine sq<|rD cx [0,1,5,6,7,35] [0] (zB 3 (k11 <(↑(List.take (none.getD (↑(List.map c54 m2).length:Int)-k1).toNat (List.drop k1.toNat (List.map c54 m12))).length:Int))) (fun h20=>?_) fun h20=>?_
 refine sK<|sn<|sq<|bL 3<|sq<|rA cx [0,1,5,6,7,49] [0] (fO (0≤k11) (fP (k11.toNat <(none.getD (↑(List.map c54 m2).length:Int)-k1).toNat) (by subst hh4;rw[A25 _ (by omega) h6 h18]at h20;rw[nn];omega) (fR 3 (fP (E.rowAt { ver:=0,ty:=54,k:=BK.row (3) (List.map c54 m12):Blk } (k1.toNat+k11.toNat) (c54 m12[k1.toNat+k11.toNat]!)) (by subst hh4;rw[A25 _ (by omega) h6 h18]at h20;exact Ab4 rfl (by omega)) (fP (0+(3:Nat)≤(c54 m12[k1.toNat+k11.toNat]!).length) (by exact Nat.le_refl 3) (tW 7 (k11-1) (fO (0≤k11-1) (fP ((k11-1).toNat <(none.getD (↑(List.map c54 m2).length:Int)-k1).toNat) (by subst hh4;rw[A25 _ (by omega) h6 h18]at h20;rw[nn];omega) (fR 3 (fP (E.rowAt { ver:=0,ty:=54,k:=BK.row (3) (List.map c54 m12):Blk } (k1.toNat+(k11-1).toNat) (c54 m12[k1.toNat+(k11-1).toNat]!)) (by subst hh4;rw[A25 _ (by omega) h6 h18]at h20;exact Ab4 rfl (by omega)) (fP (0+(3:Nat)≤(c54 m12[k1.toNat+(k11-1).toNat]!).length) (by exact Nat.le_refl 3) (fT (B7z (m12[k1.toNat+k11.toNat]!) (m12[k1.toNat+(k11-1).toNat]!) (by subst hh4;rw[A25 _ (by omega) h6 h18]at h20;rw[A4n h19 (by omega) (by omega)];exact hs _ (D9 (by omega))) (by subst hh4;rw[A25 _ (by omega) h6 h18]at h20;rw[A4n h19 (by omega) (by omega)];exact hs _ (D9 (by omega)))) (tT 11 (C3:(AV.b !eqR m12[k1.toNat+k11.toNat]! m12[k1.toNat+(k11-1).toNat]!)=AV.b (decide ¬eqR m12[k1.toNat+k11.toNat]! m12[k1.toNat+(k11-1).toNat]! = true)) (oR 4 (c54 m12[k1.toNat+k11.toNat]!) (oR 9 (c54 m12[k1.toNat+(k11-1).toNat]!) (oA 10 (.b (eqR m12[k1.toNat+k11.toNat]! m12[k1.toNat+(k11-1).toNat]!)) z0)))))))))))))))) ?_
 refine sn<|dC (¬eqR m12[k1.toNat+k11.toNat]! m12[k1.toNat+(k11-1).toNat]! = true) (fun h21=>?_) fun h21=>?_
 refine sq<|rG cx [0,1,5,6,7] [0] (fO (0≤k11) (fP (k11.toNat <(none.getD (↑(List.map c54 m2).length:Int)-k1).toNat) (by subst hh4;rw[A25 _ (by omega) h6 h18]at h20;rw[nn];omega) (fR 3 (fP (E.rowAt { ver:=0,ty:=54,k:=BK.row (3) (List.map c54 m12):Blk } (k1.toNat+k11.toNat) (c54 m12[k1.toNat+k11.toNat]!)) (by subst hh4;rw[A25 _ (by omega) h6 h18]at h20;exact Ab4 rfl (by omega)) (fP (0+(3:Nat)≤(c54 m12[k1.toNat+k11.toNat]!).length) (by exact Nat.le_refl 3) (fO (0≤k10) (fP (k10.toNat <(List.map c54 m12).length) (by(first | omega | (simp only [List.length_map];omega))) (fR 3 (fG c54 m12 k10.toNat (fR 3 (fP (0+(3:Nat)≤3) (by(first | omega | (simp only [List.length_map];omega))) (fP ((List.map c54 m12).set k10.toNat (List.take (0) (c54 m12[k10.toNat]!)++D4 (AV.agg [AV.s m12[k1.toNat+k11.toNat]!.sku,AV.sl (List.map c3 m12[k1.toNat+k11.toNat]!.past.vec),AV.sl (List.map A9 m12[k1.toNat+k11.toNat]!.past.cloud)])++List.drop (0+(3:Nat)) (c54 m12[k10.toNat]!))=List.map c54 (m12.set k10.toNat m12[k1.toNat+k11.toNat]!)) (by(with_reducible refine A1w ?_;kernel_rfl)) (oR 5 (c54 m12[k1.toNat+k11.toNat]!) (oV 7 { row:=(c54 m12[k10.toNat]!),rows:=some (List.map c54 (m12.set k10.toNat m12[k1.toNat+k11.toNat]!)) } z0)))))))))))))) ?_
 refine sn<|rG cx [0,1,5,6,7] [0] (tW 1 (k10+1) z0)<|bN<|sn<|rG cx [0,1,5,6,7] [0] (tW 1 (k11+1) z0)<|sn<|nX ((k10+1,k11+1,m12.set k10.toNat m12[k1.toNat+k11.toNat]!)) (show((↑l.length:Int)-k1-(k11+1)).toNat <((↑l.length:Int)-k1-k11).toNat from(by subst hh4;rw[A25 _ (by omega) h6 h18]at h20;omega)) (show B68 l k1 (k10+1) (k11+1) (m12.set k10.toNat m12[k1.toNat+k11.toNat]!)from ?g23);rotate_left
 refine sK<|bN<|sn<|rG cx [0,1,5,6,7] [0] (tW 1 (k11+1) z0)<|sn<|nX ((k10,k11+1,m12)) (show((↑l.length:Int)-k1-(k11+1)).toNat <((↑l.length:Int)-k1-k11).toNat from(by subst hh4;rw[A25 _ (by omega) h6 h18]at h20;omega)) (show B68 l k1 k10 (k11+1) m12 from ?g25);rotate_left
 refine eX 2<|nE<|nE<|bH<|sn<|sq<|rG cx [0,5] [0] (fO (0≤k10) (fP (k10≤none.getD (↑(List.map c54 m12).length:Int)) (by rw[nn];omega) (fP (none.getD (↑(List.map c54 m12).length:Int)≤(↑(List.map c54 m12).length:Int)) (by rw[nn,List.length_map];exact Int.le_refl _) (fP (k10 <(↑(List.map c54 m12).length:Int)) (by(first | omega | (simp only [List.length_map];omega))) (fR (some (3)) (fR 3 (fR 3 (fP (ZLe [AV.s { data:=#[]:ByteArray },AV.nl,AV.nl] [AV.s { sku:={ data:=#[]:ByteArray },past:={ vec:=[],cloud:=[]:Past }:Record }.sku,AV.sl (List.map c3 { sku:={ data:=#[]:ByteArray },past:={ vec:=[],cloud:=[]:Past }:Record }.past.vec),AV.sl (List.map A9 { sku:={ data:=#[]:ByteArray },past:={ vec:=[],cloud:=[]:Past }:Record }.past.cloud)]) (by exact ZLe.cons (B5.refl _) (ZLe.cons B5.nl (ZLe.cons B5.nl ZLe.nil))) (fP ((0:Nat) <(none.getD (↑(List.map c54 m12).length:Int)-k10).toNat) (by rw[nn];omega) (fP (k10.toNat+(none.getD (↑(List.map c54 m12).length:Int)-k10).toNat≤(List.map c54 m12).length) (by rw[nn,List.length_map];omega) (fP (List.take k10.toNat (List.map c54 m12)++List.replicate (none.getD (↑(List.map c54 m12).length:Int)-k10).toNat [AV.s { sku:={ data:=#[]:ByteArray },past:={ vec:=[],cloud:=[]:Past }:Record }.sku,AV.sl (List.map c3 { sku:={ data:=#[]:ByteArray },past:={ vec:=[],cloud:=[]:Past }:Record }.past.vec),AV.sl (List.map A9 { sku:={ data:=#[]:ByteArray },past:={ vec:=[],cloud:=[]:Past }:Record }.past.cloud)]++List.drop (k10.toNat+(none.getD (↑(List.map c54 m12).length:Int)-k10).toNat) (List.map c54 m12)=List.map c54 (List.take k10.toNat m12++List.replicate (none.getD (↑(List.map c54 m12).length:Int)-k10).toNat { sku:={ data:=#[]:ByteArray },past:={ vec:=[],cloud:=[]:Past }:Record }++List.drop (k10.toNat+(none.getD (↑(List.map c54 m12).length:Int)-k10).toNat) m12)) (by(with_reducible refine B8p ?_;kernel_rfl)) (oV 3 { row:=[.s ({ sku:={ data:=#[]:ByteArray },past:={ vec:=[],cloud:=[]:Past }:Record }.sku),.sl (List.map c3 { sku:={ data:=#[]:ByteArray },past:={ vec:=[],cloud:=[]:Past }:Record }.past.vec),.sl (List.map A9 { sku:={ data:=#[]:ByteArray },past:={ vec:=[],cloud:=[]:Past }:Record }.past.cloud)],rows:=some (List.map c54 (List.take k10.toNat m12++List.replicate (none.getD (↑(List.map c54 m12).length:Int)-k10).toNat { sku:={ data:=#[]:ByteArray },past:={ vec:=[],cloud:=[]:Past }:Record }++List.drop (k10.toNat+(none.getD (↑(List.map c54 m12).length:Int)-k10).toNat) m12)) } z0)))))))))))) ?_
 refine sn<|sq<|rG cx [4] [0] (fR (0:Int) (fO (0≤k10) (fP (k10≤(↑(List.map c54 (List.take k10.toNat m12++List.replicate (none.getD (↑(List.map c54 m12).length:Int)-k10).toNat { sku:={ data:=#[]:ByteArray },past:={ vec:=[],cloud:=[]:Past }:Record }++List.drop (k10.toNat+(none.getD (↑(List.map c54 m12).length:Int)-k10).toNat) m12)).length:Int)) (by rw[List.length_map,List.length_append,List.length_append,List.length_take];omega) (fR (some (3)) (fP (List.take k10.toNat (List.map c54 (List.take k10.toNat m12++List.replicate (none.getD (↑(List.map c54 m12).length:Int)-k10).toNat { sku:={ data:=#[]:ByteArray },past:={ vec:=[],cloud:=[]:Past }:Record }++List.drop (k10.toNat+(none.getD (↑(List.map c54 m12).length:Int)-k10).toNat) m12))=List.map c54 (List.take k10.toNat (List.take k10.toNat m12++List.replicate (none.getD (↑(List.map c54 m12).length:Int)-k10).toNat { sku:={ data:=#[]:ByteArray },past:={ vec:=[],cloud:=[]:Past }:Record }++List.drop (k10.toNat+(none.getD (↑(List.map c54 m12).length:Int)-k10).toNat) m12))) (by(with_reducible exact List.map_take.symm)) (oV 2 { rows:=some (List.map c54 (List.take k10.toNat (List.take k10.toNat m12++List.replicate (none.getD (↑(List.map c54 m12).length:Int)-k10).toNat { sku:={ data:=#[]:ByteArray },past:={ vec:=[],cloud:=[]:Past }:Record }++List.drop (k10.toNat+(none.getD (↑(List.map c54 m12).length:Int)-k10).toNat) m12))),flat:=true } z0)))))) ?_
 refine sn<|rT<|bR<|nR<|nR<|bR<|nR<|A5e (rows':=(List.map c54 (List.take k10.toNat (List.take k10.toNat m12++List.replicate (none.getD (↑(List.map c54 m12).length:Int)-k10).toNat { sku:={ data:=#[]:ByteArray },past:={ vec:=[],cloud:=[]:Past }:Record }++List.drop (k10.toNat+(none.getD (↑(List.map c54 m12).length:Int)-k10).toNat) m12)))) .ret (.inr rfl) 4 0 0 (by kernel_rfl) (by kernel_rfl) (by kernel_rfl) ?g32;rotate_left
 refine sK<|bN<|sn<|rG cx [0,1,5] [0] (tW 1 (k1+1) z0)<|sn<|nX ((k1+1,m2)) (show((↑l.length:Int)-(k1+1)).toNat <((↑l.length:Int)-k1).toNat from(by subst hh4;omega)) (show Bd0 l (k1+1) m2 from ?g34);rotate_left
 refine eX 0<|nE<|nE<|bH<|sn<|sq<|rG cx [4] [0] z0<|sn<|rT<|A5e (rows':=(List.map c54 m2)) .ret (.inr rfl) 4 0 0 (by kernel_rfl) (by kernel_rfl) (by kernel_rfl) (by subst hh4;rw[← cm_all h8 h7])
 case g23 =>
  subst hh4
  rw[A25 _ (by omega) h6 h18]at h20
  rw[A4n h19 (by omega) (by omega),A4n h19 (by omega) (by omega)]at h21
  rw[A4n h19 (by omega) (by omega)]
  have e1:k1.toNat+k11.toNat=(k1+k11).toNat:=by omega
  have e2:k1.toNat+(k11-1).toNat=(k1+k11).toNat-1:=by omega
  rw[e1,e2]at h21
  rw[e1]
  refine⟨by omega,by omega,by omega,by omega,by rw[List.length_set];exact h18,?_⟩
  rw[show k1+(k11+1)=k1+k11+1 by omega]
  exact Bd1 (by omega) (by omega) (by omega) (by simpa using h21) h19
 case g25 =>
  subst hh4
  rw[A25 _ (by omega) h6 h18]at h20
  rw[A4n h19 (by omega) (by omega),A4n h19 (by omega) (by omega)]at h21
  have e1:k1.toNat+k11.toNat=(k1+k11).toNat:=by omega
  have e2:k1.toNat+(k11-1).toNat=(k1+k11).toNat-1:=by omega
  rw[e1,e2]at h21
  refine⟨by omega,by omega,by omega,by omega,h18,?_⟩
  rw[show k1+(k11+1)=k1+k11+1 by omega]
  exact Bd2 (by omega) (by omega) (Classical.not_not.1 h21) h19
 case g32 =>
  subst hh4
  rw[A25 _ (by omega) h6 h18]at h20
  rw[cm_cut (by omega),cm_end (by omega) h19]
 case g34 =>
  subst hh4
  refine⟨rfl,by omega,by omega,fun j hj1 hj2=>?_⟩
  by_cases c:j=k1.toNat
  ·subst c;rw[← show(k1-1).toNat=k1.toNat-1 by omega];exact h9
  ·exact h7 j hj1 (by omega)
theorem B6b(l:List Record):(Ac5 l).length=l.length:=by
 unfold Ac5 srtB
 rw[List.length_map,(T3 Bc3 (l.map B1t)).length_eq,List.length_map]
theorem Ah2{r:Record}:Ab0 r=true↔¬(¬ r.sku=noneS∧¬ I2 r.sku=true):=by
 unfold Ab0
 rw[Bool.or_eq_true,decide_eq_true_iff]
 constructor
 ·rintro(h | h) ⟨h1,h2⟩
  ·exact h1 h
  ·exact h2 h
 ·intro h
  by_cases c:r.sku=noneS
  ·exact .inl c
  ·exact .inr (Classical.byContradiction fun k=>h ⟨c,k⟩)
theorem Ap4{rs:List Record}{i:Int}(h0:0≤i)(hi:i < rs.length)(h:¬ rs[i.toNat]!.sku=noneS∧¬ I2 rs[i.toNat]!.sku=true):I3 rs=([],5):=by
 unfold I3
 rw[if_neg]
 intro k
 exact Ah2.1 (List.all_eq_true.1 k _ (D9 (by omega))) h
theorem B25{rs:List Record}{i:Int}(hi:¬ i < rs.length)(h:∀ j:Nat,(j:Int) < i→Ab0 rs[j]! = true):I3 rs=(Bc5 (lsR rs),0):=by
 unfold I3
 rw[if_pos]
 rw[List.all_eq_true]
 intro r hr
 obtain⟨j,hj,rfl⟩:=List.mem_iff_getElem.1 hr
 have:=h j (by omega)
 rwa [getElem!_pos rs j hj]at this
theorem B26{rs:List Record}{i:Int}(h0:0≤i)(hi:i < rs.length):lsR (rs.take (i+1).toNat)=lsR (rs.take i.toNat)++(if B8 rs[i.toNat]!.past=0 then[]else[clnR rs[i.toNat]!]):=by
 unfold lsR
 rw[← C8 h0 hi,List.filter_append,List.map_append]
 congr 1
 generalize rs[i.toNat]! = r
 by_cases h:B8 r.past=0
 ·rw[if_pos h,List.filter_cons_of_neg (by rw[decide_eq_true_iff];exact fun k=>k h)];rfl
 ·rw[if_neg h,List.filter_cons_of_pos (by rw[decide_eq_true_iff];exact h)];rfl
def B6c(rs:List Record)(i:Int)(out:List Record):Prop:=0≤i∧i≤rs.length∧(out.length:Int)≤i∧(∀ j:Nat,(j:Int) < i→Ab0 rs[j]! = true)∧out=lsR (rs.take i.toNat)
def decKs(rs:List Record)(i:Int)(out:List Record):Nat:=(rs.length-i).toNat
theorem con118(rs:List Record)(hb:B0t rs)(hl:rs.length*64≤140737488350000):Con Tryz.prog 118 [.sl (rs.map c54)] (.tup [.sl ((I3 rs).1.map c54),.i .i64 (I3 rs).2]) :=
 by
 refine lN 0 c54 (rs) Tryz.func118 fun hl_0=>sC A6 [.tmp 2,.tmp 3] 36 Tryz.func118 ?_
 intro e0 cx
 refine sq<|rG cx [0] [] z0<|sn<|sq<|rG cx [0,4] [] z0<|sn<|sq<|sq<|rG cx [4,7,8,9] [] (tL 1 c54 rs z0)<|sn<|bL 0<|E0 4 1004 54 3 (σ':=⟨[(4,.own 1004 0),(7,.sl (List.map c54 rs)),(8,.i .i64 ((↑rs.length:Int))),(9,.i .i64 ((0:Int)))],[(1004,⟨0,54,.row 3 (List.map c54 [])⟩)]⟩) (by kernel_rfl)<|sL (X:=Int×List Record) (fun x=>⟨[(4,.own 1004 0),(7,.sl (List.map c54 rs)),(8,.i .i64 ((↑rs.length:Int))),(9,.i .i64 (x.1))],[(1004,⟨0,54,.row 3 (List.map c54 x.2)⟩)]⟩) (fun x ↦ decKs rs x.1 x.2) (fun x ↦ B6c rs x.1 x.2) [4,7,8,9] [1004] (((0:Int),[])) (show B6c rs (0:Int) []from(by exact⟨by omega,by omega,by simp,fun j hj=>by omega,by simp [lsR]⟩)) ?_
 rintro⟨i0,o1⟩ h_2
 obtain⟨hh3,hh4,hh5,hh6,hh7⟩:0≤i0∧i0≤(↑rs.length:Int)∧(↑o1.length:Int)≤i0∧(∀(j:Nat),(↑j:Int) < i0→Ab0 rs[j]! = true)∧o1=lsR (List.take i0.toNat rs):=h_2
 refine rE cx [4,7,8,9,10] [1004] (zB 0 (i0 <(↑rs.length:Int))) (fun h8=>?_) fun h8=>?_
 refine sK<|sn<|sq<|bL 1<|sq<|rG cx [4,7,8,9,6] [1004,6] (fA (0≤i0) (fG c54 rs i0.toNat (fR 3 (fN 3 3 (oR 0 (c54 rs[i0.toNat]!) z0)))))<|sn<|sq<|sq<|B1 (σ':=⟨[(4,.own 1004 0),(7,.sl (List.map c54 rs)),(8,.i .i64 ((↑rs.length:Int))),(9,.i .i64 (i0)),(6,.ptr (6) (0) (0) (0)),(21,.b (decide (¬rs[i0.toNat]!.sku={ data:=#[]:ByteArray }∧¬I2 rs[i0.toNat]!.sku=true)))],[(1004,⟨0,54,.row 3 (List.map c54 o1)⟩),(6,⟨0,54,.var [.s (rs[i0.toNat]!.sku),.sl (List.map c3 rs[i0.toNat]!.past.vec),.sl (List.map A9 rs[i0.toNat]!.past.cloud)]⟩)]⟩) ?_ ?_
 refine A5 (¬rs[i0.toNat]!.sku={ data:=#[]:ByteArray }) (fun h_10=>?_) (fun h_10=>?_)
 refine rG cx [4,7,8,9,6,21] [1004,6] (tT 2 (A19 h_10:(AV.b !rs[i0.toNat]!.sku.toList == { data:=#[]:ByteArray }.toList)=AV.b true) (fT (Am2 (rs[i0.toNat]!.sku)) (tT 7 (C3:(AV.b !I2 rs[i0.toNat]!.sku)=AV.b (decide ¬I2 rs[i0.toNat]!.sku=true)) (tD 8 (decide ¬I2 rs[i0.toNat]!.sku=true) (¬rs[i0.toNat]!.sku={ data:=#[]:ByteArray }∧¬I2 rs[i0.toNat]!.sku=true) (by simp only [eq_false h_10,tsl]) (oA 6 (.b (I2 rs[i0.toNat]!.sku)) z0))))) ?_
 exact⟨rfl,by kernel_rfl⟩
 refine rG cx [4,7,8,9,6,21] [1004,6] (tT 2 (A2y:(AV.b !rs[i0.toNat]!.sku.toList == { data:=#[]:ByteArray }.toList)=AV.b (decide ¬rs[i0.toNat]!.sku={ data:=#[]:ByteArray })) (tT 3 (A0 h_10) (tT 8 (by first | (simp only [eq_false h_10,tsl];done) | simp_all:AV.b false=AV.b (decide (¬rs[i0.toNat]!.sku={ data:=#[]:ByteArray }∧¬I2 rs[i0.toNat]!.sku=true))) z0))) ?_
 exact⟨rfl,by kernel_rfl⟩
 refine sn<|dC (¬rs[i0.toNat]!.sku={ data:=#[]:ByteArray }∧¬I2 rs[i0.toNat]!.sku=true) (fun h11=>?_) fun h11=>?_
 refine sq<|rG cx [2,3] [] z0<|sn<|rT<|nR<|bR<|nR<|nR<|bR<|nR<|qR (.tup [.nl,.i .i64 ((5:Int))]) (B5.tup (ZLe.cons (B5.nl' (show List.map c54 (I3 rs).1=[]from(by rw[Ap4 hh3 h8 h11];rfl))) (ZLe.cons (B5.eq (show AV.i .i64 5=AV.i .i64 (I3 rs).2 from(by rw[Ap4 hh3 h8 h11]))) ZLe.nil)))
 refine sK<|sn<|sq<|rG cx [4,7,8,9,6,25] [1004,6] (fT (B4x (rs[i0.toNat]!.past) (by exact V4 hb hh3 h8)) (tQ 3 (B8 rs[i0.toNat]!.past=0) (oA 2 (.b (decide (B8 rs[i0.toNat]!.past=0))) z0))) ?_
 refine sn<|dC (¬B8 rs[i0.toNat]!.past=0) (fun h12=>?_) fun h12=>?_
 refine rG cx [4,7,8,9] [1004] (fT (B13 (rs[i0.toNat]!) (by exact V4 hb hh3 h8)) (fR 54 (fR 3 (fR 3 (fX c54 [{ sku:=rs[i0.toNat]!.sku,past:=A3 rs[i0.toNat]!.past:Record }] 3 (fS c54 o1 c54 [{ sku:=rs[i0.toNat]!.sku,past:=A3 rs[i0.toNat]!.past:Record }] (fP (((List.map c54 o1).length+(List.map c54 [{ sku:=rs[i0.toNat]!.sku,past:=A3 rs[i0.toNat]!.past:Record }]).length)*(64:Nat)≤(140737488355328:Nat)) (by(simp only [Go.maxLen,List.length_map,List.length_append,List.length_cons,List.length_nil];omega)) (fM c54 o1 [{ sku:=rs[i0.toNat]!.sku,past:=A3 rs[i0.toNat]!.past:Record }] (oA 2 (.agg [.s ({ sku:=rs[i0.toNat]!.sku,past:=A3 rs[i0.toNat]!.past:Record }.sku),.sl (List.map c3 { sku:=rs[i0.toNat]!.sku,past:=A3 rs[i0.toNat]!.past:Record }.past.vec),.sl (List.map A9 { sku:=rs[i0.toNat]!.sku,past:=A3 rs[i0.toNat]!.past:Record }.past.cloud)]) (oV 4 { rows:=some (List.map c54 (o1++[{ sku:=rs[i0.toNat]!.sku,past:=A3 rs[i0.toNat]!.past:Record }])) } z0)))))))))) ?_
 refine bN<|sn<|rG cx [4,7,8,9] [1004] (tW 0 (i0+1) z0)<|sn<|nX ((i0+1,o1++[{ sku:=rs[i0.toNat]!.sku,past:=A3 rs[i0.toNat]!.past:Record }])) (show((↑rs.length:Int)-(i0+1)).toNat <((↑rs.length:Int)-i0).toNat from(by omega)) (show B6c rs (i0+1) (o1++[{ sku:=rs[i0.toNat]!.sku,past:=A3 rs[i0.toNat]!.past:Record }])from ?g5);rotate_left
 refine sK<|bN<|sn<|rG cx [4,7,8,9] [1004] (tW 0 (i0+1) z0)<|sn<|nX ((i0+1,o1)) (show((↑rs.length:Int)-(i0+1)).toNat <((↑rs.length:Int)-i0).toNat from(by omega)) (show B6c rs (i0+1) o1 from ?g6);rotate_left
 refine eX 0<|nE<|nE<|bH<|sn<|sq<|rG cx [4] [1004] (fP (A0x Tryz.prog (180:FuncId) (141:FuncId) none false (54:Nat) (3:Nat) (List.map c54 o1) (List.map c54 (Ac5 o1))) (io180 (o1) (by rw[hh7];exact B63 _) (by omega)) (oV 1 { rows:=some (List.map c54 (Ac5 o1)) } z0)) ?_
 refine sn<|sq<|rG cx [2,3] [1004] (fT (con181 (Ac5 o1) (by exact A7x (A4l _)) (by rw[B6b];omega)) (oV 1 { val:=some (.vw (0) (0) (0) (0)),rows:=some (List.map c54 (H7 (Ac5 o1))) } z0)) ?_
 refine sn<|rT<|qR (.tup [.sl (((E.look [(1,{ val:=some (AV.vw (0) (0) (0) (0)),rows:=some (List.map c54 (H7 (Ac5 o1))):Ov })] (1)).getD {:Ov }).rows.getD []),.i .i64 ((0:Int))]) (B5.tup (ZLe.cons (B5.eq (show AV.sl (((E.look [(1,{ val:=some (AV.vw (0) (0) (0) (0)),rows:=some (List.map c54 (H7 (Ac5 o1))):Ov })] (1)).getD {:Ov }).rows.getD [])=AV.sl (List.map c54 (I3 rs).1)from ?g11)) (ZLe.cons (B5.eq (show AV.i .i64 0=AV.i .i64 (I3 rs).2 from(by rw[B25 h8 hh6]))) ZLe.nil)));rotate_left
 case g5 =>
  refine⟨by omega,by omega,by rw[List.length_append,List.length_singleton];omega,fun j hj=>?_,?_⟩
  ·by_cases e:j=i0.toNat
   ·rw[e];exact Ah2.2 h11
   ·exact hh6 j (by omega)
  ·rw[B26 hh3 h8,if_neg h12,hh7];rfl
 case g6 =>
  refine⟨by omega,by omega,by omega,fun j hj=>?_,?_⟩
  ·by_cases e:j=i0.toNat
   ·rw[e];exact Ah2.2 h11
   ·exact hh6 j (by omega)
  ·rw[B26 hh3 h8,if_pos (Classical.not_not.1 h12),hh7,List.append_nil]
 case g11 =>
  rw[B25 h8 hh6]
  rw[List.take_of_length_le (by omega)]at hh7
  rw[hh7]
  rfl
end Go.Proofs.YtphcaholhacnpaaGreat
namespace Go.Proofs.YtphcaholhacnpaaGreat
open Go.E
set_option maxRecDepth 100000
set_option maxHeartbeats 4000000
theorem con236(r:Record)(e:Entry)(hl:szR r):Con Tryz.prog 236 [.agg (c54 r),.agg (c46 e)] (.b (A1s r e)) :=
 by
 have hq:r.past.cloud.length≤9223372036854775807:=by unfold szR at hl;omega
 refine sC A6 [.tmp 4] 22 Tryz.func236 ?_
 intro e0 cx
 refine sq<|rG cx [2,3] [2,3] z0<|sn<|sq<|B1 (σ':=⟨[(4,.b (decide (r.sku={ data:=#[]:ByteArray }∧C7 r.past e.dot=true∨¬r.sku={ data:=#[]:ByteArray }∧r.sku=e.sku∧C7 r.past e.dot=true)))],[]⟩) ?_ ?_
 refine A5 (r.sku={ data:=#[]:ByteArray }) (fun h1=>?_) (fun h1=>?_)
 refine rG cx [4] [] (tT 2 (A18 h1:AV.b (r.sku.toList == { data:=#[]:ByteArray }.toList)=AV.b true) (fT (Ag1 (r.past) (e.dot) (by exact hq)) (tD 17 (C7 r.past e.dot) (r.sku={ data:=#[]:ByteArray }∧C7 r.past e.dot=true∨¬r.sku={ data:=#[]:ByteArray }∧r.sku=e.sku∧C7 r.past e.dot=true) (by simp only [eq_true h1,tsl]) (oA 15 (.b (C7 r.past e.dot)) z0)))) ?_
 exact⟨rfl,by kernel_rfl⟩
 refine A5 (r.sku=e.sku) (fun h2=>?_) (fun h2=>?_)
 refine rG cx [4] [] (tT 2 (R8 h1:AV.b (r.sku.toList == { data:=#[]:ByteArray }.toList)=AV.b false) (tT 8 (A18 h2:AV.b (r.sku.toList == e.sku.toList)=AV.b true) (fT (Ag1 (r.past) (e.dot) (by exact hq)) (tD 17 (C7 r.past e.dot) (r.sku={ data:=#[]:ByteArray }∧C7 r.past e.dot=true∨¬r.sku={ data:=#[]:ByteArray }∧r.sku=e.sku∧C7 r.past e.dot=true) (by simp only [eq_false h1,eq_true h2,tsl]) (oA 15 (.b (C7 r.past e.dot)) z0))))) ?_
 exact⟨rfl,by kernel_rfl⟩
 refine rG cx [4] [] (tT 2 (R8 h1:AV.b (r.sku.toList == { data:=#[]:ByteArray }.toList)=AV.b false) (tT 8 (R8 h2:AV.b (r.sku.toList == e.sku.toList)=AV.b false) (tD 17 false (r.sku={ data:=#[]:ByteArray }∧C7 r.past e.dot=true∨¬r.sku={ data:=#[]:ByteArray }∧r.sku=e.sku∧C7 r.past e.dot=true) (by simp only [eq_false h1,eq_false h2,tsl]) z0))) ?_
 exact⟨rfl,by kernel_rfl⟩
 refine sn<|rT<|qR (.b (decide (r.sku={ data:=#[]:ByteArray }∧C7 r.past e.dot=true∨¬r.sku={ data:=#[]:ByteArray }∧r.sku=e.sku∧C7 r.past e.dot=true))) (.eq ?g2);rotate_left
 case g2 =>
  refine congrArg AV.b ?_
  rw[Bool.eq_iff_iff,A0n,decide_eq_true_iff]
  show(r.sku=noneS∧_∨¬ r.sku=noneS∧_)↔_
  by_cases c:r.sku=noneS <;> simp [c]
theorem Ab5(rs:List Record)(e:Entry){i:Int}(h0:0≤i)(h1:i < rs.length):C4 (rs.take (i+1).toNat) e=C4 (rs.take i.toNat) e+if A1s rs[i.toNat]! e=true then 1 else 0:=by
 unfold C4
 rw[← C8 h0 h1,List.filter_append,List.length_append]
 generalize rs[i.toNat]! = x
 split
 ·rename_i h;simp [List.filter_cons,h]
 ·rename_i h;simp [List.filter_cons,h]
theorem B27(rs:List Record)(e:Entry)(hb:B0t rs):Con Tryz.prog 198 [.sl (rs.map c54),.agg (c46 e)] (.i .i64 (C4 rs e)) :=
 by
 refine lN 0 c54 (rs) Tryz.func198 fun hl_0=>sC A6 [.tmp 4] 22 Tryz.func198 ?_
 intro e0 cx
 refine sq<|rG cx [0,3] [3] z0<|sn<|sq<|rG cx [0,3,5] [3] z0<|sn<|sq<|sq<|rG cx [0,3,5,6] [3] z0<|sn<|bL 0<|sL (X:=Int×Int×Int×Int×ByteArray×Int) (fun x=>⟨[(0,.sl (List.map c54 rs)),(3,.ptr (3) (0) (0) (0)),(5,.i .i64 (x.1)),(6,.i .i64 (x.2.1))],[(3,⟨0,46,.var [.i .i64 (x.2.2.1),.i .i64 (x.2.2.2.1),.s (x.2.2.2.2.1),.i .i64 (x.2.2.2.2.2)]⟩)]⟩) (fun x ↦ decBr rs x.1 x.2.1 x.2.2.1 x.2.2.2.1 x.2.2.2.2.1 x.2.2.2.2.2) (fun x ↦ A9u rs e x.1 x.2.1 x.2.2.1 x.2.2.2.1 x.2.2.2.2.1 x.2.2.2.2.2) [0,3,5,6] [3] (((0:Int),(0:Int),e.dot.rep,e.dot.num,e.sku,e.qty)) (show A9u rs e (0:Int) (0:Int) e.dot.rep e.dot.num e.sku e.qty from(by exact⟨rfl,rfl,rfl,rfl,by omega,by omega,by omega,by omega,by simp [C4]⟩)) ?_
 rintro⟨n0,i1,r2,m3,s4,q5⟩ h_6
 obtain⟨hh7,hh8,hh9,hh10,h11,h12,h13,h14,h15⟩:r2=e.dot.rep∧m3=e.dot.num∧s4=e.sku∧q5=e.qty∧0≤i1∧i1≤(↑rs.length:Int)∧0≤n0∧n0≤i1∧n0=C4 (List.take i1.toNat rs) e:=h_6
 refine sq<|rD cx [0,3,5,6,10] [3] (tL 2 c54 rs (zB 3 (i1 <(↑rs.length:Int)))) (fun h16=>?_) fun h16=>?_
 refine sK<|sn<|sq<|bL 1<|sq<|rA cx [0,3,5,6,18] [3] (fA (0≤i1) (fG c54 rs i1.toNat (fR 3 (fN 3 3 (fT (con236 (rs[i1.toNat]!) ({ dot:={ rep:=r2,num:=m3:Dot },sku:=s4,qty:=q5:Entry }) (by exact V4 hb h11 h16)) (oR 2 (c54 rs[i1.toNat]!) (oA 5 (.b (A1s rs[i1.toNat]! { dot:={ rep:=r2,num:=m3:Dot },sku:=s4,qty:=q5:Entry })) z0))))))) ?_
 refine sn<|P0 (A1s rs[i1.toNat]! { dot:={ rep:=r2,num:=m3:Dot },sku:=s4,qty:=q5:Entry }) (by kernel_rfl) (by kernel_rfl) (fun h17=>?_) (fun h17=>?_)
 refine rG cx [0,3,5,6] [3] (tW 1 (n0+1) z0)<|bN<|sn<|rG cx [0,3,5,6] [3] (tW 1 (i1+1) z0)<|sn<|nX ((n0+1,i1+1,r2,m3,s4,q5)) (show((↑rs.length:Int)-(i1+1)).toNat <((↑rs.length:Int)-i1).toNat from(by omega)) (show A9u rs e (n0+1) (i1+1) r2 m3 s4 q5 from ?g2);rotate_left
 refine sK<|bN<|sn<|rG cx [0,3,5,6] [3] (tW 1 (i1+1) z0)<|sn<|nX ((n0,i1+1,r2,m3,s4,q5)) (show((↑rs.length:Int)-(i1+1)).toNat <((↑rs.length:Int)-i1).toNat from(by omega)) (show A9u rs e n0 (i1+1) r2 m3 s4 q5 from ?g3);rotate_left
 refine eX 0<|nE<|nE<|bH<|sn<|sq<|rG cx [4] [] z0<|sn<|rT<|qR (.i .i64 (n0)) (.eq (by rw[h15,List.take_of_length_le (by omega)]))
 case g2 =>
  subst hh7 hh8 hh9 hh10
  refine⟨rfl,rfl,rfl,rfl,by omega,by omega,by omega,by omega,?_⟩
  rw[Ab5 rs e h11 h16,if_pos h17,h15]
 case g3 =>
  subst hh7 hh8 hh9 hh10
  refine⟨rfl,rfl,rfl,rfl,by omega,by omega,by omega,by omega,?_⟩
  have h17:A1s rs[i1.toNat]! e=false:=h17
  rw[Ab5 rs e h11 h16,if_neg (by rw[h17];simp),h15]
  omega
end Go.Proofs.YtphcaholhacnpaaGreat
namespace Go.Proofs.YtphcaholhacnpaaGreat
open Go.E
set_option maxRecDepth 100000
set_option maxHeartbeats 4000000
theorem B28{a b:Dot}:dLt a b=true↔a.rep < b.rep∨a.rep=b.rep∧a.num < b.num:=by simp [dLt]
theorem B29(a:Dot):¬ dLt a a=true:=by rw[B28];omega
theorem B2a{a b c:Dot}(h1:dLt a b=true)(h2:dLt b c=true):dLt a c=true:=by rw[B28]at *;omega
def upE(es:List Entry):Prop:=es.Pairwise (fun a b=>dLt a.dot b.dot=true)
def A80(es:List Entry):Prop:=(∀ e∈es,A4r e=0)∧upE es
theorem Bd3(es:List Entry):okL es=true↔A80 es:=by
 constructor
 ·intro h
  refine⟨fun e he=>?_,?_⟩
  ·obtain⟨i,hi,rfl⟩:=List.mem_iff_getElem.1 he
   have:=(A2h h hi).1
   rwa [getElem!_pos es i hi]at this
  ·unfold upE
   rw[List.pairwise_iff_getElem]
   have step:∀ n i:Nat,(hi:i+n+1 < es.length)→dLt es[i]!.dot es[i+n+1]!.dot=true:=by
    intro n
    induction n with
    | zero =>
     intro i hi
     have:=(A2h h hi).2
     rcases this with k | k
     ·omega
     ·simpa using k
    | succ n ih =>
     intro i hi
     have h1:=ih i (by omega)
     have h2:=(A2h h (i:=i+(n+1)+1) hi).2
     rcases h2 with k | k
     ·omega
     ·rw[show i+(n+1)+1-1=i+n+1 by omega]at k;exact B2a h1 k
   intro i j hi hj hij
   have:=step (j-i-1) i (by omega)
   rw[show i+(j-i-1)+1=j by omega,getElem!_pos es i hi,getElem!_pos es j hj]at this
   exact this
 ·rintro⟨h1,h2⟩
  unfold upE at h2
  rw[List.pairwise_iff_getElem]at h2
  unfold okL
  rw[I6]
  intro i hi
  rw[V5]
  refine⟨h1 _ (B4h hi),?_⟩
  by_cases e:i=0
  ·exact .inl e
  ·refine .inr ?_
   have:=h2 (i-1) i (by omega) hi (by omega)
   rwa [getElem!_pos es (i-1) (by omega),getElem!_pos es i hi]
theorem Ah3(es:List Entry):E3 es=0↔A80 es:=by
 rw[← Bd3]
 exact⟨W4,fun h=>by unfold E3;rw[if_pos h]⟩
theorem A4o{l es:List Entry}(h:A80 es)(hs:l.Sublist es):A80 l:=⟨fun e he=>h.1 e (hs.subset he),List.Pairwise.sublist hs h.2⟩
theorem B2b{es:List Entry}(h:A80 es){x y:Entry}(hx:x∈es)(hy:y∈es)(hd:x.dot=y.dot):x=y:=by
 obtain⟨i,hi,rfl⟩:=List.mem_iff_getElem.1 hx
 obtain⟨j,hj,rfl⟩:=List.mem_iff_getElem.1 hy
 have hp:=List.pairwise_iff_getElem.1 h.2
 by_cases e:i=j
 ·subst e;rfl
 ·rcases Nat.lt_or_gt_of_ne e with e | e
  ·have:=hp i j hi hj e;rw[hd]at this;exact absurd this (B29 _)
  ·have:=hp j i hj hi e;rw[hd]at this;exact absurd this (B29 _)
end Go.Proofs.YtphcaholhacnpaaGreat
namespace Go.Proofs.YtphcaholhacnpaaGreat
open Go.E
set_option maxRecDepth 100000
set_option maxHeartbeats 4000000
noncomputable def A09(f:Facts):List Entry:=(f.adds.filter fun e=>C7 f.gone e.dot == false).filter fun e=>decide (C4 f.recs e=0)
noncomputable def L2(f:Facts):List Entry×Int:=if okF f=true then(A09 f,0)else([],1)
def I4(es:List Entry):Past:=E8 (ofT (es.map fun e=>e.dot))
noncomputable def M4(f:Facts):Past×Int:=if okF f=true then(D1 [I4 f.adds,f.gone],0)else(⟨[],[]⟩,1)
def szB(n:Nat)(f:Facts):Prop:=szF f∧f.recs.length≤n*1048576∧A52 f.recs≤n*1099512676352
theorem B6d{n m:Nat}{f:Facts}(h:szB n f)(hm:n≤m):szB m f:=⟨h.1,Nat.le_trans h.2.1 (Nat.mul_le_mul_right _ hm),Nat.le_trans h.2.2 (Nat.mul_le_mul_right _ hm)⟩
theorem B2c{n:Nat}{f:Facts}(h:szB n f)(hn:n≤7):tokR f.recs:=⟨by have:=h.2.2;omega,by have:=h.2.1;omega⟩
theorem A81{es:List Entry}(h:E3 es=0):F1 es=(I4 es,0):=by unfold F1;rw[if_pos (W4 h)];rfl
theorem A4p(es:List Entry):I4 es=A3 (I4 es):=(A31 _).symm
theorem B6e{f:Facts}(h:okF f=true):A08 [(F1 f.adds).1,f.gone]*16≤140737488350000:=by
 rw[A81 (D7.1 h).1]
 have h1:=V7 (A4p f.adds)
 have h2:=V7 (D7.1 h).2.1
 have e:A08 [I4 f.adds,f.gone]=(I4 f.adds).cloud.length+1+(f.gone.cloud.length+1):=by simp [A08]
 show A08 [I4 f.adds,f.gone]*16≤_
 rw[e]
 omega
theorem Ah4{f:Facts}(h:okF f=true):M3 f.adds f.gone false=(f.adds.filter (fun e=>C7 f.gone e.dot == false),0):=by
 unfold M3
 rw[if_pos ⟨W4 (D7.1 h).1,(D7.1 h).2.1⟩]
theorem A6a{f:Facts}(h:okF f=true):G7 (M3 f.adds f.gone false).1 f.recs=L2 f:=by
 rw[Ah4 h]
 unfold G7 L2
 rw[if_pos h,if_pos ⟨(Ah3 _).2 (A4o ((Ah3 _).1 (D7.1 h).1) List.filter_sublist),(D7.1 h).2.2⟩]
 rfl
theorem B2d{f:Facts}(h:¬ A2o f=0):L2 f=([],1):=by unfold L2;rw[if_neg (fun k=>h (W2.2 k))]
theorem Ah5{f:Facts}(h:¬ A2o f=0):M4 f=(⟨[],[]⟩,1):=by unfold M4;rw[if_neg (fun k=>h (W2.2 k))]
theorem Ah6{f:Facts}(h:okF f=true):M4 f=(D1 [I4 f.adds,f.gone],0):=by unfold M4;rw[if_pos h]
theorem con111(f:Facts)(hb:szB 7 f):Con Tryz.prog 111 [.agg (c36 f)] (.tup [.sl ((L2 f).1.map c46),.i .i64 (L2 f).2]) :=
 by
 have y:¬¬A2o f=0→okF f=true:=fun h=>W2.1 (Classical.not_not.1 h)
 refine sC A6 [.tmp 2,.tmp 3] 26 Tryz.func111 ?_
 intro e0 cx
 refine sq<|rG cx [1] [1] z0<|sn<|sq<|sq<|rG cx [1,8] [1] (fT (Ap0 (f) (by exact hb.1)) (tN 2 (A2o f) (0:Int) (oA 1 (.i .i64 (A2o f)) z0))) ?_
 refine sn<|dC (¬A2o f=0) (fun h0=>?_) fun h0=>?_
 refine sq<|rG cx [2,3] [] z0<|sn<|rT<|nR<|qR (.tup [.nl,.i .i64 ((1:Int))]) (B5.tup (ZLe.cons (B5.nl' (show List.map c46 (L2 f).1=[]from(by rw[B2d h0];rfl))) (ZLe.cons (B5.eq (show AV.i .i64 1=AV.i .i64 (L2 f).2 from(by rw[B2d h0]))) ZLe.nil)))
 refine sK<|sn<|sq<|rG cx [1,4,5] [1] (fT (con82 (f.adds) (f.gone) (by exact hb.1.1.1)) (oA 4 (.tup [.sl (List.map c46 (M3 f.adds f.gone false).1),.i .i64 ((M3 f.adds f.gone false).2)]) z0)) ?_
 refine sn<|sq<|sq<|rG cx [1,4,5,18] [1] (tN 1 ((M3 f.adds f.gone false).2) (0:Int) z0)<|sn<|dC (¬(M3 f.adds f.gone false).2=0) (fun h1=>?_) fun h1=>?_
 refine sq<|rG cx [2,3] [] z0<|sn<|rT<|nR<|qR (.tup [.nl,.i .i64 ((M3 f.adds f.gone false).2)]) (B5.tup (ZLe.cons (B5.nl' (show List.map c46 (L2 f).1=[]from(by exact absurd (by rw[Ah4 (y h0)]) h1))) (ZLe.cons (B5.eq (show AV.i .i64 (M3 f.adds f.gone false).2=AV.i .i64 (L2 f).2 from(by exact absurd (by rw[Ah4 (y h0)]) h1))) ZLe.nil)))
 refine sK<|sn<|sq<|rG cx [2,3] [] (fT (con96 ((M3 f.adds f.gone false).1) (f.recs) (by exact A55 hb.1.2) (by exact B2c hb (Nat.le_refl _))) (oA 3 (.tup [.sl (List.map c46 (G7 (M3 f.adds f.gone false).1 f.recs).1),.i .i64 ((G7 (M3 f.adds f.gone false).1 f.recs).2)]) z0)) ?_
 refine sn<|rT<|qR (.tup [.sl (List.map c46 (G7 (M3 f.adds f.gone false).1 f.recs).1),.i .i64 ((G7 (M3 f.adds f.gone false).1 f.recs).2)]) (B5.tup (ZLe.cons (B5.eq (show AV.sl (List.map c46 (G7 (M3 f.adds f.gone false).1 f.recs).1)=AV.sl (List.map c46 (L2 f).1)from(by rw[A6a (y h0)]))) (ZLe.cons (B5.eq (show AV.i .i64 (G7 (M3 f.adds f.gone false).1 f.recs).2=AV.i .i64 (L2 f).2 from(by rw[A6a (y h0)]))) ZLe.nil)))
theorem con112(f:Facts)(hb:szF f):Con Tryz.prog 112 [.agg (c36 f)] (.tup [.agg (c26 (M4 f).1),.i .i64 (M4 f).2]) :=
 by
 have y:¬¬A2o f=0→okF f=true:=fun h=>W2.1 (Classical.not_not.1 h)
 refine sC A6 [.cell 2 26,.tmp 3] 22 Tryz.func112 ?_
 intro e0 cx
 refine sq<|rG cx [1,2] [1,2] z0<|sn<|sq<|sq<|rG cx [1,2,8] [1,2] (fT (Ap0 (f) (by(with_reducible assumption))) (tN 2 (A2o f) (0:Int) (oA 1 (.i .i64 (A2o f)) z0)))<|sn<|dC (¬A2o f=0) (fun h0=>?_) fun h0=>?_
 refine sq<|rG cx [2,3] [2] z0<|sn<|rT<|nR<|qR (.tup [.agg [.nl,.nl],.i .i64 ((1:Int))]) (B5.tup (ZLe.cons (B5.agg (ZLe.cons (B5.nl' (show List.map c3 (M4 f).1.vec=[]from(by rw[Ah5 h0];rfl))) (ZLe.cons (B5.nl' (show List.map A9 (M4 f).1.cloud=[]from(by rw[Ah5 h0];rfl))) ZLe.nil))) (ZLe.cons (B5.eq (show AV.i .i64 1=AV.i .i64 (M4 f).2 from(by rw[Ah5 h0]))) ZLe.nil)))
 refine sK<|sn<|sq<|rG cx [1,2,4,5] [1,2,4] (fT (B22 (f.adds)) (oA 2 (.tup [.agg [.sl (List.map c3 (F1 f.adds).1.vec),.sl (List.map A9 (F1 f.adds).1.cloud)],.i .i64 ((F1 f.adds).2)]) z0))<|sn<|sq<|rG cx [2,3] [2] (fT (con21 ([(F1 f.adds).1,f.gone]) (by exact B6e (y h0))) (oA 4 (.agg [.sl (List.map c3 (D1 [(F1 f.adds).1,f.gone]).vec),.sl (List.map A9 (D1 [(F1 f.adds).1,f.gone]).cloud)]) z0)) ?_
 refine sn<|rT<|qR (.tup [.agg [.sl (List.map c3 (D1 [(F1 f.adds).1,f.gone]).vec),.sl (List.map A9 (D1 [(F1 f.adds).1,f.gone]).cloud)],.i .i64 ((F1 f.adds).2)]) (B5.tup (ZLe.cons (B5.eq (show AV.agg [AV.sl (List.map c3 (D1 [(F1 f.adds).1,f.gone]).vec),AV.sl (List.map A9 (D1 [(F1 f.adds).1,f.gone]).cloud)]=AV.agg [AV.sl (List.map c3 (M4 f).1.vec),AV.sl (List.map A9 (M4 f).1.cloud)]from(by rw[Ah6 (y h0),A81 (D7.1 (y h0)).1]))) (ZLe.cons (B5.eq (show AV.i .i64 (F1 f.adds).2=AV.i .i64 (M4 f).2 from(by rw[Ah6 (y h0),A81 (D7.1 (y h0)).1]))) ZLe.nil)))
end Go.Proofs.YtphcaholhacnpaaGreat
namespace Go.Proofs.YtphcaholhacnpaaGreat
open Go.E
set_option maxRecDepth 100000
set_option maxHeartbeats 4000000
theorem B6f{es:List Entry}{d:Dot}(h:(E6 es d).2=true):(E6 es d).1.dot=d:=by
 unfold E6 at *
 split at h
 ·rename_i e he
  have:=List.find?_some he
  exact of_decide_eq_true this
 ·cases h
end Go.Proofs.YtphcaholhacnpaaGreat
namespace Go.Proofs.YtphcaholhacnpaaGreat
open Go.E
set_option maxRecDepth 100000
set_option maxHeartbeats 4000000
theorem X9{f:Facts}:okF f=true↔A80 f.adds∧f.gone=A3 f.gone∧B0q f.recs:=by rw[D7,Ah3,A1o]
theorem Bd4{es:List Entry}(h:A80 es){x:Entry}(hx:x∈es):E6 es x.dot=(x,true):=by
 unfold E6
 cases hf:es.find? (fun e=>decide (e.dot=x.dot))with
 | none =>
  rw[List.find?_eq_none]at hf
  exact absurd (decide_eq_true rfl) (hf x hx)
 | some e =>
  have h0:=List.find?_some hf
  have h1:e.dot=x.dot:=of_decide_eq_true h0
  rw[B2b h (List.mem_of_find?_eq_some hf) hx h1]
theorem B6g{es:List Entry}{d:Dot}(h:(E6 es d).2=true):(E6 es d).1∈es:=by
 unfold E6 at *
 split at h
 ·rename_i e he
  exact List.mem_of_find?_eq_some he
 ·cases h
theorem Ah7:okF Ab2=true:=X9.2 ⟨⟨fun e he=>(by cases he),List.Pairwise.nil⟩,A9m.symm,⟨fun r hr=>(by cases hr),List.Pairwise.nil⟩⟩
theorem Ap5{f:Facts}{e:Entry}:e∈A09 f↔e∈f.adds∧C7 f.gone e.dot=false∧C4 f.recs e=0:=by
 unfold A09
 rw[List.mem_filter,List.mem_filter,decide_eq_true_iff,beq_iff_eq,and_assoc]
theorem B2e{f:Facts}(h:okF f=true):A80 (A09 f):=A4o (A4o (X9.1 h).1 List.filter_sublist) List.filter_sublist
theorem B2f{f:Facts}(h:okF f=true):L2 f=(A09 f,0):=by unfold L2;rw[if_pos h]
theorem A82{es:List Entry}(h:A80 es)(d:Dot):C7 (I4 es) d=true↔∃ e∈es,e.dot=d:=by
 unfold I4
 rw[has_of]
 constructor
 ·rintro⟨_,k⟩
  exact List.mem_map.1 k
 ·rintro⟨e,he,k⟩
  refine⟨?_,List.mem_map.2 ⟨e,he,k⟩⟩
  have:=A9r (h.1 e he)
  rw[← k]
  unfold I0
  rw[decide_eq_true_eq]
  exact this
theorem Ap6{a b:List Record}(h:a.Sublist b):A52 a≤A52 b:=by
 induction h with
 | slnil=>exact Nat.le_refl _
 | cons x h ih=>simp only [A52,List.map_cons,List.sum_cons]at *;omega
 | cons_cons x h ih=>simp only [A52,List.map_cons,List.sum_cons]at *;omega
end Go.Proofs.YtphcaholhacnpaaGreat
namespace Go.Proofs.YtphcaholhacnpaaGreat
open Go.E
set_option maxRecDepth 100000
set_option maxHeartbeats 4000000
structure Fate where
 dot:Dot
 kind:Int
 recs:Int
 deriving Inhabited,DecidableEq
structure Spent where
 adds:Int
 gone:Int
 recs:Int
 deriving Inhabited,DecidableEq
structure KCase where
 f:Facts
 g:Facts
 h:Facts
 s:Facts
 dots:List Dot
 sku:ByteArray
 deriving Inhabited
def c82(f:Facts):List AV:=[.sl (f.adds.map c46),.sl (f.gone.vec.map c3),.sl (f.gone.cloud.map A9),.sl (f.recs.map c54)]
def L7(x:Fate):List AV:=[.i .i64 x.dot.rep,.i .i64 x.dot.num,.i .i64 x.kind,.i .i64 x.recs]
def Bh5(x:Spent):List AV:=[.i .i64 x.adds,.i .i64 x.gone,.i .i64 x.recs]
theorem fl112(x:Fate):FlC tab 4 112 (L7 x):=⟨[_,_],[_,_],rfl,⟨[_],[_],rfl,⟨_,rfl⟩,[_],[],rfl,⟨_,rfl⟩,rfl⟩,[_],[_],rfl,⟨_,rfl⟩,[_],[],rfl,⟨_,rfl⟩,rfl⟩
theorem eq112(x y:Fate):A0w Tryz.prog 112 (L7 x) (L7 y) (decide (x=y)):=by
 refine A1c A6 (n:=4) (by decide) (by kernel_rfl) (fl112 x) (fl112 y) ?_
 obtain⟨⟨a,b⟩,c,d⟩:=x;obtain⟨⟨a',b'⟩,c',d'⟩:=y;simp [L7,and_assoc]
theorem fl120(x:Spent):FlC tab 3 120 (Bh5 x):=⟨[_],[_,_],rfl,⟨_,rfl⟩,[_],[_],rfl,⟨_,rfl⟩,[_],[],rfl,⟨_,rfl⟩,rfl⟩
theorem eq120(x y:Spent):A0w Tryz.prog 120 (Bh5 x) (Bh5 y) (decide (x=y)):=by
 refine A1c A6 (n:=3) (by decide) (by kernel_rfl) (fl120 x) (fl120 y) ?_
 cases x;cases y;simp [Bh5]
def c104(c:KCase):List AV:=[.sl (c.f.adds.map c46),.sl (c.f.gone.vec.map c3),.sl (c.f.gone.cloud.map A9),.sl (c.f.recs.map c54),.sl (c.g.adds.map c46),.sl (c.g.gone.vec.map c3),.sl (c.g.gone.cloud.map A9),.sl (c.g.recs.map c54),.sl (c.h.adds.map c46),.sl (c.h.gone.vec.map c3),.sl (c.h.gone.cloud.map A9),.sl (c.h.recs.map c54),.sl (c.s.adds.map c46),.sl (c.s.gone.vec.map c3),.sl (c.s.gone.cloud.map A9),.sl (c.s.recs.map c54),.sl (c.dots.map c44),.s c.sku]
end Go.Proofs.YtphcaholhacnpaaGreat
namespace Go.Proofs.YtphcaholhacnpaaGreat
open Go.E
set_option maxRecDepth 100000
set_option maxHeartbeats 4000000
def F6(f:Facts):Past:=D1 [I4 f.adds,f.gone]
noncomputable def stF(f:Facts):Facts:=⟨A09 f,F6 f,O2 f.recs (F6 f)⟩
def A0q(s:Facts):Facts:=⟨s.adds,B3 s.gone (I4 s.adds),s.recs⟩
theorem B80(s:Facts):∃ b:Bool,b=decide (okF s=true∧B8 (B3 (I4 s.adds) s.gone)=0∧(O2 s.recs s.gone).length=s.recs.length∧(s.adds.filter fun e=>decide (C4 s.recs e=0)).length=s.adds.length):=⟨_,rfl⟩
noncomputable def okS(s:Facts):Bool:=Classical.choose (B80 s)
theorem Ab6(s:Facts):okS s=decide (okF s=true∧B8 (B3 (I4 s.adds) s.gone)=0∧(O2 s.recs s.gone).length=s.recs.length∧(s.adds.filter fun e=>decide (C4 s.recs e=0)).length=s.adds.length):=Classical.choose_spec (B80 s)
noncomputable def A4t(s:Facts):Int:=if okS s=true then 0 else 1
theorem A26{a b:Past}:B8 (B3 a b)=0↔∀ d,C7 a d=true→C7 b d=true:=by
 rw[S7]
 constructor
 ·intro h d hd
  have:=h d
  rw[Af6,hd]at this
  simpa using this
 ·intro h d
  rw[Af6]
  cases c:C7 a d with
  | false=>rfl
  | true=>rw[h d c];rfl
theorem Ap7{α:Type}{p:α→Bool}{l:List α}:(l.filter p).length=l.length↔∀ x∈l,p x=true:=by
 constructor
 ·intro h x hx
  have:l.filter p=l:=List.Sublist.eq_of_length List.filter_sublist h
  rw[← this]at hx
  exact(List.mem_filter.1 hx).2
 ·intro h
  rw[List.filter_eq_self.2 h]
theorem A0r{s:Facts}:okS s=true↔okF s=true∧(∀ e∈s.adds,C7 s.gone e.dot=true)∧(∀ r∈s.recs,¬ B8 (B3 r.past s.gone)=0)∧∀ e∈s.adds,C4 s.recs e=0:=by
 rw[Ab6,decide_eq_true_iff]
 unfold O2
 rw[Ap7,Ap7]
 constructor
 ·rintro⟨h1,h2,h3,h4⟩
  refine⟨h1,fun e he=>(A26.1 h2) _ ((A82 (X9.1 h1).1 _).2 ⟨e,he,rfl⟩),fun r hr=>of_decide_eq_true (h3 r hr),fun e he=>of_decide_eq_true (h4 e he)⟩
 ·rintro⟨h1,h2,h3,h4⟩
  refine⟨h1,A26.2 fun d hd=>?_,fun r hr=>decide_eq_true (h3 r hr),fun e he=>decide_eq_true (h4 e he)⟩
  obtain⟨e,he,rfl⟩:=(A82 (X9.1 h1).1 d).1 hd
  exact h2 e he
theorem Y0{s:Facts}:A4t s=0↔okS s=true:=by unfold A4t;split <;> simp_all
theorem Bd5{α:Type}{p:α→Bool}{l:List α}(h:∀ x∈l,p x=true):l.filter p=l:=List.filter_eq_self.2 h
theorem B81{s:Facts}(h:okS s=true):okF (A0q s)=true:=by
 have k:=(A0r.1 h).1
 rw[X9]at k ⊢
 exact⟨k.1,A5v _ _,k.2.2⟩
theorem B2g{f:Facts}(d:Dot):C7 (F6 f) d=(C7 (I4 f.adds) d || C7 f.gone d):=by
 unfold F6
 rw[Al6]
 simp
theorem T5(f:Facts):F6 f=A3 (F6 f):=A9g _
theorem B2h{rs:List Record}{p:Past}(h:B0q rs):B0q (O2 rs p):=⟨fun r hr=>h.1 r (List.mem_filter.1 hr).1,List.Pairwise.sublist List.filter_sublist h.2⟩
theorem B6h{f:Facts}{e:Entry}(h:e∈A09 f):e∈f.adds:=(Ap5.1 h).1
theorem B6i{rs:List Record}{p:Record→Bool}{e:Entry}(h:C4 rs e=0):C4 (rs.filter p) e=0:=by
 rw[A48]at h ⊢
 rintro⟨r,hr,k⟩
 exact h ⟨r,(List.mem_filter.1 hr).1,k⟩
theorem A57{f:Facts}(h:okF f=true):okS (stF f)=true:=by
 have k:=X9.1 h
 rw[A0r]
 refine⟨X9.2 ⟨B2e h,T5 f,B2h k.2.2⟩,fun e he=>?_,fun r hr=>?_,fun e he=>?_⟩
 ·show C7 (F6 f) e.dot=true
  rw[B2g,(A82 k.1 e.dot).2 ⟨e,B6h he,rfl⟩]
  rfl
 ·exact of_decide_eq_true (List.mem_filter.1 hr).2
 ·exact B6i (Ap5.1 he).2.2
end Go.Proofs.YtphcaholhacnpaaGreat
namespace Go.Proofs.YtphcaholhacnpaaGreat
open Go.E
set_option maxRecDepth 100000
set_option maxHeartbeats 4000000
theorem B2i{s:Facts}(h:¬E3 s.adds=0∨¬s.gone=A3 s.gone∨¬F0 s.recs=0):A4t s=1:=by
 unfold A4t
 rw[if_neg]
 intro k
 have k:=D7.1 (A0r.1 k).1
 rcases h with h | h | h
 ·exact h k.1
 ·exact h k.2.1
 ·exact h k.2.2
theorem A1q{s:Facts}(h:¬(¬E3 s.adds=0∨¬s.gone=A3 s.gone∨¬F0 s.recs=0)):okF s=true :=
 D7.2 ⟨Classical.not_not.1 fun k=>h (.inl k),Classical.not_not.1 fun k=>h (.inr (.inl k)),Classical.not_not.1 fun k=>h (.inr (.inr k))⟩
theorem Ap8{s:Facts}(h:okF s=true):K0 s.recs s.gone=(O2 s.recs s.gone,0):=A0p (D7.1 h).2.2 (D7.1 h).2.1
theorem Ab7{s:Facts}(h:okF s=true):G7 s.adds s.recs=(s.adds.filter fun e=>decide (C4 s.recs e=0),0):=by
 unfold G7
 rw[if_pos ⟨(D7.1 h).1,(D7.1 h).2.2⟩]
theorem A27{p:Past}(h:p=A3 p):p.cloud.length*16≤140737488350000:=by have:=V7 h;omega
theorem B2j(es:List Entry):(F1 es).1.cloud.length*16≤140737488350000:=by have:=B21 es;omega
theorem Bd6{a b:Past}(ha:a=A3 a)(hb:b=A3 b):A08 [a,b]*16≤140737488350000:=by
 have h1:=V7 ha
 have h2:=V7 hb
 have e:A08 [a,b]=a.cloud.length+1+(b.cloud.length+1):=by simp [A08]
 rw[e]
 omega
theorem Ah8{f:Facts}(h:szB 7 f):f.recs.length*64≤140737488350000:=by have:=h.2.1;omega
theorem Bd7{rs:List Record}(h:F0 rs=0):I3 rs=(rs,0):=by
 have k:=(A1o rs).1 h
 unfold I3
 rw[if_pos (B65 k.1),B64 k.1,← B62 (A03 h) k.2 (fun r=>Iff.rfl)]
theorem A83{es:List Entry}(h:E3 es=0):(F1 es).1=I4 es:=by rw[A81 h]
theorem B2k{s:Facts}(h:¬ okS s=true):A4t s=1:=by unfold A4t;rw[if_neg h]
theorem Y1{s:Facts}(h:okS s=true):okF s=true:=(A0r.1 h).1
theorem Y2{f:Facts}(h:¬ ¬ A2o f=0):okF f=true:=W2.1 (Classical.not_not.1 h)
theorem A04{f:Facts}(h:¬(L2 f).2=0):¬ okF f=true∧(L2 f).2=1:=by
 by_cases k:okF f=true
 ·rw[B2f k]at h;exact absurd rfl h
 ·exact⟨k,by unfold L2;rw[if_neg k]⟩
theorem A05{f:Facts}(h:¬ ¬(L2 f).2=0):okF f=true:=by
 by_cases k:okF f=true
 ·exact k
 ·exact absurd (by unfold L2;rw[if_neg k];decide) h
theorem Ah9{f:Facts}(h:okF f=true):M4 f=(F6 f,0):=Ah6 h
theorem B6j{f:Facts}(h:okF f=true):K0 f.recs (M4 f).1=(O2 f.recs (F6 f),0):=by
 rw[Ah9 h]
 exact A0p (D7.1 h).2.2 (T5 f)
theorem A0s(rs:List Record)(p:Past):(O2 rs p).length≤rs.length:=List.length_filter_le _ _
theorem B82(s:Facts)(hb:szB 7 s):Con Tryz.prog 115 [.agg (c82 s)] (.i .i64 (A4t s)) :=
 by
 refine sC A6 [.tmp 2] 64 Tryz.func115 ?_
 intro e0 cx
 refine sq<|rG cx [1] [1] z0<|sn<|sq<|sq<|B1 (σ':=⟨[(1,.ptr (1) (0) (0) (0)),(24,.b (decide (¬E3 s.adds=0∨¬s.gone=A3 s.gone∨¬F0 s.recs=0)))],[(1,⟨0,82,.var [.sl (List.map c46 s.adds),.sl (List.map c3 s.gone.vec),.sl (List.map A9 s.gone.cloud),.sl (List.map c54 s.recs)]⟩)]⟩) ?_ ?_
 refine A5 (¬E3 s.adds=0) (fun h1=>?_) (fun h1=>?_)
 refine rG cx [1,24] [1] (fT (A44 (s.adds)) (tT 3 (H2 h1:AV.b (E3 s.adds !=0)=AV.b true) (tD 15 true (¬E3 s.adds=0∨¬s.gone=A3 s.gone∨¬F0 s.recs=0) (by simp only [eq_false h1,tsl]) (oA 2 (.i .i64 (E3 s.adds)) z0)))) ?_
 exact⟨rfl,by kernel_rfl⟩
 refine A5 (¬s.gone=A3 s.gone) (fun h2=>?_) (fun h2=>?_)
 refine rg (A:=_∧(AV.b (E3 s.adds !=0)=AV.b (decide ¬E3 s.adds=0))∧_∧_∧_∧(AV.b true=AV.b (decide (¬E3 s.adds=0∨¬s.gone=A3 s.gone∨¬F0 s.recs=0)))) cx [(2,{ val:=some (.i .i64 (E3 s.adds)) }),(3,{ tell:=some (.b (decide ¬E3 s.adds=0)) }),(4,{ tell:=some (.b (false)) }),(7,{ val:=some (.b (decide (s.gone=A3 s.gone))),tell:=some (.b (false)) }),(15,{ tell:=some (.b (decide (¬E3 s.adds=0∨¬s.gone=A3 s.gone∨¬F0 s.recs=0))) })] [1,24] [1] ⟨(A44 (s.adds)),(A2u),(A0 h1),(A0 h2),(A9d (s.gone) (by exact hb.1.1.1)),(by first | (simp only [eq_false h1,eq_false h2,tsl];done) | simp_all)⟩ ?_
 exact⟨rfl,by kernel_rfl⟩
 refine rG cx [1,24] [1] (fT (A44 (s.adds)) (tN 3 (E3 s.adds) (0:Int) (tT 4 (A0 h1) (fT (A9d (s.gone) (by exact hb.1.1.1)) (tQ 8 (s.gone=A3 s.gone) (tT 9 (A0 h2) (fT (A62 (s.recs) (by exact A55 hb.1.2)) (tN 14 (F0 s.recs) (0:Int) (tT 15 (by first | (simp only [eq_false h1,eq_false h2,tsl];done) | simp_all:AV.b (decide ¬F0 s.recs=0)=AV.b (decide (¬E3 s.adds=0∨¬s.gone=A3 s.gone∨¬F0 s.recs=0))) (oA 2 (.i .i64 (E3 s.adds)) (oA 7 (.b (decide (s.gone=A3 s.gone))) (oA 13 (.i .i64 (F0 s.recs)) z0)))))))))))) ?_
 exact⟨rfl,by kernel_rfl⟩
 refine sn<|dC (¬E3 s.adds=0∨¬s.gone=A3 s.gone∨¬F0 s.recs=0) (fun h3=>?_) fun h3=>?_
 refine sq<|rG cx [2] [] z0<|sn<|rT<|nR<|qR (.i .i64 ((1:Int))) (.eq (by rw[B2i h3]))
 refine sK<|sn<|sq<|sq<|rG cx [1,3] [1,3] (fT (B22 (s.adds)) (oA 2 (.tup [.agg [.sl (List.map c3 (F1 s.adds).1.vec),.sl (List.map A9 (F1 s.adds).1.cloud)],.i .i64 ((F1 s.adds).2)]) z0))<|sn<|sq<|rG cx [1,35] [1] (fT (An9 ((F1 s.adds).1) (s.gone) (by exact B2j _) (by exact hb.1.1.1)) (tQ 4 (B8 (B3 (F1 s.adds).1 s.gone)=0) (oA 3 (.b (decide (B8 (B3 (F1 s.adds).1 s.gone)=0))) z0))) ?_
 refine sn<|dC (¬B8 (B3 (F1 s.adds).1 s.gone)=0) (fun h4=>?_) fun h4=>?_
 refine sq<|rG cx [2] [] z0<|sn<|rT<|nR<|qR (.i .i64 ((1:Int))) (.eq ?g6);rotate_left
 refine sK<|sn<|sq<|sq<|rG cx [1,5] [1] (fT (B7x (s.recs) (s.gone) (by exact A55 hb.1.2) (by exact Ah8 hb) (by exact hb.1.1.1)) (oA 4 (.tup [.sl (List.map c54 (K0 s.recs s.gone).1),.i .i64 ((K0 s.recs s.gone).2)]) z0)) ?_
 refine sn<|sq<|rG cx [1,49] [1] (tL 1 c54 ((K0 s.recs s.gone).1) (tL 4 c54 s.recs (tN 5 (↑(K0 s.recs s.gone).1.length:Int) (↑s.recs.length:Int) z0)))<|sn<|dC (¬(↑(K0 s.recs s.gone).1.length:Int)=(↑s.recs.length:Int)) (fun h5=>?_) fun h5=>?_
 refine sq<|rG cx [2] [] z0<|sn<|rT<|nR<|qR (.i .i64 ((1:Int))) (.eq ?g10);rotate_left
 refine sK<|sn<|sq<|sq<|rG cx [1,7] [1] (fT (con96 (s.adds) (s.recs) (by exact A55 hb.1.2) (by exact B2c hb (Nat.le_refl _))) (oA 4 (.tup [.sl (List.map c46 (G7 s.adds s.recs).1),.i .i64 ((G7 s.adds s.recs).2)]) z0)) ?_
 refine sn<|sq<|rG cx [63] [] (tL 1 c46 ((G7 s.adds s.recs).1) (tL 4 c46 s.adds (tN 5 (↑(G7 s.adds s.recs).1.length:Int) (↑s.adds.length:Int) z0)))<|sn<|dC (¬(↑(G7 s.adds s.recs).1.length:Int)=(↑s.adds.length:Int)) (fun h6=>?_) fun h6=>?_
 refine sq<|rG cx [2] [] z0<|sn<|rT<|nR<|qR (.i .i64 ((1:Int))) (.eq ?g13);rotate_left
 refine sK<|sn<|sq<|rG cx [2] [] z0<|sn<|rT<|qR (.i .i64 ((0:Int))) (.eq ?g14);rotate_left
 case g6 =>
  rw[A83 (D7.1 (A1q h3)).1]at h4
  rw[B2k fun c=>h4 ?_]
  have:=Ab6 s ▸ c
  exact(of_decide_eq_true this).2.1
 case g10 =>
  rw[Ap8 (A1q h3)]at h5
  rw[B2k fun c=>h5 ?_]
  have:=Ab6 s ▸ c
  have:=(of_decide_eq_true this).2.2.1
  simp only
  omega
 case g13 =>
  rw[Ab7 (A1q h3)]at h6
  rw[B2k fun c=>h6 ?_]
  have:=Ab6 s ▸ c
  have:=(of_decide_eq_true this).2.2.2
  simp only
  omega
 case g14 =>
  have f:=A1q h3
  rw[A83 (D7.1 f).1]at h4
  rw[Ap8 f]at h5
  rw[Ab7 f]at h6
  have h5:=Classical.not_not.1 h5
  have h6:=Classical.not_not.1 h6
  simp only at h5 h6
  rw[Y0.2]
  rw[Ab6]
  exact decide_eq_true ⟨f,Classical.not_not.1 h4,by omega,by omega⟩
end Go.Proofs.YtphcaholhacnpaaGreat
namespace Go.Proofs.YtphcaholhacnpaaGreat
open Go.E
set_option maxRecDepth 100000
set_option maxHeartbeats 4000000
def Bd8(f:Facts)(i:Int)(o:List Entry):Prop:=o=((f.adds.take i.toNat).filter fun e=>C7 f.gone e.dot == false).filter fun e=>decide (C4 f.recs e=0)
def B6k(f:Facts)(i:Int)(x1:List Entry)(x2:List Int)(x3:List Span)(x4:List Record)(o:List Entry):Prop:=x1=f.adds∧x2=f.gone.vec∧x3=f.gone.cloud∧x4=f.recs∧0≤i∧i≤f.adds.length∧(o.length:Int)≤i∧Bd8 f i o
def decL1(f:Facts)(i:Int)(x1:List Entry)(x2:List Int)(x3:List Span)(x4:List Record)(o:List Entry):Nat:=(f.adds.length-i).toNat
theorem lst_sz{es:List Entry}(h:E3 es=0):es.length*40≤140737488351232:=by have:=A0m (W4 h);omega
theorem Bd9{s:Facts}(h:¬E3 s.adds=0∨¬s.gone=A3 s.gone∨¬F0 s.recs=0):okS s=false:=by
 have:=B2i h
 unfold A4t at this
 split at this
 ·omega
 ·rename_i k;exact Bool.eq_false_iff.2 k
theorem Ab8{l:List Record}{i:Int}(h0:0≤i)(hi:i < l.length):l[i.toNat]!∈l:=D9 (by omega)
theorem B83{l:List Entry}{i:Int}(h0:0≤i)(hi:i < l.length):l[i.toNat]!∈l:=D9 (by omega)
theorem Be0{s:Facts}{i:Int}(h0:0≤i)(hi:i < s.recs.length)(k:B8 (B3 s.recs[i.toNat]!.past s.gone)=0):okS s=false :=
 Bool.eq_false_iff.2 fun c=>(A0r.1 c).2.2.1 _ (Ab8 h0 hi) k
theorem B2l{f:Facts}{i:Int}{o:List Entry}(h0:0≤i)(hi:i < f.adds.length)(ho:Bd8 f i o) :
  ((f.adds.take (i+1).toNat).filter fun e=>C7 f.gone e.dot == false).filter (fun e=>decide (C4 f.recs e=0))=o++(if C7 f.gone f.adds[i.toNat]!.dot=false∧C4 f.recs f.adds[i.toNat]! = 0 then[f.adds[i.toNat]!]else[]):=by
 rw[← C8 h0 hi,List.filter_append,List.filter_append,ho]
 congr 1
 generalize f.adds[i.toNat]! = x
 cases hx:C7 f.gone x.dot with
 | true=>simp [List.filter_cons,hx]
 | false=>by_cases hb:C4 f.recs x=0 <;> simp [List.filter_cons,hx,hb]
theorem Be1(rs:List Record)(e:Entry):0≤C4 rs e:=by unfold C4;omega
end Go.Proofs.YtphcaholhacnpaaGreat
namespace Go.Proofs.YtphcaholhacnpaaGreat
open Go.E
set_option maxRecDepth 100000
set_option maxHeartbeats 4000000
def szL(f:Facts):Prop:=f.adds.length*40≤140737488351232∧f.recs.length*64≤140737488350000
theorem Be2{f:Facts}(h:okF f=true):A08 [I4 f.adds,f.gone]*16≤140737488350000:=Bd6 (A4p _) (D7.1 h).2.1
theorem Ai0(f:Facts):(A09 f).length≤f.adds.length:=Nat.le_trans (List.length_filter_le _ _) (List.length_filter_le _ _)
theorem A84{p:Past}(h:p=A3 p):szP p:=by
 have k:=O1 (A8 [p])
 rw[h]
 exact⟨by show(E8 (A8 [p])).cloud.length*16≤_;omega,by show(E8 (A8 [p])).vec.length≤_;omega⟩
theorem A0f{f:Facts}(h:okF f=true):szF f:=⟨A84 (D7.1 h).2.1,fun r hr=>A84 (A03 (D7.1 h).2.2 r hr)⟩
end Go.Proofs.YtphcaholhacnpaaGreat
namespace Go.Proofs.YtphcaholhacnpaaGreat
open Go.E
set_option maxRecDepth 100000
set_option maxHeartbeats 4000000
noncomputable def B9(f:Facts):Facts×Int:=if okF f=true then(stF f,0)else(Ab2,1)
noncomputable def E7(s:Facts):Facts×Int:=if okS s=true then(A0q s,0)else(Ab2,1)
noncomputable def N4(f:Facts):Facts×Int:=if okF f=true then(A0q (stF f),0)else(Ab2,1)
noncomputable def A2p(f s:Facts):Bool:=okF f && decide (stF f=s)
noncomputable def ftR(f:Facts)(d:Dot):Int:=if(E6 f.adds d).2=true then C4 f.recs (E6 f.adds d).1 else 0
noncomputable def ftK(f:Facts)(d:Dot):Int:=if C7 f.gone d=true then 2 else if(E6 f.adds d).2=true∧0 < ftR f d then 3 else if(E6 f.adds d).2=true then 1 else 0
noncomputable def ftF(f:Facts)(d:Dot):Fate:=⟨d,ftK f d,ftR f d⟩
noncomputable def L3(f:Facts)(d:Dot):Fate×Int:=if ¬ okF f=true then(default,1)else if ¬ I0 d=true then(default,2)else(ftF f d,0)
noncomputable def W5(f:Facts)(s:ByteArray):List Fate×Int:=if ¬ okF f=true then([],1)else if ¬ I2 s=true then([],5)else((f.adds.filter fun e=>decide (e.sku=s)).map fun e=>ftF f e.dot,0)
noncomputable def W6(f:Facts):Spent×Int:=if okF f=true then(⟨f.adds.length-(stF f).adds.length,B8 f.gone,f.recs.length-(stF f).recs.length⟩,0)else(default,1)
def Ab9(f:Facts)(s:ByteArray)(i:Int)(x1:List Entry)(x2:List Int)(x3:List Span)(x4:List Record)(out:List Fate):Prop:=x1=f.adds∧x2=f.gone.vec∧x3=f.gone.cloud∧x4=f.recs∧0≤i∧i≤f.adds.length∧(out.length:Int)≤i∧out=((f.adds.take i.toNat).filter fun e=>decide (e.sku=s)).map fun e=>ftF f e.dot
def decSy(f:Facts)(i:Int)(x1:List Entry)(x2:List Int)(x3:List Span)(x4:List Record)(out:List Fate):Nat:=(f.adds.length-i).toNat
theorem K6{f:Facts}(h:okF f=true):B9 f=(stF f,0):=by unfold B9;rw[if_pos h]
theorem Q8{f:Facts}(h:¬ okF f=true):B9 f=(Ab2,1):=by unfold B9;rw[if_neg h]
theorem Y3{s:Facts}(h:okS s=true):E7 s=(A0q s,0):=by unfold E7;rw[if_pos h]
theorem A0t{s:Facts}(h:¬ okS s=true):E7 s=(Ab2,1):=by unfold E7;rw[if_neg h]
theorem Ac0{f:Facts}(h:okF f=true):N4 f=(A0q (stF f),0):=by unfold N4;rw[if_pos h]
theorem Y4{f:Facts}(h:¬ okF f=true):N4 f=(Ab2,1):=by unfold N4;rw[if_neg h]
theorem Ap9{f:Facts}(h:okF f=true):W6 f=(⟨f.adds.length-(stF f).adds.length,B8 f.gone,f.recs.length-(stF f).recs.length⟩,0):=by unfold W6;rw[if_pos h]
theorem Aq0{f:Facts}(h:¬ okF f=true):W6 f=(default,1):=by unfold W6;rw[if_neg h]
theorem J4{f:Facts}(h:¬ ¬(B9 f).2=0):okF f=true:=by
 by_cases k:okF f=true
 ·exact k
 ·rw[Q8 k]at h;exact absurd (by decide) h
theorem W3{f:Facts}(h:¬(B9 f).2=0):¬ okF f=true:=fun k=>h (by rw[K6 k])
theorem Ai1{d:Dot}:¬ I0 d=true↔d.rep < 0∨16≤d.rep∨d.num < 1∨1000000000 < d.num:=by
 unfold I0
 rw[decide_eq_true_iff]
 omega
theorem Be3{f:Facts}{n:Nat}(h:szB n f)(k:okF f=true):szB n (stF f) :=
 ⟨A0f (Y1 (A57 k)),Nat.le_trans (A0s f.recs (F6 f)) h.2.1,Nat.le_trans (Ap6 (List.filter_sublist (l:=f.recs))) h.2.2⟩
theorem Aq1{f:Facts}{d:Dot}(h:¬ okF f=true):L3 f d=(default,1):=by unfold L3;rw[if_pos h]
theorem A85{f:Facts}{d:Dot}(h:okF f=true)(k:¬ I0 d=true):L3 f d=(default,2):=by unfold L3;rw[if_neg (fun c=>c h),if_pos k]
theorem Aq2{f:Facts}{d:Dot}(h:okF f=true)(k:I0 d=true):L3 f d=(ftF f d,0):=by unfold L3;rw[if_neg (fun c=>c h),if_neg (fun c=>c k)]
theorem Aq3{f:Facts}{s:ByteArray}(h:¬ okF f=true):W5 f s=([],1):=by unfold W5;rw[if_pos h]
theorem A86{f:Facts}{s:ByteArray}(h:okF f=true)(k:¬ I2 s=true):W5 f s=([],5):=by unfold W5;rw[if_neg (fun c=>c h),if_pos k]
theorem Aq4{f:Facts}{s:ByteArray}(h:okF f=true)(k:I2 s=true):W5 f s=((f.adds.filter fun e=>decide (e.sku=s)).map fun e=>ftF f e.dot,0):=by unfold W5;rw[if_neg (fun c=>c h),if_neg (fun c=>c k)]
theorem A87{f:Facts}{s:ByteArray}{i:Int}{o:List Fate}(h0:0≤i)(hi:i < f.adds.length)(ho:o=((f.adds.take i.toNat).filter fun e=>decide (e.sku=s)).map fun e=>ftF f e.dot) :
  (((f.adds.take (i+1).toNat).filter fun e=>decide (e.sku=s)).map fun e=>ftF f e.dot)=o++if f.adds[i.toNat]!.sku=s then[ftF f f.adds[i.toNat]!.dot]else[]:=by
 rw[← C8 h0 hi,List.filter_append,List.map_append,ho]
 congr 1
 generalize f.adds[i.toNat]! = x
 split
 ·rename_i h;simp [List.filter_cons,h]
 ·rename_i h;simp [List.filter_cons,h]
theorem Ai2{f:Facts}{d:Dot}(h:C7 f.gone d=true):ftK f d=2:=by unfold ftK;rw[if_pos h]
theorem B84{f:Facts}{d:Dot}(h:C7 f.gone d=false)(k:(E6 f.adds d).2=true)(m:0 < C4 f.recs (E6 f.adds d).1):ftK f d=3:=by
 unfold ftK ftR
 rw[if_neg (by rw[h];decide),if_pos k,if_pos ⟨k,m⟩]
theorem B2m{f:Facts}{d:Dot}(h:C7 f.gone d=false)(k:(E6 f.adds d).2=true)(m:¬ 0 < C4 f.recs (E6 f.adds d).1):ftK f d=1:=by
 unfold ftK ftR
 rw[if_neg (by rw[h];decide),if_pos k,if_neg (fun c=>m c.2),if_pos k]
theorem B2n{f:Facts}{d:Dot}(h:C7 f.gone d=false)(k:(E6 f.adds d).2=false):ftK f d=0:=by
 unfold ftK
 rw[if_neg (by rw[h];decide),if_neg (by rw[k];exact fun c=>(by cases c.1)),if_neg (by rw[k];decide)]
theorem A88{f:Facts}{d:Dot}(k:(E6 f.adds d).2=true):ftR f d=C4 f.recs (E6 f.adds d).1:=by unfold ftR;rw[if_pos k]
theorem B2o{f:Facts}{d:Dot}(k:(E6 f.adds d).2=false):ftR f d=0:=by unfold ftR;rw[if_neg (by rw[k];decide)]
theorem A6b{f:Facts}{d:Dot}{k n:Int}(h1:ftK f d=k)(h2:ftR f d=n):AV.agg [.i .i64 d.rep,.i .i64 d.num,.i .i64 k,.i .i64 n]=AV.agg (L7 (ftF f d)):=by
 subst h1 h2
 rfl
theorem B2p(f:Facts)(hb:szB 7 f):Con Tryz.prog 56 [.agg (c36 f)] (.tup [.agg (c82 (B9 f).1),.i .i64 (B9 f).2]) :=
 by
 refine sC A6 [.cell 2 82,.tmp 3] 35 Tryz.func56 ?_
 intro e0 cx
 refine sq<|rG cx [1,2] [1,2] z0<|sn<|sq<|rG cx [1,2,4,5] [1,2] (fT (con111 (f) (by(with_reducible assumption))) (oA 1 (.tup [.sl (List.map c46 (L2 f).1),.i .i64 ((L2 f).2)]) z0))<|sn<|sq<|sq<|rG cx [1,2,4,5,16] [1,2] (tN 1 ((L2 f).2) (0:Int) z0)<|sn<|dC (¬(L2 f).2=0) (fun h0=>?_) fun h0=>?_
 refine sq<|rG cx [2,3] [2] z0<|sn<|rT<|nR<|qR (.tup [.agg [.nl,.nl,.nl,.nl],.i .i64 ((L2 f).2)]) (B5.tup (ZLe.cons (B5.agg (ZLe.cons (B5.nl' (show List.map c46 (B9 f).1.adds=[]from(by rw[Q8 (A04 h0).1];rfl))) (ZLe.cons (B5.nl' (show List.map c3 (B9 f).1.gone.vec=[]from(by rw[Q8 (A04 h0).1];rfl))) (ZLe.cons (B5.nl' (show List.map A9 (B9 f).1.gone.cloud=[]from(by rw[Q8 (A04 h0).1];rfl))) (ZLe.cons (B5.nl' (show List.map c54 (B9 f).1.recs=[]from(by rw[Q8 (A04 h0).1];rfl))) ZLe.nil))))) (ZLe.cons (B5.eq (show AV.i .i64 (L2 f).2=AV.i .i64 (B9 f).2 from(by rw[(A04 h0).2,Q8 (A04 h0).1]))) ZLe.nil)))
 refine sK<|sn<|sq<|rG cx [1,2,4,6] [1,2,6] (fT (con112 (f) (by exact hb.1)) (oA 1 (.tup [.agg [.sl (List.map c3 (M4 f).1.vec),.sl (List.map A9 (M4 f).1.cloud)],.i .i64 ((M4 f).2)]) z0)) ?_
 refine sn<|sq<|rG cx [2,4,6,8] [2,6] (fT (B7x (f.recs) ((M4 f).1) (by exact A55 hb.1.2) (by exact Ah8 hb) (by rw[Ah9 (A05 h0)];exact A27 (T5 f))) (oA 3 (.tup [.sl (List.map c54 (K0 f.recs (M4 f).1).1),.i .i64 ((K0 f.recs (M4 f).1).2)]) z0)) ?_
 refine sn<|sq<|rG cx [2,3] [2] z0<|sn<|rT<|qR (.tup [.agg [.sl (List.map c46 (L2 f).1),.sl (List.map c3 (M4 f).1.vec),.sl (List.map A9 (M4 f).1.cloud),.sl (List.map c54 (K0 f.recs (M4 f).1).1)],.i .i64 ((0:Int))]) (B5.tup (ZLe.cons (B5.eq (show AV.agg [AV.sl (List.map c46 (L2 f).1),AV.sl (List.map c3 (M4 f).1.vec),AV.sl (List.map A9 (M4 f).1.cloud),AV.sl (List.map c54 (K0 f.recs (M4 f).1).1)]=AV.agg [AV.sl (List.map c46 (B9 f).1.adds),AV.sl (List.map c3 (B9 f).1.gone.vec),AV.sl (List.map A9 (B9 f).1.gone.cloud),AV.sl (List.map c54 (B9 f).1.recs)]from(by rw[K6 (A05 h0),B6j (A05 h0),Ah9 (A05 h0),B2f (A05 h0)];rfl))) (ZLe.cons (B5.eq (show AV.i .i64 0=AV.i .i64 (B9 f).2 from(by rw[K6 (A05 h0)]))) ZLe.nil)))
theorem Be4(s:Facts)(hb:szB 7 s):Con Tryz.prog 64 [.agg (c82 s)] (.tup [.agg (c36 (E7 s).1),.i .i64 (E7 s).2]) :=
 by
 have n:¬ A4t s=0→E7 s=(Ab2,1):=fun h=>A0t fun k=>h (Y0.2 k)
 have y:¬ ¬ A4t s=0→okS s=true:=fun h=>Y0.1 (Classical.not_not.1 h)
 refine sC A6 [.cell 2 36,.tmp 3] 33 Tryz.func64 ?_
 intro e0 cx
 refine sq<|rG cx [1,2] [1,2] z0<|sn<|sq<|sq<|rG cx [1,2,10] [1,2] (fT (B82 (s) (by(with_reducible assumption))) (tN 2 (A4t s) (0:Int) (oA 1 (.i .i64 (A4t s)) z0)))<|sn<|dC (¬A4t s=0) (fun h0=>?_) fun h0=>?_
 refine sq<|rG cx [2,3] [2] z0<|sn<|rT<|nR<|qR (.tup [.agg [.nl,.nl,.nl,.nl],.i .i64 ((1:Int))]) (B5.tup (ZLe.cons (B5.agg (ZLe.cons (B5.nl' (show List.map c46 (E7 s).1.adds=[]from(by rw[n h0];rfl))) (ZLe.cons (B5.nl' (show List.map c3 (E7 s).1.gone.vec=[]from(by rw[n h0];rfl))) (ZLe.cons (B5.nl' (show List.map A9 (E7 s).1.gone.cloud=[]from(by rw[n h0];rfl))) (ZLe.cons (B5.nl' (show List.map c54 (E7 s).1.recs=[]from(by rw[n h0];rfl))) ZLe.nil))))) (ZLe.cons (B5.eq (show AV.i .i64 1=AV.i .i64 (E7 s).2 from(by rw[n h0]))) ZLe.nil)))
 refine sK<|sn<|sq<|rG cx [1,2,4] [1,2,4] (fT (B22 (s.adds)) (oA 2 (.tup [.agg [.sl (List.map c3 (F1 s.adds).1.vec),.sl (List.map A9 (F1 s.adds).1.cloud)],.i .i64 ((F1 s.adds).2)]) z0))<|sn<|sq<|rG cx [1,2,4,6] [1,2,4] (fT (con118 (s.recs) (by exact A55 hb.1.2) (by exact Ah8 hb)) (oA 2 (.tup [.sl (List.map c54 (I3 s.recs).1),.i .i64 ((I3 s.recs).2)]) z0)) ?_
 refine sn<|sq<|rA cx [2,3] [2] (fT (con142 (s.adds) (by have:=lst_sz (D7.1 (Y1 (y h0))).1;omega)) (fT (B7g (s.gone) ((F1 s.adds).1) (by exact hb.1.1.1) (by exact B2j _)) (oV 2 { val:=some (.own (46:Nat) (4:Nat)),rows:=some (List.map c46 s.adds) } (oA 6 (.agg [.sl (List.map c3 (B3 s.gone (F1 s.adds).1).vec),.sl (List.map A9 (B3 s.gone (F1 s.adds).1).cloud)]) z0)))) ?_
 refine sn<|rT<|qR (.tup [.agg [.sl (((E.look [(2,{ val:=some (AV.own (46:Nat) (4:Nat)),rows:=some (List.map c46 s.adds):Ov })] (2)).getD {:Ov }).rows.getD []),.sl (List.map c3 (B3 s.gone (F1 s.adds).1).vec),.sl (List.map A9 (B3 s.gone (F1 s.adds).1).cloud),.sl (List.map c54 (I3 s.recs).1)],.i .i64 ((0:Int))]) (B5.tup (ZLe.cons (B5.eq (show AV.agg [AV.sl (((E.look [(2,{ val:=some (AV.own (46:Nat) (4:Nat)),rows:=some (List.map c46 s.adds):Ov })] (2)).getD {:Ov }).rows.getD []),AV.sl (List.map c3 (B3 s.gone (F1 s.adds).1).vec),AV.sl (List.map A9 (B3 s.gone (F1 s.adds).1).cloud),AV.sl (List.map c54 (I3 s.recs).1)]=AV.agg [AV.sl (List.map c46 (E7 s).1.adds),AV.sl (List.map c3 (E7 s).1.gone.vec),AV.sl (List.map A9 (E7 s).1.gone.cloud),AV.sl (List.map c54 (E7 s).1.recs)]from ?g11)) (ZLe.cons (B5.eq (show AV.i .i64 0=AV.i .i64 (E7 s).2 from(by rw[Y3 (y h0)]))) ZLe.nil)));rotate_left
 case g11 =>
  have f:=D7.1 (Y1 (y h0))
  rw[Y3 (y h0),Bd7 f.2.2,A83 f.1]
  rfl
theorem con59(f:Facts)(hb:szB 7 f):Con Tryz.prog 59 [.agg (c36 f)] (.tup [.agg (c36 (N4 f).1),.i .i64 (N4 f).2]) :=
 by
 refine sC A6 [.cell 2 36,.tmp 3] 19 Tryz.func59 ?_
 intro e0 cx
 refine sq<|rG cx [1,2] [1,2] z0<|sn<|sq<|rG cx [2,4,5] [2,4] (fT (B2p (f) (by(with_reducible assumption))) (oA 1 (.tup [.agg [.sl (List.map c46 (B9 f).1.adds),.sl (List.map c3 (B9 f).1.gone.vec),.sl (List.map A9 (B9 f).1.gone.cloud),.sl (List.map c54 (B9 f).1.recs)],.i .i64 ((B9 f).2)]) z0))<|sn<|sq<|sq<|rG cx [2,4,5,12] [2,4] (tN 1 ((B9 f).2) (0:Int) z0)<|sn<|dC (¬(B9 f).2=0) (fun h0=>?_) fun h0=>?_
 refine sq<|rG cx [2,3] [2] z0<|sn<|rT<|nR<|qR (.tup [.agg [.nl,.nl,.nl,.nl],.i .i64 ((B9 f).2)]) (B5.tup (ZLe.cons (B5.agg (ZLe.cons (B5.nl' (show List.map c46 (N4 f).1.adds=[]from(by rw[Y4 (W3 h0)];rfl))) (ZLe.cons (B5.nl' (show List.map c3 (N4 f).1.gone.vec=[]from(by rw[Y4 (W3 h0)];rfl))) (ZLe.cons (B5.nl' (show List.map A9 (N4 f).1.gone.cloud=[]from(by rw[Y4 (W3 h0)];rfl))) (ZLe.cons (B5.nl' (show List.map c54 (N4 f).1.recs=[]from(by rw[Y4 (W3 h0)];rfl))) ZLe.nil))))) (ZLe.cons (B5.eq (show AV.i .i64 (B9 f).2=AV.i .i64 (N4 f).2 from(by rw[Q8 (W3 h0),Y4 (W3 h0)]))) ZLe.nil)))
 refine sK<|sn<|sq<|rG cx [2,3] [2] (fT (Be4 ((B9 f).1) (by rw[K6 (J4 h0)];exact Be3 hb (J4 h0))) (oA 1 (.tup [.agg [.sl (List.map c46 (E7 (B9 f).1).1.adds),.sl (List.map c3 (E7 (B9 f).1).1.gone.vec),.sl (List.map A9 (E7 (B9 f).1).1.gone.cloud),.sl (List.map c54 (E7 (B9 f).1).1.recs)],.i .i64 ((E7 (B9 f).1).2)]) z0)) ?_
 refine sn<|rT<|qR (.tup [.agg [.sl (List.map c46 (E7 (B9 f).1).1.adds),.sl (List.map c3 (E7 (B9 f).1).1.gone.vec),.sl (List.map A9 (E7 (B9 f).1).1.gone.cloud),.sl (List.map c54 (E7 (B9 f).1).1.recs)],.i .i64 ((E7 (B9 f).1).2)]) (B5.tup (ZLe.cons (B5.eq (show AV.agg [AV.sl (List.map c46 (E7 (B9 f).1).1.adds),AV.sl (List.map c3 (E7 (B9 f).1).1.gone.vec),AV.sl (List.map A9 (E7 (B9 f).1).1.gone.cloud),AV.sl (List.map c54 (E7 (B9 f).1).1.recs)]=AV.agg [AV.sl (List.map c46 (N4 f).1.adds),AV.sl (List.map c3 (N4 f).1.gone.vec),AV.sl (List.map A9 (N4 f).1.gone.cloud),AV.sl (List.map c54 (N4 f).1.recs)]from(by rw[K6 (J4 h0),Y3 (A57 (J4 h0)),Ac0 (J4 h0)]))) (ZLe.cons (B5.eq (show AV.i .i64 (E7 (B9 f).1).2=AV.i .i64 (N4 f).2 from(by rw[K6 (J4 h0),Y3 (A57 (J4 h0)),Ac0 (J4 h0)]))) ZLe.nil)))
theorem B85(f:Facts)(d:Dot)(hb:szB 7 f)(h:okF f=true):Con Tryz.prog 145 [.agg (c36 f),.agg (c44 d)] (.agg (L7 (ftF f d))) :=
 by
 refine sC A6 [.cell 4 112] 41 Tryz.func145 ?_
 intro e0 cx
 refine sq<|rG cx [2,3,4] [2,3,4] z0<|sn<|sq<|rG cx [2,3,4,5] [2,3,4,5] z0<|sn<|sq<|rG cx [2,3,4,5,6,7] [2,3,4,5,6] (fT (con95 (f.adds) (d)) (oA 3 (.tup [.agg [.i .i64 ((E6 f.adds d).1.dot.rep),.i .i64 ((E6 f.adds d).1.dot.num),.s ((E6 f.adds d).1.sku),.i .i64 ((E6 f.adds d).1.qty)],.b ((E6 f.adds d).2)]) z0))<|sn<|sq<|sq<|rG cx [2,3,4,5,6,7,17] [2,3,4,5,6] z0<|sn<|P0 ((E6 f.adds d).2) (by kernel_rfl) (by kernel_rfl) (fun h0=>?_) (fun h0=>?_)
 refine rG cx [2,3,4,5,7] [2,3,4,5] (fT (B7k (f.recs) ((E6 f.adds d).1)) (oA 3 (.i .i64 (C4 f.recs (E6 f.adds d).1)) z0))<|sn<|sq<|bL 0<|sq<|rG cx [4,5,7,23] [4,5] (fT (A9e (f.gone) (d)) (oA 3 (.b (C7 f.gone d)) z0))<|sn<|P0 (C7 f.gone d) (by kernel_rfl) (by kernel_rfl) (fun h1=>?_) (fun h1=>?_)
 refine rG cx [4,5] [4,5] z0<|bN<|sn<|sq<|rG cx [4] [4] z0<|sn<|rT<|qR (.agg [.i .i64 (d.rep),.i .i64 (d.num),.i .i64 ((2:Int)),.i .i64 (C4 f.recs (E6 f.adds d).1)]) (.eq (by exact A6b (Ai2 h1) (A88 h0)))
 refine rD cx [4,5,7,29] [4,5] (tT 0 (A15 h0) (zB 4 ((0:Int) < C4 f.recs (E6 f.adds d).1))) (fun h2=>?_) fun h2=>?_
 refine rG cx [4,5] [4,5] z0<|bN<|sn<|sq<|rG cx [4] [4] z0<|sn<|rT<|qR (.agg [.i .i64 (d.rep),.i .i64 (d.num),.i .i64 ((3:Int)),.i .i64 (C4 f.recs (E6 f.adds d).1)]) (.eq (by exact A6b (B84 h1 h0 h2) (A88 h0)))
 refine sq<|rG cx [4,5,37] [4,5] (tT 0 (A15 h0) z0)<|sn<|A6u (by kernel_rfl) (by kernel_rfl)<|rG cx [4,5] [4,5] z0<|bN<|sn<|sq<|rG cx [4] [4] z0<|sn<|rT<|qR (.agg [.i .i64 (d.rep),.i .i64 (d.num),.i .i64 ((1:Int)),.i .i64 (C4 f.recs (E6 f.adds d).1)]) (.eq (by exact A6b (B2m h1 h0 h2) (A88 h0)))
 refine sK<|sn<|sq<|bL 0<|sq<|rG cx [4,5,7,23] [4,5] (fT (A9e (f.gone) (d)) (oA 3 (.b (C7 f.gone d)) z0))<|sn<|P0 (C7 f.gone d) (by kernel_rfl) (by kernel_rfl) (fun h3=>?_) (fun h3=>?_)
 refine rG cx [4,5] [4,5] z0<|bN<|sn<|sq<|rG cx [4] [4] z0<|sn<|rT<|qR (.agg [.i .i64 (d.rep),.i .i64 (d.num),.i .i64 ((2:Int)),.i .i64 ((0:Int))]) (.eq (by exact A6b (Ai2 h3) (B2o h0)))
 refine sq<|rG cx [4,5,7,29] [4,5] (tT 0 (L4 (N2 h0):AV.b (E6 f.adds d).2=AV.b false) z0)<|sn<|L5 (by kernel_rfl) (by kernel_rfl)<|sq<|rG cx [4,5,37] [4,5] (tT 0 (L4 (N2 h0):AV.b (E6 f.adds d).2=AV.b false) z0)<|sn<|L5 (by kernel_rfl) (by kernel_rfl)<|sK<|bN<|sn<|sq<|rG cx [4] [4] z0<|sn<|rT<|qR (.agg [.i .i64 (d.rep),.i .i64 (d.num),.i .i64 ((0:Int)),.i .i64 ((0:Int))]) (.eq (by exact A6b (B2n h3 h0) (B2o h0)))
theorem con66(f:Facts)(d:Dot)(hb:szB 7 f):Con Tryz.prog 66 [.agg (c36 f),.agg (c44 d)] (.tup [.agg (L7 (L3 f d).1),.i .i64 (L3 f d).2]) :=
 by
 have n:¬ A2o f=0→¬ okF f=true:=fun h k=>h (W2.2 k)
 have yd:¬(d.rep < 0∨16≤d.rep∨d.num < 1∨1000000000 < d.num)→I0 d=true:=fun h=>Classical.not_not.1 fun k=>h (Ai1.1 k)
 refine sC A6 [.cell 4 112,.tmp 5] 32 Tryz.func66 ?_
 intro e0 cx
 refine sq<|rG cx [2,3,4] [2,3,4] z0<|sn<|sq<|sq<|rG cx [2,3,4,8] [2,3,4] (fT (Ap0 (f) (by exact hb.1)) (tN 2 (A2o f) (0:Int) (oA 1 (.i .i64 (A2o f)) z0))) ?_
 refine sn<|dC (¬A2o f=0) (fun h0=>?_) fun h0=>?_
 refine sq<|rG cx [4,5] [4] z0<|sn<|rT<|nR<|qR (.tup [.agg [.i .i64 ((0:Int)),.i .i64 ((0:Int)),.i .i64 ((0:Int)),.i .i64 ((0:Int))],.i .i64 ((1:Int))]) (B5.tup (ZLe.cons (B5.eq (show AV.agg [AV.i .i64 (0:Int),AV.i .i64 (0:Int),AV.i .i64 (0:Int),AV.i .i64 (0:Int)]=AV.agg [AV.i .i64 (L3 f d).1.dot.rep,AV.i .i64 (L3 f d).1.dot.num,AV.i .i64 (L3 f d).1.kind,AV.i .i64 (L3 f d).1.recs]from(by rw[Aq1 (n h0)];rfl))) (ZLe.cons (B5.eq (show AV.i .i64 1=AV.i .i64 (L3 f d).2 from(by rw[Aq1 (n h0)]))) ZLe.nil)))
 refine sK<|sn<|sq<|sq<|B1 (σ':=⟨[(2,.ptr (2) (0) (0) (0)),(3,.ptr (3) (0) (0) (0)),(4,.ptr (4) (0) (0) (0)),(27,.b (decide (d.rep <(0:Int)∨16≤d.rep∨d.num <(1:Int)∨(1000000000:Int) < d.num)))],[(2,⟨0,36,.var [.sl (List.map c46 f.adds),.sl (List.map c3 f.gone.vec),.sl (List.map A9 f.gone.cloud),.sl (List.map c54 f.recs)]⟩),(3,⟨0,44,.var [.i .i64 (d.rep),.i .i64 (d.num)]⟩),(4,⟨0,112,.var [.i .i64 ((0:Int)),.i .i64 ((0:Int)),.i .i64 ((0:Int)),.i .i64 ((0:Int))]⟩)]⟩) ?_ ?_
 refine A5 (d.rep <(0:Int)) (fun h_2=>?_) (fun h_2=>?_)
 refine rG cx [2,3,4,27] [2,3,4] (tT 2 (A4 h_2) (tD 17 true (d.rep <(0:Int)∨16≤d.rep∨d.num <(1:Int)∨(1000000000:Int) < d.num) (by simp only [eq_true h_2,tsl]) z0)) ?_
 exact⟨rfl,by kernel_rfl⟩
 refine A5 (16≤d.rep) (fun h_3=>?_) (fun h_3=>?_)
 refine rG cx [2,3,4,27] [2,3,4] (tT 2 (A0 h_2) (tT 6 (A4 h_3) (tD 17 true (d.rep <(0:Int)∨16≤d.rep∨d.num <(1:Int)∨(1000000000:Int) < d.num) (by simp only [eq_false h_2,eq_true h_3,tsl]) z0))) ?_
 exact⟨rfl,by kernel_rfl⟩
 refine A5 (d.num <(1:Int)) (fun h_4=>?_) (fun h_4=>?_)
 refine rG cx [2,3,4,27] [2,3,4] (tT 2 (A0 h_2) (tT 6 (A0 h_3) (tT 11 (A4 h_4) (tD 17 true (d.rep <(0:Int)∨16≤d.rep∨d.num <(1:Int)∨(1000000000:Int) < d.num) (by simp only [eq_false h_2,eq_false h_3,eq_true h_4,tsl]) z0)))) ?_
 exact⟨rfl,by kernel_rfl⟩
 refine rG cx [2,3,4,27] [2,3,4] (tT 2 (A0 h_2) (tT 6 (A0 h_3) (tT 11 (A0 h_4) (tB 16 ((1000000000:Int) < d.num) (tD 17 (decide ((1000000000:Int) < d.num)) (d.rep <(0:Int)∨16≤d.rep∨d.num <(1:Int)∨(1000000000:Int) < d.num) (by simp only [eq_false h_2,eq_false h_3,eq_false h_4,tsl]) z0))))) ?_
 exact⟨rfl,by kernel_rfl⟩
 refine sn<|dC (d.rep <(0:Int)∨16≤d.rep∨d.num <(1:Int)∨(1000000000:Int) < d.num) (fun h5=>?_) fun h5=>?_
 refine sq<|rG cx [4,5] [4] z0<|sn<|rT<|nR<|qR (.tup [.agg [.i .i64 ((0:Int)),.i .i64 ((0:Int)),.i .i64 ((0:Int)),.i .i64 ((0:Int))],.i .i64 ((2:Int))]) (B5.tup (ZLe.cons (B5.eq (show AV.agg [AV.i .i64 (0:Int),AV.i .i64 (0:Int),AV.i .i64 (0:Int),AV.i .i64 (0:Int)]=AV.agg [AV.i .i64 (L3 f d).1.dot.rep,AV.i .i64 (L3 f d).1.dot.num,AV.i .i64 (L3 f d).1.kind,AV.i .i64 (L3 f d).1.recs]from(by rw[A85 (Y2 h0) (Ai1.2 h5)];rfl))) (ZLe.cons (B5.eq (show AV.i .i64 2=AV.i .i64 (L3 f d).2 from(by rw[A85 (Y2 h0) (Ai1.2 h5)]))) ZLe.nil)))
 refine sK<|sn<|sq<|rG cx [4,5] [4] (fT (B85 (f) (d) (by(with_reducible assumption)) (by exact Y2 h0)) (oA 2 (.agg [.i .i64 ((ftF f d).dot.rep),.i .i64 ((ftF f d).dot.num),.i .i64 ((ftF f d).kind),.i .i64 ((ftF f d).recs)]) z0)) ?_
 refine sn<|rT<|qR (.tup [.agg [.i .i64 ((ftF f d).dot.rep),.i .i64 ((ftF f d).dot.num),.i .i64 ((ftF f d).kind),.i .i64 ((ftF f d).recs)],.i .i64 ((0:Int))]) (B5.tup (ZLe.cons (B5.eq (show AV.agg [AV.i .i64 (ftF f d).dot.rep,AV.i .i64 (ftF f d).dot.num,AV.i .i64 (ftF f d).kind,AV.i .i64 (ftF f d).recs]=AV.agg [AV.i .i64 (L3 f d).1.dot.rep,AV.i .i64 (L3 f d).1.dot.num,AV.i .i64 (L3 f d).1.kind,AV.i .i64 (L3 f d).1.recs]from(by rw[Aq2 (Y2 h0) (yd h5)]))) (ZLe.cons (B5.eq (show AV.i .i64 0=AV.i .i64 (L3 f d).2 from(by rw[Aq2 (Y2 h0) (yd h5)]))) ZLe.nil)))
theorem con68(f:Facts)(s:ByteArray)(hb:szB 7 f):Con Tryz.prog 68 [.agg (c36 f),.s s] (.tup [.sl ((W5 f s).1.map L7),.i .i64 (W5 f s).2]) :=
 by
 have n:¬ A2o f=0→¬ okF f=true:=fun h k=>h (W2.2 k)
 have al:¬ ¬ A2o f=0→f.adds.length≤16000000000:=fun h=>A0m (W4 (D7.1 (Y2 h)).1)
 refine sC A6 [.tmp 4,.tmp 5] 35 Tryz.func68 ?_
 intro e0 cx
 refine sq<|rG cx [1,2] [2] z0<|sn<|sq<|sq<|rG cx [1,2,11] [2] (fT (Ap0 (f) (by exact hb.1)) (tN 2 (A2o f) (0:Int) (oA 1 (.i .i64 (A2o f)) z0))) ?_
 refine sn<|dC (¬A2o f=0) (fun hh0=>?_) fun hh0=>?_
 refine sq<|rG cx [4,5] [] z0<|sn<|rT<|nR<|qR (.tup [.nl,.i .i64 ((1:Int))]) (B5.tup (ZLe.cons (B5.nl' (show List.map L7 (W5 f s).1=[]from(by rw[Aq3 (n hh0)];rfl))) (ZLe.cons (B5.eq (show AV.i .i64 1=AV.i .i64 (W5 f s).2 from(by rw[Aq3 (n hh0)]))) ZLe.nil)))
 refine sK<|sn<|sq<|sq<|rG cx [1,2,14] [2] (fT (Am2 (s)) (tT 2 (C3:(AV.b !I2 s)=AV.b (decide ¬I2 s=true)) (oA 1 (.b (I2 s)) z0)))<|sn<|dC (¬I2 s=true) (fun hh1=>?_) fun hh1=>?_
 refine sq<|rG cx [4,5] [] z0<|sn<|rT<|nR<|qR (.tup [.nl,.i .i64 ((5:Int))]) (B5.tup (ZLe.cons (B5.nl' (show List.map L7 (W5 f s).1=[]from(by rw[A86 (Y2 hh0) hh1];rfl))) (ZLe.cons (B5.eq (show AV.i .i64 5=AV.i .i64 (W5 f s).2 from(by rw[A86 (Y2 hh0) hh1]))) ZLe.nil)))
 refine sK<|sn<|sq<|rG cx [1,2,6] [2] z0<|sn<|sq<|sq<|rG cx [1,2,6,16,17,18] [2] (tL 2 c46 f.adds z0)<|sn<|bL 0<|E0 6 1006 112 4 (σ':=⟨[(1,.s (s)),(2,.ptr (2) (0) (0) (0)),(6,.own 1006 0),(16,.sl (List.map c46 f.adds)),(17,.i .i64 ((↑f.adds.length:Int))),(18,.i .i64 ((0:Int)))],[(2,⟨0,36,.var [.sl (List.map c46 f.adds),.sl (List.map c3 f.gone.vec),.sl (List.map A9 f.gone.cloud),.sl (List.map c54 f.recs)]⟩),(1006,⟨0,112,.row 4 (List.map L7 [])⟩)]⟩) (by kernel_rfl)<|sL (X:=Int×List Entry×List Int×List Span×List Record×List Fate) (fun x=>⟨[(1,.s (s)),(2,.ptr (2) (0) (0) (0)),(6,.own 1006 0),(16,.sl (List.map c46 f.adds)),(17,.i .i64 ((↑f.adds.length:Int))),(18,.i .i64 (x.1))],[(2,⟨0,36,.var [.sl (List.map c46 x.2.1),.sl (List.map c3 x.2.2.1),.sl (List.map A9 x.2.2.2.1),.sl (List.map c54 x.2.2.2.2.1)]⟩),(1006,⟨0,112,.row 4 (List.map L7 x.2.2.2.2.2)⟩)]⟩) (fun x ↦ decSy f x.1 x.2.1 x.2.2.1 x.2.2.2.1 x.2.2.2.2.1 x.2.2.2.2.2) (fun x ↦ Ab9 f s x.1 x.2.1 x.2.2.1 x.2.2.2.1 x.2.2.2.2.1 x.2.2.2.2.2) [1,2,6,16,17,18] [2,1006] (((0:Int),f.adds,f.gone.vec,f.gone.cloud,f.recs,[])) (show Ab9 f s (0:Int) f.adds f.gone.vec f.gone.cloud f.recs []from(by exact⟨rfl,rfl,rfl,rfl,by omega,by omega,by simp,by simp⟩)) ?_
 rintro⟨i2,xx3,xx4,x5,x6,o7⟩ h_8
 obtain⟨h9,h10,h11,h12,h13,h14,h15,h16⟩:xx3=f.adds∧xx4=f.gone.vec∧x5=f.gone.cloud∧x6=f.recs∧0≤i2∧i2≤(↑f.adds.length:Int)∧(↑o7.length:Int)≤i2∧o7=List.map (fun e ↦ ftF f e.dot) (List.filter (fun e ↦ decide (e.sku=s)) (List.take i2.toNat f.adds)):=h_8
 refine rE cx [1,2,6,16,17,18,19] [2,1006] (zB 0 (i2 <(↑f.adds.length:Int))) (fun h17=>?_) fun h17=>?_
 refine sK<|sn<|sq<|bL 1<|sq<|rG cx [1,2,6,16,17,18,8] [2,1006,8] (fA (0≤i2) (fG c46 f.adds i2.toNat (fR 4 (fN 4 4 (oR 0 (c46 f.adds[i2.toNat]!) z0)))))<|sn<|sq<|rG cx [1,2,6,16,17,18,8,25] [2,1006,8] (tT 3 (Z1:AV.b (f.adds[i2.toNat]!.sku.toList == s.toList)=AV.b (decide (f.adds[i2.toNat]!.sku=s))) z0)<|sn<|dC (f.adds[i2.toNat]!.sku=s) (fun h18=>?_) fun h18=>?_
 refine rG cx [1,2,6,16,17,18] [2,1006] (fT (B85 ({ adds:=xx3,gone:={ vec:=xx4,cloud:=x5:Past },recs:=x6:Facts }) (f.adds[i2.toNat]!.dot) (by subst h9 h10 h11 h12;exact hb) (by subst h9 h10 h11 h12;exact Y2 hh0)) (fR 112 (fR 4 (fR 4 (fX L7 [ftF { adds:=xx3,gone:={ vec:=xx4,cloud:=x5:Past },recs:=x6:Facts } f.adds[i2.toNat]!.dot] 4 (fP ((List.map L7 o7).length+(List.map L7 [ftF { adds:=xx3,gone:={ vec:=xx4,cloud:=x5:Past },recs:=x6:Facts } f.adds[i2.toNat]!.dot]).length≤maxLen) (by have:=al hh0;simp only [List.length_map,List.length_cons,List.length_nil,Go.maxLen];omega) (fP (((List.map L7 o7).length+(List.map L7 [ftF { adds:=xx3,gone:={ vec:=xx4,cloud:=x5:Past },recs:=x6:Facts } f.adds[i2.toNat]!.dot]).length)*(32:Nat)≤(140737488355328:Nat)) (by have:=al hh0;simp only [List.length_map,List.length_cons,List.length_nil];omega) (fM L7 o7 [ftF { adds:=xx3,gone:={ vec:=xx4,cloud:=x5:Past },recs:=x6:Facts } f.adds[i2.toNat]!.dot] (oA 4 (.agg [.i .i64 ((ftF { adds:=xx3,gone:={ vec:=xx4,cloud:=x5:Past },recs:=x6:Facts } f.adds[i2.toNat]!.dot).dot.rep),.i .i64 ((ftF { adds:=xx3,gone:={ vec:=xx4,cloud:=x5:Past },recs:=x6:Facts } f.adds[i2.toNat]!.dot).dot.num),.i .i64 ((ftF { adds:=xx3,gone:={ vec:=xx4,cloud:=x5:Past },recs:=x6:Facts } f.adds[i2.toNat]!.dot).kind),.i .i64 ((ftF { adds:=xx3,gone:={ vec:=xx4,cloud:=x5:Past },recs:=x6:Facts } f.adds[i2.toNat]!.dot).recs)]) (oV 6 { rows:=some (List.map L7 (o7++[ftF { adds:=xx3,gone:={ vec:=xx4,cloud:=x5:Past },recs:=x6:Facts } f.adds[i2.toNat]!.dot])) } z0)))))))))) ?_
 refine bN<|sn<|rG cx [1,2,6,16,17,18] [2,1006] (tT 0 (B4 (by omega) (by have:=al hh0;omega):AV.i .i64 (IntKind.i64.wrap (i2+1))=AV.i .i64 (i2+1)) z0) ?_
 refine sn<|nX ((i2+1,xx3,xx4,x5,x6,o7++[ftF { adds:=xx3,gone:={ vec:=xx4,cloud:=x5:Past },recs:=x6:Facts } f.adds[i2.toNat]!.dot])) (show((↑f.adds.length:Int)-(i2+1)).toNat <((↑f.adds.length:Int)-i2).toNat from(by omega)) (show Ab9 f s (i2+1) xx3 xx4 x5 x6 (o7++[ftF { adds:=xx3,gone:={ vec:=xx4,cloud:=x5:Past },recs:=x6:Facts } f.adds[i2.toNat]!.dot])from(by subst h9 h10 h11 h12;exact⟨rfl,rfl,rfl,rfl,by omega,by omega,by rw[List.length_append,List.length_singleton];omega,by rw[A87 h13 h17 h16,if_pos h18]⟩))
 refine sK<|bN<|sn<|rG cx [1,2,6,16,17,18] [2,1006] (tT 0 (B4 (by omega) (by have:=al hh0;omega):AV.i .i64 (IntKind.i64.wrap (i2+1))=AV.i .i64 (i2+1)) z0) ?_
 refine sn<|nX ((i2+1,xx3,xx4,x5,x6,o7)) (show((↑f.adds.length:Int)-(i2+1)).toNat <((↑f.adds.length:Int)-i2).toNat from(by omega)) (show Ab9 f s (i2+1) xx3 xx4 x5 x6 o7 from(by subst h9 h10 h11 h12;exact⟨rfl,rfl,rfl,rfl,by omega,by omega,by omega,by rw[A87 h13 h17 h16,if_neg h18,List.append_nil]⟩))
 refine eX 0<|nE<|nE<|bH<|sn<|sq<|rG cx [4,5] [1006] z0<|sn<|rT<|qR (.tup [.sl (List.map L7 o7),.i .i64 ((0:Int))]) (B5.tup (ZLe.cons (B5.eq (show AV.sl (List.map L7 o7)=AV.sl (List.map L7 (W5 f s).1)from(by rw[Aq4 (Y2 hh0) (Classical.not_not.1 hh1),h16,List.take_of_length_le (by omega)]))) (ZLe.cons (B5.eq (show AV.i .i64 0=AV.i .i64 (W5 f s).2 from(by rw[Aq4 (Y2 hh0) (Classical.not_not.1 hh1)]))) ZLe.nil)))
theorem con71(f:Facts)(hb:szB 7 f):Con Tryz.prog 71 [.agg (c36 f)] (.tup [.agg (Bh5 (W6 f).1),.i .i64 (W6 f).2]) :=
 by
 refine sC A6 [.cell 2 120,.tmp 3] 33 Tryz.func71 ?_
 intro e0 cx
 refine sq<|rG cx [1,2] [1,2] z0<|sn<|sq<|rG cx [1,2,4,5] [1,2,4] (fT (B2p (f) (by(with_reducible assumption))) (oA 1 (.tup [.agg [.sl (List.map c46 (B9 f).1.adds),.sl (List.map c3 (B9 f).1.gone.vec),.sl (List.map A9 (B9 f).1.gone.cloud),.sl (List.map c54 (B9 f).1.recs)],.i .i64 ((B9 f).2)]) z0))<|sn<|sq<|sq<|rG cx [1,2,4,5,12] [1,2,4] (tN 1 ((B9 f).2) (0:Int) z0)<|sn<|dC (¬(B9 f).2=0) (fun h0=>?_) fun h0=>?_
 refine sq<|rG cx [2,3] [2] z0<|sn<|rT<|nR<|qR (.tup [.agg [.i .i64 ((0:Int)),.i .i64 ((0:Int)),.i .i64 ((0:Int))],.i .i64 ((B9 f).2)]) (B5.tup (ZLe.cons (B5.eq (show AV.agg [AV.i .i64 (0:Int),AV.i .i64 (0:Int),AV.i .i64 (0:Int)]=AV.agg [AV.i .i64 (W6 f).1.adds,AV.i .i64 (W6 f).1.gone,AV.i .i64 (W6 f).1.recs]from(by rw[Aq0 (W3 h0)];rfl))) (ZLe.cons (B5.eq (show AV.i .i64 (B9 f).2=AV.i .i64 (W6 f).2 from(by rw[Q8 (W3 h0),Aq0 (W3 h0)]))) ZLe.nil)))
 refine sK<|sn<|sq<|rA cx [2,3] [2] (tL 2 c46 f.adds (tL 5 c46 ((B9 f).1.adds) (tT 6 (B4 (by rw[K6 (J4 h0)];have:=Ai0 f;show _≤(f.adds.length:Int)-(A09 f).length;omega) (by have:=A0m (W4 (D7.1 (J4 h0)).1);omega):AV.i .i64 (IntKind.i64.wrap ((↑f.adds.length:Int)-(↑(B9 f).1.adds.length:Int)))=AV.i .i64 ((↑f.adds.length:Int)-(↑(B9 f).1.adds.length:Int))) (fT (con94 (f.gone) (by exact hb.1.1.1)) (tL 12 c54 f.recs (tL 15 c54 ((B9 f).1.recs) (tT 16 (B4 (by rw[K6 (J4 h0)];have:=A0s f.recs (F6 f);show _≤(f.recs.length:Int)-(O2 f.recs (F6 f)).length;omega) (by have:=hb.2.1;omega):AV.i .i64 (IntKind.i64.wrap ((↑f.recs.length:Int)-(↑(B9 f).1.recs.length:Int)))=AV.i .i64 ((↑f.recs.length:Int)-(↑(B9 f).1.recs.length:Int))) (oA 9 (.i .i64 (B8 f.gone)) z0)))))))) ?_
 refine sn<|rT<|qR (.tup [.agg [.i .i64 ((↑f.adds.length:Int)-(↑(B9 f).1.adds.length:Int)),.i .i64 (B8 f.gone),.i .i64 ((↑f.recs.length:Int)-(↑(B9 f).1.recs.length:Int))],.i .i64 ((0:Int))]) (B5.tup (ZLe.cons (B5.eq (show AV.agg [AV.i .i64 ((↑f.adds.length:Int)-(↑(B9 f).1.adds.length:Int)),AV.i .i64 (B8 f.gone),AV.i .i64 ((↑f.recs.length:Int)-(↑(B9 f).1.recs.length:Int))]=AV.agg [AV.i .i64 (W6 f).1.adds,AV.i .i64 (W6 f).1.gone,AV.i .i64 (W6 f).1.recs]from(by rw[Ap9 (J4 h0),K6 (J4 h0)]))) (ZLe.cons (B5.eq (show AV.i .i64 0=AV.i .i64 (W6 f).2 from(by rw[Ap9 (J4 h0)]))) ZLe.nil)))
end Go.Proofs.YtphcaholhacnpaaGreat
namespace Go.Proofs.YtphcaholhacnpaaGreat
open Go.E
set_option maxRecDepth 100000
set_option maxHeartbeats 4000000
theorem A33{f s:Facts}:A2p f s=true↔okF f=true∧stF f=s:=by unfold A2p;rw[Bool.and_eq_true,decide_eq_true_iff]
theorem Be5{f s:Facts}(h:¬(okF f=true∧okS s=true)):A2p f s=false:=Bool.eq_false_iff.2 fun k=>by
 obtain⟨a,b⟩:=A33.1 k
 exact h ⟨a,b ▸ A57 a⟩
theorem B2q{a b:Past}(ha:a=A3 a)(hb:b=A3 b):A8b a b=0↔a=b:=by
 unfold A8b
 constructor
 ·intro h
  by_cases c:B8 (B3 a b)=0∧B8 (B3 b a)=0
  ·exact B4n ha hb fun d=>by
    have h1:=A26.1 c.1 d
    have h2:=A26.1 c.2 d
    exact Bool.eq_iff_iff.2 ⟨h1,h2⟩
  ·rw[if_neg c]at h
   split at h
   ·omega
   ·split at h <;> omega
 ·rintro rfl
  have:B8 (B3 a a)=0:=A26.2 fun d h=>h
  rw[if_pos ⟨this,this⟩]
theorem B2r(a b:List Entry):Con Tryz.prog 137 [.sl (a.map c46),.sl (b.map c46)] (.b (decide (a=b))) :=
 by
 refine lN 0 c46 (a) Tryz.func137 fun hl_0=>lN 1 c46 (b) Tryz.func137 fun hl_1=>sC A6 [.tmp 4] 26 Tryz.func137 ?_
 intro e0 cx
 refine sq<|rG cx [0,1] [] z0<|sn<|sq<|sq<|rG cx [0,1,10] [] (tL 1 c46 a (tL 3 c46 b (tN 4 (↑a.length:Int) (↑b.length:Int) z0)))<|sn<|dC (¬(↑a.length:Int)=(↑b.length:Int)) (fun hh0=>?_) fun hh0=>?_
 refine sq<|rG cx [4] [] z0<|sn<|rT<|nR<|qR (.b (false)) (.eq (by exact(by rw[decide_eq_false (fun k=>hh0 (by rw[k]))])))
 refine sK<|sn<|sq<|sq<|rG cx [0,1,12,13] [] (tL 1 c46 a z0)<|sn<|bL 0<|sL (X:=Int) (fun x=>⟨[(0,.sl (List.map c46 a)),(1,.sl (List.map c46 b)),(12,.i .i64 ((↑a.length:Int))),(13,.i .i64 (x))],[]⟩) (fun x ↦ B9a a b x) (fun x ↦ A4z a b x) [0,1,12,13] [] ((0:Int)) (show A4z a b (0:Int)from(by exact⟨by omega,by omega,by omega,fun j hj=>by omega⟩)) ?_
 intro i1 h_2
 obtain⟨hh3,hh4,hh5,h6⟩:0≤i1∧i1≤(↑a.length:Int)∧a.length=b.length∧∀(j:Nat),(↑j:Int) < i1→a[j]! = b[j]!:=h_2
 refine rE cx [0,1,12,13,14] [] (zB 0 (i1 <(↑a.length:Int))) (fun h7=>?_) fun h7=>?_
 refine sK<|sn<|sq<|bL 1<|sq<|rG cx [0,1,12,13,5] [] z0<|sn<|sq<|rA cx [0,1,12,13,24] [] (fA (0≤i1) (fG c46 a i1.toNat (fR 4 (fN 4 4 (fA (0≤i1) (fG c46 b i1.toNat (fR 4 (fN 4 4 (fT (X5 (eq46 a[i1.toNat]! b[i1.toNat]!)) (oR 2 (c46 a[i1.toNat]!) (oR 6 (c46 b[i1.toNat]!) (oA 8 (.b (decide ¬a[i1.toNat]! = b[i1.toNat]!)) z0))))))))))))<|sn<|dC (¬a[i1.toNat]! = b[i1.toNat]!) (fun h8=>?_) fun h8=>?_
 refine sq<|rG cx [4] [] z0<|sn<|rT<|bR<|nR<|nR<|bR<|nR<|qR (.b (false)) (.eq (by exact(by rw[decide_eq_false (fun k=>h8 (by rw[k]))])))
 refine sK<|bN<|sn<|rG cx [0,1,12,13] [] (tW 0 (i1+1) z0)<|sn<|nX (i1+1) (show((↑a.length:Int)-(i1+1)).toNat <((↑a.length:Int)-i1).toNat from(by omega)) (show A4z a b (i1+1)from ?g3);rotate_left
 refine eX 0<|nE<|nE<|bH<|sn<|sq<|rG cx [4] [] z0<|sn<|rT<|qR (.b (true)) (.eq (by exact(by rw[decide_eq_true (I5 hh5 fun j hj=>h6 j (by omega))])))
 case g3=>revert hh0 i1 hh3 hh4 hh5 h6 h7 h8;exact(fun h i h0 h1 h2 h3 h4 h5=>⟨by omega,by omega,h2,fun j hj=>by
   by_cases e:j=i.toNat
   ·rw[e];exact Classical.not_not.1 h5
   ·exact h3 j (by omega)⟩)
theorem con140(a b:Record)(ha:szR a)(hb:szR b):Con Tryz.prog 140 [.agg (c54 a),.agg (c54 b)] (.b (eqR a b)) :=
 by
 refine sC A6 [.tmp 4] 9 Tryz.func140 ?_
 intro e0 cx
 refine sq<|rG cx [2,3] [2,3] z0<|sn<|sq<|rG cx [4] [] (fT (Am3 (a) (b) (by(with_reducible assumption)) (by(with_reducible assumption))) (tB 3 (D2 a b=0) (oA 2 (.i .i64 (D2 a b)) z0)))<|sn<|rT<|qR (.b (decide (D2 a b=0))) (.eq ?g0);rotate_left
 case g0=>exact rfl
theorem con139(a b:List Record)(ha:T4 a)(hb:T4 b)(hl:a.length≤4611686018427387904):Con Tryz.prog 139 [.sl (a.map c54),.sl (b.map c54),.fn (.func 140) [] []] (.b (decide (a=b))) :=
 by
 have EQ:∀ {i:Int},0≤i→i < a.length→a.length=b.length→(eqR a[i.toNat]! b[i.toNat]! = true↔a[i.toNat]! = b[i.toNat]!):=fun {i} h0 h1 h2=>by
  unfold eqR
  rw[decide_eq_true_iff]
  exact⟨fun h=>A7b (ha _ (Ab8 h0 h1)) (hb _ (Ab8 h0 (by omega))) h,fun h=>by rw[h];exact A2g.self _⟩
 refine lN 0 c54 (a) Tryz.func139 fun hl_0=>lN 1 c54 (b) Tryz.func139 fun hl_1=>sC A6 [.tmp 6] 32 Tryz.func139 ?_
 intro e0 cx
 refine sq<|rG cx [0,1,2] [] z0<|sn<|sq<|sq<|rG cx [0,1,2,14] [] (tL 1 c54 a (tL 3 c54 b (tN 4 (↑a.length:Int) (↑b.length:Int) z0)))<|sn<|dC (¬(↑a.length:Int)=(↑b.length:Int)) (fun hh0=>?_) fun hh0=>?_
 refine sq<|rG cx [6] [] z0<|sn<|rT<|nR<|qR (.b (false)) (.eq (by rw[decide_eq_false (fun k=>hh0 (by rw[k]))]))
 refine sK<|sn<|sq<|sq<|rG cx [1,2,15,16,17] [] (tL 1 c54 a z0)<|sn<|bL 0<|sL (X:=Int) (fun x=>⟨[(1,.sl (List.map c54 b)),(2,.fn (Fn.func (140:FuncId)) [] []),(15,.sl (List.map c54 a)),(16,.i .i64 ((↑a.length:Int))),(17,.i .i64 (x))],[]⟩) (fun x ↦ B9a a b x) (fun x ↦ A4z a b x) [1,2,15,16,17] [] ((0:Int)) (show A4z a b (0:Int)from(by exact⟨by omega,by omega,by omega,fun j hj=>by omega⟩)) ?_
 intro i1 h_2
 obtain⟨hh3,hh4,hh5,h6⟩:0≤i1∧i1≤(↑a.length:Int)∧a.length=b.length∧∀(j:Nat),(↑j:Int) < i1→a[j]! = b[j]!:=h_2
 refine rE cx [1,2,15,16,17,18] [] (zB 0 (i1 <(↑a.length:Int))) (fun h7=>?_) fun h7=>?_
 refine sK<|sn<|sq<|bL 1<|sq<|rG cx [1,2,15,16,17,8,7] [8] (fA (0≤i1) (fG c54 a i1.toNat (fR 3 (fN 3 3 (oR 1 (c54 a[i1.toNat]!) z0)))))<|sn<|sq<|rG cx [1,2,15,16,17,8,9] [8,9] (fA (0≤i1) (fG c54 b i1.toNat (fR 3 (fN 3 3 (oR 2 (c54 b[i1.toNat]!) z0)))))<|sn<|sq<|rG cx [1,2,15,16,17,30] [] (fT (con140 (a[i1.toNat]!) (b[i1.toNat]!) (by exact A7x ha _ (Ab8 hh3 h7)) (by exact A7x hb _ (Ab8 hh3 (by omega)))) (tT 4 (C3:(AV.b !eqR a[i1.toNat]! b[i1.toNat]!)=AV.b (decide ¬eqR a[i1.toNat]! b[i1.toNat]! = true)) (oA 3 (.b (eqR a[i1.toNat]! b[i1.toNat]!)) z0))) ?_
 refine sn<|dC (¬eqR a[i1.toNat]! b[i1.toNat]! = true) (fun h8=>?_) fun h8=>?_
 refine sq<|rG cx [6] [] z0<|sn<|rT<|bR<|nR<|nR<|bR<|nR<|qR (.b (false)) (.eq (by rw[decide_eq_false (fun k=>h8 ((EQ hh3 h7 hh5).2 (by rw[k])))]))
 refine sK<|bN<|sn<|rG cx [1,2,15,16,17] [] (tW 0 (i1+1) z0)<|sn<|nX (i1+1) (show((↑a.length:Int)-(i1+1)).toNat <((↑a.length:Int)-i1).toNat from(by omega)) (show A4z a b (i1+1)from ?g5);rotate_left
 refine eX 0<|nE<|nE<|bH<|sn<|sq<|rG cx [6] [] z0<|sn<|rT<|qR (.b (true)) (.eq (by rw[decide_eq_true (I5 hh5 fun j hj=>h6 j (by omega))]))
 case g5 =>
  refine⟨by omega,by omega,hh5,fun j hj=>?_⟩
  by_cases e:j=i1.toNat
  ·rw[e];exact(EQ hh3 h7 hh5).1 (Classical.not_not.1 h8)
  ·exact h6 j (by omega)
theorem Be6(f s:Facts)(hf:szB 7 f)(hs:szB 7 s):Con Tryz.prog 62 [.agg (c36 f),.agg (c82 s)] (.b (A2p f s)) :=
 by
 have yf:¬(¬(B9 f).2=0∨¬A4t s=0)→okF f=true:=fun h=>J4 fun k=>h (.inl k)
 have ys:¬(¬(B9 f).2=0∨¬A4t s=0)→okS s=true:=fun h=>Y0.1 (Classical.not_not.1 fun k=>h (.inr k))
 have fs:=fun h=>D7.1 (Y1 (A57 (yf h)))
 have ss:=fun h=>D7.1 (Y1 (ys h))
 refine sC A6 [.tmp 4] 39 Tryz.func62 ?_
 intro e0 cx
 refine sq<|rG cx [2,3] [2,3] z0<|sn<|sq<|rG cx [3,5,6] [3,5] (fT (B2p (f) (by(with_reducible assumption))) (oA 1 (.tup [.agg [.sl (List.map c46 (B9 f).1.adds),.sl (List.map c3 (B9 f).1.gone.vec),.sl (List.map A9 (B9 f).1.gone.cloud),.sl (List.map c54 (B9 f).1.recs)],.i .i64 ((B9 f).2)]) z0))<|sn<|sq<|sq<|B1 (σ':=⟨[(3,.ptr (3) (0) (0) (0)),(5,.ptr (5) (0) (0) (0)),(18,.b (decide (¬(B9 f).2=0∨¬A4t s=0)))],[(3,⟨0,82,.var [.sl (List.map c46 s.adds),.sl (List.map c3 s.gone.vec),.sl (List.map A9 s.gone.cloud),.sl (List.map c54 s.recs)]⟩),(5,⟨0,82,.var [.sl (List.map c46 (B9 f).1.adds),.sl (List.map c3 (B9 f).1.gone.vec),.sl (List.map A9 (B9 f).1.gone.cloud),.sl (List.map c54 (B9 f).1.recs)]⟩)]⟩) ?_ ?_
 refine A5 (¬(B9 f).2=0) (fun h_1=>?_) (fun h_1=>?_)
 refine rG cx [3,5,18] [3,5] (tT 1 (H2 h_1:AV.b ((B9 f).2 !=0)=AV.b true) (tD 6 true (¬(B9 f).2=0∨¬A4t s=0) (by simp only [eq_false h_1,tsl]) z0)) ?_
 exact⟨rfl,by kernel_rfl⟩
 refine rG cx [3,5,18] [3,5] (tN 1 ((B9 f).2) (0:Int) (tT 2 (A0 h_1) (fT (B82 (s) (by(with_reducible assumption))) (tN 5 (A4t s) (0:Int) (tT 6 (by first | (simp only [eq_false h_1,tsl];done) | simp_all:AV.b (decide ¬A4t s=0)=AV.b (decide (¬(B9 f).2=0∨¬A4t s=0))) (oA 4 (.i .i64 (A4t s)) z0)))))) ?_
 exact⟨rfl,by kernel_rfl⟩
 refine sn<|dC (¬(B9 f).2=0∨¬A4t s=0) (fun h2=>?_) fun h2=>?_
 refine sq<|rG cx [4] [] z0<|sn<|rT<|nR<|qR (.b (false)) (.eq ?g0);rotate_left
 refine sK<|sn<|sq<|B1 (σ':=⟨[(4,.b (decide ((B9 f).1.adds=s.adds∧A8b (B9 f).1.gone s.gone=0∧(B9 f).1.recs=s.recs)))],[]⟩) ?_ ?_
 refine A5 ((B9 f).1.adds=s.adds) (fun h4=>?_) (fun h4=>?_)
 refine A5 (A8b (B9 f).1.gone s.gone=0) (fun h5=>?_) (fun h5=>?_)
 refine rg (A:=_∧_∧_∧_∧_∧(AV.b (decide ((B9 f).1.recs=s.recs))=AV.b (decide ((B9 f).1.adds=s.adds∧A8b (B9 f).1.gone s.gone=0∧(B9 f).1.recs=s.recs)))) cx [(4,{ val:=some (.b (decide ((B9 f).1.adds=s.adds))),tell:=some (.b (true)) }),(10,{ val:=some (.i .i64 (A8b (B9 f).1.gone s.gone)) }),(11,{ tell:=some (.b (true)) }),(18,{ val:=some (.b (decide ((B9 f).1.recs=s.recs))) }),(20,{ tell:=some (.b (decide ((B9 f).1.adds=s.adds∧A8b (B9 f).1.gone s.gone=0∧(B9 f).1.recs=s.recs))) })] [4] [] ⟨(A4 h4),(B2r ((B9 f).1.adds) (s.adds)),(B7s ((B9 f).1.gone) (s.gone) (by rw[K6 (yf h2)];exact A27 (fs h2).2.1) (by exact A27 (ss h2).2.1)),(A4 h5),(con139 ((B9 f).1.recs) (s.recs) (by rw[K6 (yf h2)];exact A03 (fs h2).2.2) (by exact A03 (ss h2).2.2) (by rw[K6 (yf h2)];have:=A0s f.recs (F6 f);have:=hf.2.1;show(O2 f.recs (F6 f)).length≤_;omega)),(by simp only [eq_true h4,eq_true h5,tsl])⟩ ?_
 exact⟨rfl,by kernel_rfl⟩
 refine rg (A:=_∧_∧_∧_∧(AV.b false=AV.b (decide ((B9 f).1.adds=s.adds∧A8b (B9 f).1.gone s.gone=0∧(B9 f).1.recs=s.recs)))) cx [(4,{ val:=some (.b (decide ((B9 f).1.adds=s.adds))),tell:=some (.b (true)) }),(10,{ val:=some (.i .i64 (A8b (B9 f).1.gone s.gone)) }),(11,{ tell:=some (.b (false)) }),(20,{ tell:=some (.b (decide ((B9 f).1.adds=s.adds∧A8b (B9 f).1.gone s.gone=0∧(B9 f).1.recs=s.recs))) })] [4] [] ⟨(A4 h4),(B2r ((B9 f).1.adds) (s.adds)),(B7s ((B9 f).1.gone) (s.gone) (by rw[K6 (yf h2)];exact A27 (fs h2).2.1) (by exact A27 (ss h2).2.1)),(A0 h5),(by simp only [eq_true h4,eq_false h5,tsl])⟩ ?_
 exact⟨rfl,by kernel_rfl⟩
 refine rg (A:=_∧_∧(AV.b false=AV.b (decide ((B9 f).1.adds=s.adds∧A8b (B9 f).1.gone s.gone=0∧(B9 f).1.recs=s.recs)))) cx [(4,{ val:=some (.b (decide ((B9 f).1.adds=s.adds))),tell:=some (.b (false)) }),(20,{ tell:=some (.b (decide ((B9 f).1.adds=s.adds∧A8b (B9 f).1.gone s.gone=0∧(B9 f).1.recs=s.recs))) })] [4] [] ⟨(A0 h4),(B2r ((B9 f).1.adds) (s.adds)),(by simp only [eq_false h4,tsl])⟩ ?_
 exact⟨rfl,by kernel_rfl⟩
 refine sn<|rT<|qR (.b (decide ((B9 f).1.adds=s.adds∧A8b (B9 f).1.gone s.gone=0∧(B9 f).1.recs=s.recs))) (.eq ?g8);rotate_left
 case g0 =>
  rw[Be5]
  rintro⟨a,b⟩
  rcases h2 with h2 | h2
  ·exact h2 (by rw[K6 a])
  ·exact h2 (Y0.2 b)
 case g8 =>
  refine congrArg AV.b ?_
  rw[K6 (yf h2),Bool.eq_iff_iff,decide_eq_true_iff,A33,B2q (fs h2).2.1 (ss h2).2.1]
  constructor
  ·rintro⟨a,b,c⟩
   refine⟨yf h2,?_⟩
   generalize stF f=x at a b c
   cases x;cases s
   simp only at a b c
   rw[a,b,c]
  ·rintro⟨_,c⟩
   rw[c]
   exact⟨rfl,rfl,rfl⟩
end Go.Proofs.YtphcaholhacnpaaGreat
namespace Go.Proofs.YtphcaholhacnpaaGreat
open Go.E
set_option maxRecDepth 100000
set_option maxHeartbeats 4000000
theorem A6c{f:Facts}(h:szB 1 f):szB 7 f:=B6d h (by decide)
end Go.Proofs.YtphcaholhacnpaaGreat
namespace Go.Proofs.YtphcaholhacnpaaGreat
open Go.E
set_option maxRecDepth 100000
set_option maxHeartbeats 4000000
theorem B86{f:Facts}{n:Nat}(h:szB n f)(k:okF f=true):szB n (stF f) :=
 ⟨A0f (Y1 (A57 k)),Nat.le_trans (A0s f.recs (F6 f)) h.2.1,Nat.le_trans (Ap6 (List.filter_sublist (l:=f.recs))) h.2.2⟩
def B38(f:Facts)(x1:List Entry)(x2:List Int)(x3:List Span)(x4:List Record):Prop:=x1=f.adds∧x2=f.gone.vec∧x3=f.gone.cloud∧x4=f.recs
end Go.Proofs.YtphcaholhacnpaaGreat
namespace Go.Proofs.YtphcaholhacnpaaGreat
open Go.E
set_option maxRecDepth 100000
set_option maxHeartbeats 4000000
def isDt(es:List Entry)(i:Int)(l:List Dot):Prop:=l=(es.take i.toNat).map fun e=>e.dot
def Be7(es:List Entry)(i:Int)(l:List Dot):Prop:=0≤i∧i≤es.length∧(l.length:Int)=i∧isDt es i l
def decDt(es:List Entry)(i:Int)(l:List Dot):Nat:=(es.length-i).toNat
def isS1(s:Facts)(i:Int):Prop:=∀ k:Nat,(k:Int) < i→C7 s.gone s.adds[k]!.dot=true∧C4 s.recs s.adds[k]! = 0
def Be8(s:Facts)(i:Int)(x1:List Entry)(x2:List Int)(x3:List Span)(x4:List Record):Prop:=B38 s x1 x2 x3 x4∧0≤i∧i≤s.adds.length∧isS1 s i
def decS1(s:Facts)(i:Int)(x1:List Entry)(x2:List Int)(x3:List Span)(x4:List Record):Nat:=(s.adds.length-i).toNat
def isS2(s:Facts)(i:Int):Prop:=∀ k:Nat,(k:Int) < i→¬ B8 (B3 s.recs[k]!.past s.gone)=0
def Be9(s:Facts)(i:Int)(x1:List Entry)(x2:List Int)(x3:List Span)(x4:List Record):Prop:=B38 s x1 x2 x3 x4∧0≤i∧i≤s.recs.length∧isS1 s s.adds.length∧isS2 s i
def decS2(s:Facts)(i:Int)(x1:List Entry)(x2:List Int)(x3:List Span)(x4:List Record):Nat:=(s.recs.length-i).toNat
def Bh6(f:Facts)(d:Dot)(i kind recs:Int):Prop:=((∀ k:Nat,(k:Int) < i→¬ f.adds[k]!.dot=d)∧kind=0∧recs=0)∨∃ k:Nat,(k:Int) < i∧f.adds[k]!.dot=d∧recs=C4 f.recs f.adds[k]!∧kind=if 0 < recs then 3 else 1
theorem ent_sz{s:Facts}(h:okF s=true):s.adds.length≤16000000000:=A0m (W4 (D7.1 h).1)
theorem Bf0{s:Facts}{i:Int}(h0:0≤i)(hi:i < s.adds.length)(k:¬ C7 s.gone s.adds[i.toNat]!.dot=true∨0 < C4 s.recs s.adds[i.toNat]!):okS s=false :=
 Bool.eq_false_iff.2 fun c=>by
  have q:=A0r.1 c
  rcases k with k | k
  ·exact k (q.2.1 _ (B83 h0 hi))
  ·have:=q.2.2.2 _ (B83 h0 hi)
   omega
theorem Bf1{s:Facts}{i:Int}(h:okF s=true)(h1:isS1 s s.adds.length)(hi:¬ i < s.recs.length)(h2:isS2 s i):okS s=true:=by
 have ha:∀ e∈s.adds,C7 s.gone e.dot=true∧C4 s.recs e=0:=fun e he=>by
  obtain⟨n,hn,rfl⟩:=List.mem_iff_getElem.1 he
  have:=h1 n (by omega)
  rwa [getElem!_pos s.adds n hn]at this
 have hr:∀ r∈s.recs,¬ B8 (B3 r.past s.gone)=0:=fun r he=>by
  obtain⟨n,hn,rfl⟩:=List.mem_iff_getElem.1 he
  have:=h2 n (by omega)
  rwa [getElem!_pos s.recs n hn]at this
 exact A0r.2 ⟨h,fun e he=>(ha e he).1,hr,fun e he=>(ha e he).2⟩
theorem B87{f:Facts}(h:szL f):szL (stF f):=by
 have h1:=Ai0 f
 have h2:=A0s f.recs (F6 f)
 have h3:=h.1
 have h4:=h.2
 exact⟨by show(A09 f).length*40≤_;omega,by show(O2 f.recs (F6 f)).length*64≤_;omega⟩
theorem A6d(a b:List Entry):Con Tryz.prog 134 [.sl (a.map c46),.sl (b.map c46)] (.b (decide (a=b))) :=
 by
 refine lN 0 c46 (a) Tryz.func134 fun hl_0=>lN 1 c46 (b) Tryz.func134 fun hl_1=>sC A6 [.tmp 4] 26 Tryz.func134 ?_
 intro e0 cx
 refine sq<|rG cx [0,1] [] z0<|sn<|sq<|sq<|rG cx [0,1,10] [] (tL 1 c46 a (tL 3 c46 b (tN 4 (↑a.length:Int) (↑b.length:Int) z0)))<|sn<|dC (¬(↑a.length:Int)=(↑b.length:Int)) (fun hh0=>?_) fun hh0=>?_
 refine sq<|rG cx [4] [] z0<|sn<|rT<|nR<|qR (.b (false)) (.eq (by rw[decide_eq_false (fun k=>hh0 (by rw[k]))]))
 refine sK<|sn<|sq<|sq<|rG cx [0,1,5] [] z0<|sn<|bL 0<|sL (X:=Int) (fun x=>⟨[(0,.sl (List.map c46 a)),(1,.sl (List.map c46 b)),(5,.i .i64 (x))],[]⟩) (fun x ↦ B9a a b x) (fun x ↦ A4z a b x) [0,1,5] [] ((0:Int)) (show A4z a b (0:Int)from(by exact⟨by omega,by omega,by omega,fun j hj=>by omega⟩)) ?_
 intro i1 h_2
 obtain⟨hh3,hh4,hh5,h6⟩:0≤i1∧i1≤(↑a.length:Int)∧a.length=b.length∧∀(j:Nat),(↑j:Int) < i1→a[j]! = b[j]!:=h_2
 refine sq<|rD cx [0,1,5,14] [] (tL 2 c46 a (zB 3 (i1 <(↑a.length:Int)))) (fun h7=>?_) fun h7=>?_
 refine sK<|sn<|sq<|bL 1<|sq<|rA cx [0,1,5,25] [] (fA (0≤i1) (fG c46 a i1.toNat (fR 4 (fN 4 4 (fA (0≤i1) (fG c46 b i1.toNat (fR 4 (fN 4 4 (fT (X5 (eq46 a[i1.toNat]! b[i1.toNat]!)) (oR 2 (c46 a[i1.toNat]!) (oR 6 (c46 b[i1.toNat]!) (oA 8 (.b (decide ¬a[i1.toNat]! = b[i1.toNat]!)) z0))))))))))))<|sn<|dC (¬a[i1.toNat]! = b[i1.toNat]!) (fun h8=>?_) fun h8=>?_
 refine sq<|rG cx [4] [] z0<|sn<|rT<|bR<|nR<|nR<|bR<|nR<|qR (.b (false)) (.eq (by rw[decide_eq_false (fun k=>h8 (by rw[k]))]))
 refine sK<|bN<|sn<|rG cx [0,1,5] [] (tW 1 (i1+1) z0)<|sn<|nX (i1+1) (show((↑a.length:Int)-(i1+1)).toNat <((↑a.length:Int)-i1).toNat from(by omega)) (show A4z a b (i1+1)from ?g3);rotate_left
 refine eX 0<|nE<|nE<|bH<|sn<|sq<|rG cx [4] [] z0<|sn<|rT<|qR (.b (true)) (.eq (by rw[decide_eq_true (I5 hh5 fun j hj=>h6 j (by omega))]))
 case g3 =>
  refine⟨by omega,by omega,hh5,fun j hj=>?_⟩
  by_cases e:j=i1.toNat
  ·rw[e];exact Classical.not_not.1 h8
  ·exact h6 j (by omega)
theorem B88(a b:List Record)(hb:szQ a)(hl:a.length≤4611686018427387904):Con Tryz.prog 135 [.sl (a.map c54),.sl (b.map c54)] (.b (decide (a=b))) :=
 by
 refine lN 0 c54 (a) Tryz.func135 fun hl_0=>lN 1 c54 (b) Tryz.func135 fun hl_1=>sC A6 [.tmp 4] 42 Tryz.func135 ?_
 intro e0 cx
 refine sq<|rG cx [0,1] [] z0<|sn<|sq<|sq<|rG cx [0,1,10] [] (tL 1 c54 a (tL 3 c54 b (tN 4 (↑a.length:Int) (↑b.length:Int) z0)))<|sn<|dC (¬(↑a.length:Int)=(↑b.length:Int)) (fun hh0=>?_) fun hh0=>?_
 refine sq<|rG cx [4] [] z0<|sn<|rT<|nR<|qR (.b (false)) (.eq (by rw[decide_eq_false (fun k=>hh0 (by rw[k]))]))
 refine sK<|sn<|sq<|sq<|rG cx [0,1,5] [] z0<|sn<|bL 0<|sL (X:=Int) (fun x=>⟨[(0,.sl (List.map c54 a)),(1,.sl (List.map c54 b)),(5,.i .i64 (x))],[]⟩) (fun x ↦ B9a a b x) (fun x ↦ A4z a b x) [0,1,5] [] ((0:Int)) (show A4z a b (0:Int)from(by exact⟨by omega,by omega,by omega,fun j hj=>by omega⟩)) ?_
 intro i1 h_2
 obtain⟨hh3,hh4,hh5,h6⟩:0≤i1∧i1≤(↑a.length:Int)∧a.length=b.length∧∀(j:Nat),(↑j:Int) < i1→a[j]! = b[j]!:=h_2
 refine sq<|rD cx [0,1,5,14] [] (tL 2 c54 a (zB 3 (i1 <(↑a.length:Int)))) (fun h7=>?_) fun h7=>?_
 refine sK<|sn<|sq<|bL 1<|sq<|B1 (σ':=⟨[(0,.sl (List.map c54 a)),(1,.sl (List.map c54 b)),(5,.i .i64 (i1)),(41,.b (decide (¬a[i1.toNat]!.sku=b[i1.toNat]!.sku∨¬a[i1.toNat]!.past=b[i1.toNat]!.past)))],[]⟩) ?_ ?_
 refine A5 (¬a[i1.toNat]!.sku=b[i1.toNat]!.sku) (fun h9=>?_) (fun h9=>?_)
 refine rA cx [0,1,5,41] [] (fA (0≤i1) (fG c54 a i1.toNat (fR 3 (fA (0≤i1) (fG c54 b i1.toNat (fR 3 (tT 10 (A19 h9:(AV.b !a[i1.toNat]!.sku.toList == b[i1.toNat]!.sku.toList)=AV.b true) (tD 24 true (¬a[i1.toNat]!.sku=b[i1.toNat]!.sku∨¬a[i1.toNat]!.past=b[i1.toNat]!.past) (by simp only [eq_false h9,tsl]) (oR 2 (c54 a[i1.toNat]!) (oR 7 (c54 b[i1.toNat]!) z0)))))))))) ?_
 exact⟨rfl,by kernel_rfl⟩
 refine rA cx [0,1,5,41] [] (fA (0≤i1) (fG c54 a i1.toNat (fR 3 (fA (0≤i1) (fG c54 b i1.toNat (fR 3 (tT 10 (A2y:(AV.b !a[i1.toNat]!.sku.toList == b[i1.toNat]!.sku.toList)=AV.b (decide ¬a[i1.toNat]!.sku=b[i1.toNat]!.sku)) (tT 11 (A0 h9) (fA (0≤i1) (fG c54 a i1.toNat (fR 3 (fN 2 2 (fA (0≤i1) (fG c54 b i1.toNat (fR 3 (fN 2 2 (fT (Ag2 (a[i1.toNat]!.past) (b[i1.toNat]!.past) (by exact(A67 hb hh3 h7).2) (by have:=(A67 hb hh3 h7).1;omega)) (tQ 23 (a[i1.toNat]!.past=b[i1.toNat]!.past) (tT 24 (by first | (simp only [eq_false h9,tsl];done) | simp_all:AV.b (decide ¬a[i1.toNat]!.past=b[i1.toNat]!.past)=AV.b (decide (¬a[i1.toNat]!.sku=b[i1.toNat]!.sku∨¬a[i1.toNat]!.past=b[i1.toNat]!.past))) (oR 2 (c54 a[i1.toNat]!) (oR 7 (c54 b[i1.toNat]!) (oR 14 (c54 a[i1.toNat]!) (oR 19 (c54 b[i1.toNat]!) (oA 22 (.b (decide (a[i1.toNat]!.past=b[i1.toNat]!.past))) z0)))))))))))))))))))))))) ?_
 exact⟨rfl,by kernel_rfl⟩
 refine sn<|dC (¬a[i1.toNat]!.sku=b[i1.toNat]!.sku∨¬a[i1.toNat]!.past=b[i1.toNat]!.past) (fun h10=>?_) fun h10=>?_
 refine sq<|rG cx [4] [] z0<|sn<|rT<|bR<|nR<|nR<|bR<|nR<|qR (.b (false)) (.eq ?g4);rotate_left
 refine sK<|bN<|sn<|rG cx [0,1,5] [] (tW 1 (i1+1) z0)<|sn<|nX (i1+1) (show((↑a.length:Int)-(i1+1)).toNat <((↑a.length:Int)-i1).toNat from(by omega)) (show A4z a b (i1+1)from ?g5);rotate_left
 refine eX 0<|nE<|nE<|bH<|sn<|sq<|rG cx [4] [] z0<|sn<|rT<|qR (.b (true)) (.eq (by rw[decide_eq_true (I5 hh5 fun j hj=>h6 j (by omega))]))
 case g4 =>
  rw[decide_eq_false (fun k=>by
   rw[k]at h10
   rcases h10 with h10 | h10
   ·exact h10 rfl
   ·exact h10 rfl)]
 case g5 =>
  refine⟨by omega,by omega,hh5,fun j hj=>?_⟩
  by_cases e:j=i1.toNat
  ·rw[e]
   have k1:a[i1.toNat]!.sku=b[i1.toNat]!.sku:=Classical.byContradiction fun k=>h10 (.inl k)
   have k2:a[i1.toNat]!.past=b[i1.toNat]!.past:=Classical.byContradiction fun k=>h10 (.inr k)
   rw[← B24 a[i1.toNat]!,← B24 b[i1.toNat]!,k1,k2]
  ·exact h6 j (by omega)
theorem con61(a b:Facts)(ha:szF a)(hl:a.recs.length≤4611686018427387904):Con Tryz.prog 61 [.agg (c36 a),.agg (c36 b)] (.b (decide (a=b))) :=
 by
 have h1:=ha.1.1
 have h2:=ha.1.2
 refine sC A6 [.tmp 4] 24 Tryz.func61 ?_
 intro e0 cx
 refine sq<|rG cx [2,3] [2,3] z0<|sn<|sq<|B1 (σ':=⟨[(4,.b (decide (a.adds=b.adds∧a.gone=b.gone∧a.recs=b.recs)))],[]⟩) ?_ ?_
 refine A5 (a.adds=b.adds) (fun hh1=>?_) (fun hh1=>?_)
 refine A5 (a.gone=b.gone) (fun hh2=>?_) (fun hh2=>?_)
 refine rg (A:=_∧_∧_∧_∧_∧(AV.b (decide (a.recs=b.recs))=AV.b (decide (a.adds=b.adds∧a.gone=b.gone∧a.recs=b.recs)))) cx [(4,{ val:=some (.b (decide (a.adds=b.adds))),tell:=some (.b (true)) }),(10,{ val:=some (.b (decide (a.gone=b.gone))),tell:=some (.b (true)) }),(17,{ val:=some (.b (decide (a.recs=b.recs))) }),(19,{ tell:=some (.b (decide (a.adds=b.adds∧a.gone=b.gone∧a.recs=b.recs))) })] [4] [] ⟨(A4 hh1),(A6d (a.adds) (b.adds)),(A4 hh2),(Ag2 (a.gone) (b.gone) ?g0 ?g1),(B88 (a.recs) (b.recs) ?g2 (by(with_reducible assumption))),(by simp only [eq_true hh1,eq_true hh2,tsl])⟩ ?_;rotate_left 3
 exact⟨rfl,by kernel_rfl⟩
 refine rg (A:=_∧_∧_∧_∧(AV.b false=AV.b (decide (a.adds=b.adds∧a.gone=b.gone∧a.recs=b.recs)))) cx [(4,{ val:=some (.b (decide (a.adds=b.adds))),tell:=some (.b (true)) }),(10,{ val:=some (.b (decide (a.gone=b.gone))),tell:=some (.b (false)) }),(19,{ tell:=some (.b (decide (a.adds=b.adds∧a.gone=b.gone∧a.recs=b.recs))) })] [4] [] ⟨(A4 hh1),(A6d (a.adds) (b.adds)),(A0 hh2),(Ag2 (a.gone) (b.gone) ?g3 ?g4),(by simp only [eq_true hh1,eq_false hh2,tsl])⟩ ?_;rotate_left 2
 exact⟨rfl,by kernel_rfl⟩
 refine rg (A:=_∧_∧(AV.b false=AV.b (decide (a.adds=b.adds∧a.gone=b.gone∧a.recs=b.recs)))) cx [(4,{ val:=some (.b (decide (a.adds=b.adds))),tell:=some (.b (false)) }),(19,{ tell:=some (.b (decide (a.adds=b.adds∧a.gone=b.gone∧a.recs=b.recs))) })] [4] [] ⟨(A0 hh1),(A6d (a.adds) (b.adds)),(by simp only [eq_false hh1,tsl])⟩ ?_
 exact⟨rfl,by kernel_rfl⟩
 refine sn<|rT<|qR (.b (decide (a.adds=b.adds∧a.gone=b.gone∧a.recs=b.recs))) (.eq ?g5);rotate_left
 revert hh1 hh2;rotate_left
 revert hh1 hh2;rotate_left
 revert hh1 hh2;rotate_left
 revert hh1 hh2;rotate_left
 revert hh1 hh2;rotate_left
 rotate_left
 case g2=>intros;exact ha.2
 case g5=>refine congrArg AV.b (decide_eq_decide.2 ?_);cases a;cases b;simp
 all_goals (intros;omega)
theorem Bf2(a b:Facts)(ha:szF a)(hl:a.recs.length≤4611686018427387904):Con Tryz.prog 58 [.agg (c82 a),.agg (c82 b)] (.b (decide (a=b))) :=
 by
 have h1:=ha.1.1
 have h2:=ha.1.2
 refine sC A6 [.tmp 4] 24 Tryz.func58 ?_
 intro e0 cx
 refine sq<|rG cx [2,3] [2,3] z0<|sn<|sq<|B1 (σ':=⟨[(4,.b (decide (a.adds=b.adds∧a.gone=b.gone∧a.recs=b.recs)))],[]⟩) ?_ ?_
 refine A5 (a.adds=b.adds) (fun hh1=>?_) (fun hh1=>?_)
 refine A5 (a.gone=b.gone) (fun hh2=>?_) (fun hh2=>?_)
 refine rg (A:=_∧_∧_∧_∧_∧(AV.b (decide (a.recs=b.recs))=AV.b (decide (a.adds=b.adds∧a.gone=b.gone∧a.recs=b.recs)))) cx [(4,{ val:=some (.b (decide (a.adds=b.adds))),tell:=some (.b (true)) }),(10,{ val:=some (.b (decide (a.gone=b.gone))),tell:=some (.b (true)) }),(17,{ val:=some (.b (decide (a.recs=b.recs))) }),(19,{ tell:=some (.b (decide (a.adds=b.adds∧a.gone=b.gone∧a.recs=b.recs))) })] [4] [] ⟨(A4 hh1),(A6d (a.adds) (b.adds)),(A4 hh2),(Ag2 (a.gone) (b.gone) ?g0 ?g1),(B88 (a.recs) (b.recs) ?g2 (by(with_reducible assumption))),(by simp only [eq_true hh1,eq_true hh2,tsl])⟩ ?_;rotate_left 3
 exact⟨rfl,by kernel_rfl⟩
 refine rg (A:=_∧_∧_∧_∧(AV.b false=AV.b (decide (a.adds=b.adds∧a.gone=b.gone∧a.recs=b.recs)))) cx [(4,{ val:=some (.b (decide (a.adds=b.adds))),tell:=some (.b (true)) }),(10,{ val:=some (.b (decide (a.gone=b.gone))),tell:=some (.b (false)) }),(19,{ tell:=some (.b (decide (a.adds=b.adds∧a.gone=b.gone∧a.recs=b.recs))) })] [4] [] ⟨(A4 hh1),(A6d (a.adds) (b.adds)),(A0 hh2),(Ag2 (a.gone) (b.gone) ?g3 ?g4),(by simp only [eq_true hh1,eq_false hh2,tsl])⟩ ?_;rotate_left 2
 exact⟨rfl,by kernel_rfl⟩
 refine rg (A:=_∧_∧(AV.b false=AV.b (decide (a.adds=b.adds∧a.gone=b.gone∧a.recs=b.recs)))) cx [(4,{ val:=some (.b (decide (a.adds=b.adds))),tell:=some (.b (false)) }),(19,{ tell:=some (.b (decide (a.adds=b.adds∧a.gone=b.gone∧a.recs=b.recs))) })] [4] [] ⟨(A0 hh1),(A6d (a.adds) (b.adds)),(by simp only [eq_false hh1,tsl])⟩ ?_
 exact⟨rfl,by kernel_rfl⟩
 refine sn<|rT<|qR (.b (decide (a.adds=b.adds∧a.gone=b.gone∧a.recs=b.recs))) (.eq ?g5);rotate_left
 revert hh1 hh2;rotate_left
 revert hh1 hh2;rotate_left
 revert hh1 hh2;rotate_left
 revert hh1 hh2;rotate_left
 revert hh1 hh2;rotate_left
 rotate_left
 case g2=>intros;exact ha.2
 case g5=>refine congrArg AV.b (decide_eq_decide.2 ?_);cases a;cases b;simp
 all_goals (intros;omega)
theorem A4q(f:Facts)(hb:szF f):Con Tryz.prog 132 [.agg (c36 f)] (.b (okF f)) :=
 by
 refine sC A6 [.tmp 2] 17 Tryz.func132 ?_
 intro e0 cx
 refine sq<|rG cx [1] [1] z0<|sn<|sq<|B1 (σ':=⟨[(2,.b (decide (E3 f.adds=0∧f.gone=A3 f.gone∧F0 f.recs=0)))],[]⟩) ?_ ?_
 refine A5 (E3 f.adds=0) (fun h1=>?_) (fun h1=>?_)
 refine A5 (f.gone=A3 f.gone) (fun h2=>?_) (fun h2=>?_)
 refine rg (A:=_∧_∧_∧_∧_∧(AV.b (F0 f.recs ==(0:Int))=AV.b (decide (F0 f.recs=0)))∧(AV.b (decide (F0 f.recs=0))=AV.b (decide (E3 f.adds=0∧f.gone=A3 f.gone∧F0 f.recs=0)))) cx [(2,{ val:=some (.b (decide (E3 f.adds=0))),tell:=some (.b (true)) }),(6,{ val:=some (.b (decide (f.gone=A3 f.gone))),tell:=some (.b (true)) }),(11,{ val:=some (.i .i64 (F0 f.recs)) }),(12,{ tell:=some (.b (decide (F0 f.recs=0))) }),(14,{ tell:=some (.b (decide (E3 f.adds=0∧f.gone=A3 f.gone∧F0 f.recs=0))) })] [2] [] ⟨(A4 h1),(A2j (f.adds)),(A4 h2),(Ag7 (f.gone) ?g0 ?g1),(An8 (f.recs) ?g2),(by kernel_rfl),(by simp only [eq_true h1,eq_true h2,tsl])⟩ ?_;rotate_left 3
 exact⟨rfl,by kernel_rfl⟩
 refine rg (A:=_∧_∧_∧_∧(AV.b false=AV.b (decide (E3 f.adds=0∧f.gone=A3 f.gone∧F0 f.recs=0)))) cx [(2,{ val:=some (.b (decide (E3 f.adds=0))),tell:=some (.b (true)) }),(6,{ val:=some (.b (decide (f.gone=A3 f.gone))),tell:=some (.b (false)) }),(14,{ tell:=some (.b (decide (E3 f.adds=0∧f.gone=A3 f.gone∧F0 f.recs=0))) })] [2] [] ⟨(A4 h1),(A2j (f.adds)),(A0 h2),(Ag7 (f.gone) ?g3 ?g4),(by simp only [eq_true h1,eq_false h2,tsl])⟩ ?_;rotate_left 2
 exact⟨rfl,by kernel_rfl⟩
 refine rg (A:=_∧_∧(AV.b false=AV.b (decide (E3 f.adds=0∧f.gone=A3 f.gone∧F0 f.recs=0)))) cx [(2,{ val:=some (.b (decide (E3 f.adds=0))),tell:=some (.b (false)) }),(14,{ tell:=some (.b (decide (E3 f.adds=0∧f.gone=A3 f.gone∧F0 f.recs=0))) })] [2] [] ⟨(A0 h1),(A2j (f.adds)),(by simp only [eq_false h1,tsl])⟩ ?_
 exact⟨rfl,by kernel_rfl⟩
 refine sn<|rT<|qR (.b (decide (E3 f.adds=0∧f.gone=A3 f.gone∧F0 f.recs=0))) (.eq ?g5);rotate_left
 revert h1 h2;rotate_left
 revert h1 h2;rotate_left
 revert h1 h2;rotate_left
 revert h1 h2;rotate_left
 revert h1 h2;rotate_left
 rotate_left
 case g2=>intros;exact hb.2
 case g5=>rw[B7v]
 all_goals (intros;first | exact hb.1.1 | exact hb.1.2)
theorem B89(es:List Entry)(hs:es.length*40≤140737488351232):Con Tryz.prog 193 [.sl (es.map c46)] (.agg (c26 (I4 es))) :=
 by
 refine lN 0 c46 (es) Tryz.func193 fun hl_0=>sC A6 [.cell 2 26] 21 Tryz.func193 ?_
 intro e0 cx
 refine sq<|rG cx [0,2] [2] z0<|sn<|sq<|rG cx [0,2,3] [2] z0<|sn<|sq<|sq<|rG cx [0,2,3,4] [2] z0<|sn<|bL 0<|E0 3 1003 44 2 (σ':=⟨[(0,.sl (List.map c46 es)),(2,.ptr (2) (0) (0) (0)),(3,.own 1003 0),(4,.i .i64 ((0:Int)))],[(2,⟨0,26,.var [.nl,.nl]⟩),(1003,⟨0,44,.row 2 (List.map c44 [])⟩)]⟩) (by kernel_rfl)<|sL (X:=Int×List Dot) (fun x=>⟨[(0,.sl (List.map c46 es)),(2,.ptr (2) (0) (0) (0)),(3,.own 1003 0),(4,.i .i64 (x.1))],[(2,⟨0,26,.var [.nl,.nl]⟩),(1003,⟨0,44,.row 2 (List.map c44 x.2)⟩)]⟩) (fun x ↦ decDt es x.1 x.2) (fun x ↦ Be7 es x.1 x.2) [0,2,3,4] [2,1003] (((0:Int),[])) (show Be7 es (0:Int) []from(by exact⟨by omega,by omega,by simp,by simp [isDt]⟩)) ?_
 rintro⟨i0,l1⟩ h_2
 obtain⟨hh3,hh4,h5,h6⟩:0≤i0∧i0≤(↑es.length:Int)∧(↑l1.length:Int)=i0∧isDt es i0 l1:=h_2
 refine sq<|rD cx [0,2,3,4,8] [2,1003] (tL 2 c46 es (zB 3 (i0 <(↑es.length:Int)))) (fun h7=>?_) fun h7=>?_
 refine sK<|sn<|sq<|bL 1<|rG cx [0,2,3,4] [2,1003] (fA (0≤i0) (fG c46 es i0.toNat (fR 4 (fN 2 4 (fR 44 (fR 2 (fR 2 (fX c44 [es[i0.toNat]!.dot] 2 (fS c44 l1 c44 [es[i0.toNat]!.dot] (fP (((List.map c44 l1).length+(List.map c44 [es[i0.toNat]!.dot]).length)*(16:Nat)≤(140737488355328:Nat)) (by(simp only [Go.maxLen,List.length_map,List.length_append,List.length_cons,List.length_nil];omega)) (fM c44 l1 [es[i0.toNat]!.dot] (oR 3 (c46 es[i0.toNat]!) (oV 7 { rows:=some (List.map c44 (l1++[es[i0.toNat]!.dot])) } z0)))))))))))))<|bN<|sn<|rG cx [0,2,3,4] [2,1003] (tW 1 (i0+1) z0)<|sn<|nX ((i0+1,l1++[es[i0.toNat]!.dot])) (show((↑es.length:Int)-(i0+1)).toNat <((↑es.length:Int)-i0).toNat from(by omega)) (show Be7 es (i0+1) (l1++[es[i0.toNat]!.dot])from ?g1);rotate_left
 refine eX 0<|nE<|nE<|bH<|sn<|sq<|rG cx [2] [2] (fT (con122 (l1) (by omega)) (oA 1 (.agg [.sl (List.map c3 (E8 (ofT l1)).vec),.sl (List.map A9 (E8 (ofT l1)).cloud)]) z0))<|sn<|rT<|qR (.agg [.sl (List.map c3 (E8 (ofT l1)).vec),.sl (List.map A9 (E8 (ofT l1)).cloud)]) (.eq ?g2);rotate_left
 case g1 =>
  refine⟨by omega,by omega,by rw[List.length_append,List.length_singleton];omega,?_⟩
  unfold isDt at *
  rw[← C8 hh3 h7,List.map_append,h6]
  rfl
 case g2 =>
  unfold isDt at h6
  rw[h6,List.take_of_length_le (by omega)]
  rfl
theorem con190(f:Facts)(hs:f.adds.length*40≤140737488351232)(h:okF f=true):Con Tryz.prog 190 [.agg (c36 f)] (.agg (c26 (F6 f))) :=
 by
 refine sC A6 [.cell 2 26] 10 Tryz.func190 ?_
 intro e0 cx
 refine sq<|rG cx [1,2] [1,2] z0<|sn<|sq<|rA cx [2] [2] (fT (B89 (f.adds) (by(with_reducible assumption))) (fT (con187 ([I4 f.adds,f.gone]) ?g0) (oA 2 (.agg [.sl (List.map c3 (I4 f.adds).vec),.sl (List.map A9 (I4 f.adds).cloud)]) (oA 6 (.agg [.sl (List.map c3 (D1 [I4 f.adds,f.gone]).vec),.sl (List.map A9 (D1 [I4 f.adds,f.gone]).cloud)]) z0)))) ?_;rotate_left
 refine sn<|rT<|qR (.agg [.sl (List.map c3 (D1 [I4 f.adds,f.gone]).vec),.sl (List.map A9 (D1 [I4 f.adds,f.gone]).cloud)]) (.eq ?g1);rotate_left
 case g0=>exact Be2 h
 case g1=>rfl
theorem con229(f:Facts)(e:Entry)(hb:szF f):Con Tryz.prog 229 [.agg (c36 f),.agg (c46 e)] (.b (decide (¬ C7 f.gone e.dot=true∧C4 f.recs e=0))) :=
 by
 have h1:=hb.1.1
 refine sC A6 [.tmp 4] 18 Tryz.func229 ?_
 intro e0 cx
 refine sq<|rG cx [2,3] [2,3] z0<|sn<|sq<|B1 (σ':=⟨[(4,.b (decide (¬C7 f.gone e.dot=true∧C4 f.recs e=0)))],[]⟩) ?_ ?_
 refine A5 (¬C7 f.gone e.dot=true) (fun hh1=>?_) (fun hh1=>?_)
 refine rg (A:=(AV.b (C7 f.gone e.dot)=AV.b false)∧_∧_∧(AV.b (C4 f.recs e ==(0:Int))=AV.b (decide (C4 f.recs e=0)))∧(AV.b (decide (C4 f.recs e=0))=AV.b (decide (¬C7 f.gone e.dot=true∧C4 f.recs e=0)))) cx [(4,{ val:=some (.b (C7 f.gone e.dot)),tell:=some (.b (false)) }),(10,{ val:=some (.i .i64 (C4 f.recs e)) }),(11,{ tell:=some (.b (decide (C4 f.recs e=0))) }),(13,{ tell:=some (.b (decide (¬C7 f.gone e.dot=true∧C4 f.recs e=0))) })] [4] [] ⟨(L4 hh1),(Ag1 (f.gone) (e.dot) ?g0),(B27 (f.recs) (e) ?g1),(by kernel_rfl),(by simp only [eq_false hh1,tsl])⟩ ?_;rotate_left 2
 exact⟨rfl,by kernel_rfl⟩
 refine rG cx [4] [] (fT (Ag1 (f.gone) (e.dot) ?g2) (tT 5 (C3:(AV.b !C7 f.gone e.dot)=AV.b (decide ¬C7 f.gone e.dot=true)) (tT 6 (A0 hh1) (tT 13 (by first | (simp only [eq_false hh1,tsl];done) | simp_all:AV.b false=AV.b (decide (¬C7 f.gone e.dot=true∧C4 f.recs e=0))) (oA 4 (.b (C7 f.gone e.dot)) z0))))) ?_;rotate_left
 exact⟨rfl,by kernel_rfl⟩
 refine sn<|rT ?_
 exact A3h (r:=.b (decide (¬C7 f.gone e.dot=true∧C4 f.recs e=0))) (obl:=[]) (by kernel_rfl) trivial (B5.refl _)
 revert hh1;rotate_left
 revert hh1;rotate_left
 revert hh1;rotate_left
 case g1=>intros;exact A55 hb.2
 all_goals (intros;omega)
theorem con192(f:Facts)(hb:szF f)(hs:f.adds.length*40≤140737488351232):Con Tryz.prog 192 [.agg (c36 f)] (.sl ((A09 f).map c46)) :=
 by
 have NB:∀ {x:Dot},(¬ C7 f.gone x=true)=(C7 f.gone x=false):=fun {x}=>by rw[Bool.not_eq_true]
 refine sC A6 [.tmp 2] 28 Tryz.func192 ?_
 intro e0 cx
 refine sq<|rG cx [1] [1] z0<|sn<|sq<|rG cx [1,3] [1] z0<|sn<|sq<|sq<|rG cx [1,3,4] [1] z0<|sn<|bL 0<|E0 3 1003 46 4 (σ':=⟨[(1,.ptr (1) (0) (0) (0)),(3,.own 1003 0),(4,.i .i64 ((0:Int)))],[(1,⟨0,36,.var [.sl (List.map c46 f.adds),.sl (List.map c3 f.gone.vec),.sl (List.map A9 f.gone.cloud),.sl (List.map c54 f.recs)]⟩),(1003,⟨0,46,.row 4 (List.map c46 [])⟩)]⟩) (by kernel_rfl)<|sL (X:=Int×List Entry×List Int×List Span×List Record×List Entry) (fun x=>⟨[(1,.ptr (1) (0) (0) (0)),(3,.own 1003 0),(4,.i .i64 (x.1))],[(1,⟨0,36,.var [.sl (List.map c46 x.2.1),.sl (List.map c3 x.2.2.1),.sl (List.map A9 x.2.2.2.1),.sl (List.map c54 x.2.2.2.2.1)]⟩),(1003,⟨0,46,.row 4 (List.map c46 x.2.2.2.2.2)⟩)]⟩) (fun x ↦ decL1 f x.1 x.2.1 x.2.2.1 x.2.2.2.1 x.2.2.2.2.1 x.2.2.2.2.2) (fun x ↦ B6k f x.1 x.2.1 x.2.2.1 x.2.2.2.1 x.2.2.2.2.1 x.2.2.2.2.2) [1,3,4] [1,1003] (((0:Int),f.adds,f.gone.vec,f.gone.cloud,f.recs,[])) (show B6k f (0:Int) f.adds f.gone.vec f.gone.cloud f.recs []from(by exact⟨rfl,rfl,rfl,rfl,by omega,by omega,by simp,by simp [Bd8]⟩)) ?_
 rintro⟨i0,xx1,xx2,xx3,xx4,o5⟩ h_6
 obtain⟨h7,h8,h9,h10,h11,h12,h13,h14⟩:xx1=f.adds∧xx2=f.gone.vec∧xx3=f.gone.cloud∧xx4=f.recs∧0≤i0∧i0≤(↑f.adds.length:Int)∧(↑o5.length:Int)≤i0∧Bd8 f i0 o5:=h_6
 refine sq<|rD cx [1,3,4,9] [1,1003] (tL 3 c46 xx1 (zB 4 (i0 <(↑xx1.length:Int)))) (fun h15=>?_) fun h15=>?_
 refine sK<|sn<|sq<|bL 1<|sq<|rA cx [1,3,4,18] [1,1003] (fA (0≤i0) (fG c46 xx1 i0.toNat (fR 4 (fN 4 4 (fT (con229 ({ adds:=xx1,gone:={ vec:=xx2,cloud:=xx3:Past },recs:=xx4:Facts }) (xx1[i0.toNat]!) (by subst h7 h8 h9 h10;exact hb)) (oR 4 (c46 xx1[i0.toNat]!) (oA 6 (.b (decide (¬C7 { adds:=xx1,gone:={ vec:=xx2,cloud:=xx3:Past },recs:=xx4:Facts }.gone xx1[i0.toNat]!.dot=true∧C4 { adds:=xx1,gone:={ vec:=xx2,cloud:=xx3:Past },recs:=xx4:Facts }.recs xx1[i0.toNat]! =(0:Int)))) z0))))))) ?_
 refine sn<|dC (¬C7 { adds:=xx1,gone:={ vec:=xx2,cloud:=xx3:Past },recs:=xx4:Facts }.gone xx1[i0.toNat]!.dot=true∧C4 { adds:=xx1,gone:={ vec:=xx2,cloud:=xx3:Past },recs:=xx4:Facts }.recs xx1[i0.toNat]! =(0:Int)) (fun h16=>?_) fun h16=>?_
 refine rG cx [1,3,4] [1,1003] (fA (0≤i0) (fG c46 xx1 i0.toNat (fR 4 (fN 4 4 (fR 46 (fR 4 (fR 4 (fX c46 [xx1[i0.toNat]!] 4 (fS c46 o5 c46 [xx1[i0.toNat]!] (fP (((List.map c46 o5).length+(List.map c46 [xx1[i0.toNat]!]).length)*(40:Nat)≤(140737488355328:Nat)) (by(simp only [Go.maxLen,List.length_map,List.length_append,List.length_cons,List.length_nil];omega)) (fM c46 o5 [xx1[i0.toNat]!] (oR 4 (c46 xx1[i0.toNat]!) (oV 7 { rows:=some (List.map c46 (o5++[xx1[i0.toNat]!])) } z0)))))))))))))<|bN<|sn<|rG cx [1,3,4] [1,1003] (tW 1 (i0+1) z0)<|sn<|nX ((i0+1,xx1,xx2,xx3,xx4,o5++[xx1[i0.toNat]!])) (show((↑f.adds.length:Int)-(i0+1)).toNat <((↑f.adds.length:Int)-i0).toNat from(by subst h7;omega)) (show B6k f (i0+1) xx1 xx2 xx3 xx4 (o5++[xx1[i0.toNat]!])from ?g3);rotate_left
 refine sK<|bN<|sn<|rG cx [1,3,4] [1,1003] (tW 1 (i0+1) z0)<|sn<|nX ((i0+1,xx1,xx2,xx3,xx4,o5)) (show((↑f.adds.length:Int)-(i0+1)).toNat <((↑f.adds.length:Int)-i0).toNat from(by subst h7;omega)) (show B6k f (i0+1) xx1 xx2 xx3 xx4 o5 from ?g5);rotate_left
 refine eX 0<|nE<|nE<|bH<|sn<|sq<|rG cx [2] [1003] z0<|sn<|rT<|qR (.sl (List.map c46 o5)) (.eq ?g6);rotate_left
 case g3 =>
  subst h7 h8 h9 h10
  refine⟨rfl,rfl,rfl,rfl,by omega,by omega,by rw[List.length_append,List.length_singleton];omega,?_⟩
  unfold Bd8
  rw[B2l h11 h15 h14,if_pos (NB ▸ h16)]
 case g5 =>
  subst h7 h8 h9 h10
  refine⟨rfl,rfl,rfl,rfl,by omega,by omega,by omega,?_⟩
  unfold Bd8
  rw[B2l h11 h15 h14,if_neg (NB ▸ h16),List.append_nil]
 case g6 =>
  subst h7
  unfold Bd8 at h14
  rw[h14,List.take_of_length_le (by omega)]
  rfl
theorem Aq5(f:Facts)(hb:szF f)(hl:szL f)(h:okF f=true):Con Tryz.prog 133 [.agg (c36 f)] (.agg (c82 (stF f))) :=
 by
 refine sC A6 [.cell 2 82] 20 Tryz.func133 ?_
 intro e0 cx
 refine sq<|rG cx [1,2] [1,2] z0<|sn<|sq<|rG cx [1,2,3] [1,2,3] (fT (con190 (f) ?g0 (by with_reducible assumption)) (oA 1 (.agg [.sl (List.map c3 (F6 f).vec),.sl (List.map A9 (F6 f).cloud)]) z0)) ?_;rotate_left
 refine sn<|sq<|rG cx [1,2,3,4] [1,2,3] (fT (con191 (f.recs) (F6 f) ?g1 ?g2 ?g3) (oA 3 (.tup [.sl (List.map c54 (K0 f.recs (F6 f)).1),.i .i64 ((K0 f.recs (F6 f)).2)]) z0)) ?_;rotate_left 3
 refine sn<|sq<|rA cx [2] [2] (fT (con192 (f) (by(with_reducible assumption)) ?g4) (oA 1 (.sl (List.map c46 (A09 f))) z0)) ?_;rotate_left
 refine sn<|rT<|qR (.agg [.sl (List.map c46 (A09 f)),.sl (List.map c3 (F6 f).vec),.sl (List.map A9 (F6 f).cloud),.sl (List.map c54 (K0 f.recs (F6 f)).1)]) (.eq ?g5);rotate_left
 case g0=>exact hl.1
 case g1=>exact hb.2
 case g2=>exact hl.2
 case g3=>exact A84 (T5 f)
 case g4=>exact hl.1
 case g5=>rw[A0p (D7.1 h).2.2 (T5 f)];rfl
theorem con57(f:Facts)(hb:szF f)(hl:szL f):Con Tryz.prog 57 [.agg (c36 f)] (.tup [.agg (c82 (B9 f).1),.i .i64 (B9 f).2]) :=
 by
 refine sC A6 [.cell 2 82,.tmp 3] 10 Tryz.func57 ?_
 intro e0 cx
 refine sq<|rG cx [1,2] [1,2] z0<|sn<|sq<|sq<|rG cx [1,2,6] [1,2] (fT (A4q (f) (by(with_reducible assumption))) (tT 2 (C3:(AV.b !okF f)=AV.b (decide ¬okF f=true)) (oA 1 (.b (okF f)) z0)))<|sn<|dC (¬okF f=true) (fun h0=>?_) fun h0=>?_
 refine sq<|rG cx [2,3] [2] z0<|sn<|rT<|nR<|qR (.tup [.agg [.nl,.nl,.nl,.nl],.i .i64 ((1:Int))]) (B5.tup (ZLe.cons (B5.agg (ZLe.cons (B5.nl' (show List.map c46 (B9 f).1.adds=[]from(by rw[Q8 h0];rfl))) (ZLe.cons (B5.nl' (show List.map c3 (B9 f).1.gone.vec=[]from(by rw[Q8 h0];rfl))) (ZLe.cons (B5.nl' (show List.map A9 (B9 f).1.gone.cloud=[]from(by rw[Q8 h0];rfl))) (ZLe.cons (B5.nl' (show List.map c54 (B9 f).1.recs=[]from(by rw[Q8 h0];rfl))) ZLe.nil))))) (ZLe.cons (B5.eq (show AV.i .i64 1=AV.i .i64 (B9 f).2 from(by rw[Q8 h0]))) ZLe.nil)))
 refine sK<|sn<|sq<|rG cx [2,3] [2] (fT (Aq5 (f) (by(with_reducible assumption)) (by(with_reducible assumption)) (by exact Classical.not_not.1 h0)) (oA 1 (.agg [.sl (List.map c46 (stF f).adds),.sl (List.map c3 (stF f).gone.vec),.sl (List.map A9 (stF f).gone.cloud),.sl (List.map c54 (stF f).recs)]) z0)) ?_
 refine sn<|rT<|qR (.tup [.agg [.sl (List.map c46 (stF f).adds),.sl (List.map c3 (stF f).gone.vec),.sl (List.map A9 (stF f).gone.cloud),.sl (List.map c54 (stF f).recs)],.i .i64 ((0:Int))]) (B5.tup (ZLe.cons (B5.eq (show AV.agg [AV.sl (List.map c46 (stF f).adds),AV.sl (List.map c3 (stF f).gone.vec),AV.sl (List.map A9 (stF f).gone.cloud),AV.sl (List.map c54 (stF f).recs)]=AV.agg [AV.sl (List.map c46 (B9 f).1.adds),AV.sl (List.map c3 (B9 f).1.gone.vec),AV.sl (List.map A9 (B9 f).1.gone.cloud),AV.sl (List.map c54 (B9 f).1.recs)]from(by rw[K6 (Classical.not_not.1 h0)]))) (ZLe.cons (B5.eq (show AV.i .i64 0=AV.i .i64 (B9 f).2 from(by rw[K6 (Classical.not_not.1 h0)]))) ZLe.nil)))
theorem con144(s:Facts)(hb:szF s)(hl:szL s):Con Tryz.prog 144 [.agg (c82 s)] (.b (okS s)) :=
 by
 have q1:=hb.1.1
 have q2:=hl.1
 have q3:=hl.2
 refine sC A6 [.tmp 2] 65 Tryz.func144 ?_
 intro e0 cx
 refine sq<|rG cx [1] [1] z0<|sn<|sq<|sq<|B1 (σ':=⟨[(1,.ptr (1) (0) (0) (0)),(20,.b (decide (¬E3 s.adds=0∨¬s.gone=A3 s.gone∨¬F0 s.recs=0)))],[(1,⟨0,82,.var [.sl (List.map c46 s.adds),.sl (List.map c3 s.gone.vec),.sl (List.map A9 s.gone.cloud),.sl (List.map c54 s.recs)]⟩)]⟩) ?_ ?_
 refine A5 (¬E3 s.adds=0) (fun hh1=>?_) (fun hh1=>?_)
 refine rg (A:=_∧_∧(AV.b true=AV.b (decide (¬E3 s.adds=0∨¬s.gone=A3 s.gone∨¬F0 s.recs=0)))) cx [(2,{ val:=some (.b (decide (E3 s.adds=0))),tell:=some (.b (false)) }),(15,{ tell:=some (.b (decide (¬E3 s.adds=0∨¬s.gone=A3 s.gone∨¬F0 s.recs=0))) })] [1,20] [1] ⟨(A0 hh1),(A2j (s.adds)),(by simp only [eq_false hh1,tsl])⟩ ?_
 exact⟨rfl,by kernel_rfl⟩
 refine A5 (¬s.gone=A3 s.gone) (fun hh2=>?_) (fun hh2=>?_)
 refine rg (A:=_∧((AV.b !decide (E3 s.adds=0))=AV.b (decide ¬E3 s.adds=0))∧_∧_∧_∧(AV.b true=AV.b (decide (¬E3 s.adds=0∨¬s.gone=A3 s.gone∨¬F0 s.recs=0)))) cx [(2,{ val:=some (resC (A2j (s.adds))) }),(3,{ tell:=some (.b (decide ¬E3 s.adds=0)) }),(4,{ tell:=some (.b (false)) }),(7,{ val:=some (.b (decide (s.gone=A3 s.gone))),tell:=some (.b (false)) }),(15,{ tell:=some (.b (decide (¬E3 s.adds=0∨¬s.gone=A3 s.gone∨¬F0 s.recs=0))) })] [1,20] [1] ⟨(A2j (s.adds)),(A92),(A0 hh1),(A0 hh2),(Ag7 (s.gone) (by exact hb.1.1) (by exact hb.1.2)),(by first | (simp only [eq_false hh1,eq_false hh2,tsl];done) | simp_all)⟩ ?_
 exact⟨rfl,by kernel_rfl⟩
 refine rG cx [1,20] [1] (fT (A2j (s.adds)) (tQ 3 (E3 s.adds=0) (tT 4 (A0 hh1) (fT (Ag7 (s.gone) (by exact hb.1.1) (by exact hb.1.2)) (tQ 8 (s.gone=A3 s.gone) (tT 9 (A0 hh2) (fT (An8 (s.recs) (by exact hb.2)) (tN 14 (F0 s.recs) (0:Int) (tT 15 (by first | (simp only [eq_false hh1,eq_false hh2,tsl];done) | simp_all:AV.b (decide ¬F0 s.recs=0)=AV.b (decide (¬E3 s.adds=0∨¬s.gone=A3 s.gone∨¬F0 s.recs=0))) (oA 2 (resC (A2j (s.adds))) (oA 7 (.b (decide (s.gone=A3 s.gone))) (oA 13 (.i .i64 (F0 s.recs)) z0)))))))))))) ?_
 exact⟨rfl,by kernel_rfl⟩
 refine sn<|dC (¬E3 s.adds=0∨¬s.gone=A3 s.gone∨¬F0 s.recs=0) (fun hh3=>?_) fun hh3=>?_
 refine sq<|rG cx [2] [] z0<|sn<|rT<|nR<|qR (.b (false)) (.eq (by rw[Bd9 hh3]))
 refine sK<|sn<|sq<|sq<|rG cx [1,3] [1] z0<|sn<|bL 0<|sL (X:=Int×List Entry×List Int×List Span×List Record) (fun x=>⟨[(1,.ptr (1) (0) (0) (0)),(3,.i .i64 (x.1))],[(1,⟨0,82,.var [.sl (List.map c46 x.2.1),.sl (List.map c3 x.2.2.1),.sl (List.map A9 x.2.2.2.1),.sl (List.map c54 x.2.2.2.2)]⟩)]⟩) (fun x ↦ decS1 s x.1 x.2.1 x.2.2.1 x.2.2.2.1 x.2.2.2.2) (fun x ↦ Be8 s x.1 x.2.1 x.2.2.1 x.2.2.2.1 x.2.2.2.2) [1,3] [1] (((0:Int),s.adds,s.gone.vec,s.gone.cloud,s.recs)) (show Be8 s (0:Int) s.adds s.gone.vec s.gone.cloud s.recs from(by exact⟨⟨rfl,rfl,rfl,rfl⟩,by omega,by omega,fun k hk=>by omega⟩)) ?_
 rintro⟨i4,x5,x6,x7,x8⟩ h_9
 obtain⟨h10,h11,h12,h13⟩:B38 s x5 x6 x7 x8∧0≤i4∧i4≤(↑s.adds.length:Int)∧isS1 s i4:=h_9
 refine sq<|rD cx [1,3,25] [1] (tL 3 c46 x5 (zB 4 (i4 <(↑x5.length:Int)))) (fun h14=>?_) fun h14=>?_
 refine sK<|sn<|sq<|bL 1<|sq<|B1 (σ':=⟨[(1,.ptr (1) (0) (0) (0)),(3,.i .i64 (i4)),(48,.b (decide (¬C7 { vec:=x6,cloud:=x7:Past } x5[i4.toNat]!.dot=true∨(0:Int) < C4 x8 x5[i4.toNat]!)))],[(1,⟨0,82,.var [.sl (List.map c46 x5),.sl (List.map c3 x6),.sl (List.map A9 x7),.sl (List.map c54 x8)]⟩)]⟩) ?_ ?_
 refine A5 (¬C7 { vec:=x6,cloud:=x7:Past } x5[i4.toNat]!.dot=true) (fun h16=>?_) (fun h16=>?_)
 refine ra (A:=(0≤i4)∧((List.map c46 x5)[i4.toNat]?=some (c46 x5[i4.toNat]!))∧((c46 x5[i4.toNat]!).length=(4:Nat))∧((2:Nat)≤[AV.i .i64 x5[i4.toNat]!.dot.rep,AV.i .i64 x5[i4.toNat]!.dot.num,AV.s x5[i4.toNat]!.sku,AV.i .i64 x5[i4.toNat]!.qty].length)∧(AV.b (C7 { vec:=x6,cloud:=x7:Past } x5[i4.toNat]!.dot)=AV.b false)∧_∧(AV.b true=AV.b (decide (¬C7 { vec:=x6,cloud:=x7:Past } x5[i4.toNat]!.dot=true∨(0:Int) < C4 x8 x5[i4.toNat]!)))) cx [(5,{ row:=(c46 x5[i4.toNat]!) }),(8,{ val:=some (.b (C7 { vec:=x6,cloud:=x7:Past } x5[i4.toNat]!.dot)),tell:=some (.b (false)) }),(20,{ tell:=some (.b (decide (¬C7 { vec:=x6,cloud:=x7:Past } x5[i4.toNat]!.dot=true∨(0:Int) < C4 x8 x5[i4.toNat]!))) })] [1,3,48] [1] ⟨(by(with_reducible assumption)),(by(with_reducible refine F3 ?_;omega)),(by kernel_rfl),(by(simp only [List.length_append,List.length_cons,List.length_nil];omega)),(L4 h16),(Ag1 ({ vec:=x6,cloud:=x7:Past }) (x5[i4.toNat]!.dot) ?g7),(by simp only [eq_false h16,tsl])⟩ ?_;rotate_left
 exact⟨rfl,by kernel_rfl⟩
 refine rA cx [1,3,48] [1] (fA (0≤i4) (fG c46 x5 i4.toNat (fR 4 (fN 2 4 (fT (Ag1 ({ vec:=x6,cloud:=x7:Past }) (x5[i4.toNat]!.dot) ?g8) (tT 9 (C3:(AV.b !C7 { vec:=x6,cloud:=x7:Past } x5[i4.toNat]!.dot)=AV.b (decide ¬C7 { vec:=x6,cloud:=x7:Past } x5[i4.toNat]!.dot=true)) (tT 10 (A0 h16) (fA (0≤i4) (fG c46 x5 i4.toNat (fR 4 (fN 4 4 (fT (B27 (x8) (x5[i4.toNat]!) ?g9) (tB 19 ((0:Int) < C4 x8 x5[i4.toNat]!) (tT 20 (by first | (simp only [eq_false h16,tsl];done) | simp_all:AV.b (decide ((0:Int) < C4 x8 x5[i4.toNat]!))=AV.b (decide (¬C7 { vec:=x6,cloud:=x7:Past } x5[i4.toNat]!.dot=true∨(0:Int) < C4 x8 x5[i4.toNat]!))) (oR 5 (c46 x5[i4.toNat]!) (oA 8 (.b (C7 { vec:=x6,cloud:=x7:Past } x5[i4.toNat]!.dot)) (oR 16 (c46 x5[i4.toNat]!) (oA 18 (.i .i64 (C4 x8 x5[i4.toNat]!)) z0)))))))))))))))))) ?_;rotate_left 2
 exact⟨rfl,by kernel_rfl⟩
 refine sn<|dC (¬C7 { vec:=x6,cloud:=x7:Past } x5[i4.toNat]!.dot=true∨(0:Int) < C4 x8 x5[i4.toNat]!) (fun h17=>?_) fun h17=>?_
 refine sq<|rG cx [2] [] z0<|sn<|rT<|bR<|nR<|nR<|bR<|nR<|qR (.b (false)) (.eq (by obtain⟨rfl,rfl,rfl,rfl⟩:=h10;rw[Bf0 h11 h14 h17]))
 refine sK<|bN<|sn<|rG cx [1,3] [1] (tT 1 (B4 (by omega) (by obtain⟨rfl,rfl,rfl,rfl⟩:=h10;omega):AV.i .i64 (IntKind.i64.wrap (i4+1))=AV.i .i64 (i4+1)) z0) ?_
 refine sn<|nX ((i4+1,x5,x6,x7,x8)) (show((↑s.adds.length:Int)-(i4+1)).toNat <((↑s.adds.length:Int)-i4).toNat from(by obtain⟨rfl,rfl,rfl,rfl⟩:=h10;omega)) (show Be8 s (i4+1) x5 x6 x7 x8 from ?g13);rotate_left
 refine eX 0<|nE<|nE<|bH<|sn<|sq<|sq<|rG cx [1,4] [1] z0<|sn<|bL 2<|sL (X:=Int×List Entry×List Int×List Span×List Record) (fun x=>⟨[(1,.ptr (1) (0) (0) (0)),(4,.i .i64 (x.1))],[(1,⟨0,82,.var [.sl (List.map c46 x.2.1),.sl (List.map c3 x.2.2.1),.sl (List.map A9 x.2.2.2.1),.sl (List.map c54 x.2.2.2.2)]⟩)]⟩) (fun x ↦ decS2 s x.1 x.2.1 x.2.2.1 x.2.2.2.1 x.2.2.2.2) (fun x ↦ Be9 s x.1 x.2.1 x.2.2.1 x.2.2.2.1 x.2.2.2.2) [1,4] [1] (((0:Int),x5,x6,x7,x8)) (show Be9 s (0:Int) x5 x6 x7 x8 from ?g14) ?_;rotate_left
 rintro⟨i18,x19,x20,x21,x22⟩ h_23
 obtain⟨h24,h25,h26,h27,h28⟩:B38 s x19 x20 x21 x22∧0≤i18∧i18≤(↑s.recs.length:Int)∧isS1 s (↑s.adds.length:Int)∧isS2 s i18:=h_23
 refine sq<|rD cx [1,4,53] [1] (tL 3 c54 x22 (zB 4 (i18 <(↑x22.length:Int)))) (fun h29=>?_) fun h29=>?_
 refine sK<|sn<|sq<|bL 3<|sq<|rA cx [1,4,64] [1] (fA (0≤i18) (fG c54 x22 i18.toNat (fR 3 (fN 2 2 (fT (con46 (x22[i18.toNat]!.past) ({ vec:=x20,cloud:=x21:Past }) (by obtain⟨rfl,rfl,rfl,rfl⟩:=h24;exact(A67 hb.2 h25 h29).1) (by obtain⟨rfl,rfl,rfl,rfl⟩:=h24;exact hb.1.1)) (oR 3 (c54 x22[i18.toNat]!) (oA 8 (.b (decide (B8 (B3 x22[i18.toNat]!.past { vec:=x20,cloud:=x21:Past })=0))) z0))))))) ?_
 refine sn<|dC (B8 (B3 x22[i18.toNat]!.past { vec:=x20,cloud:=x21:Past })=0) (fun h30=>?_) fun h30=>?_
 refine sq<|rG cx [2] [] z0<|sn<|rT<|bR<|nR<|nR<|bR<|nR<|qR (.b (false)) (.eq (by obtain⟨rfl,rfl,rfl,rfl⟩:=h24;rw[Be0 h25 h29 h30]))
 refine sK<|bN<|sn<|rG cx [1,4] [1] (tT 1 (B4 (by omega) (by obtain⟨rfl,rfl,rfl,rfl⟩:=h24;omega):AV.i .i64 (IntKind.i64.wrap (i18+1))=AV.i .i64 (i18+1)) z0) ?_
 refine sn<|nX ((i18+1,x19,x20,x21,x22)) (show((↑s.recs.length:Int)-(i18+1)).toNat <((↑s.recs.length:Int)-i18).toNat from(by obtain⟨rfl,rfl,rfl,rfl⟩:=h24;omega)) (show Be9 s (i18+1) x19 x20 x21 x22 from ?g20);rotate_left
 refine eX 2<|nE<|nE<|bH<|sn<|sq<|rG cx [2] [] z0<|sn<|rT<|qR (.b (true)) (.eq (by obtain⟨rfl,rfl,rfl,rfl⟩:=h24;rw[Bf1 (A1q hh3) h27 h29 h28]))
 case g7=>revert hh3 i4 x5 x6 x7 x8 h10 h11 h12 h13 h14 h16;intro h i x1 x2 x3 x4 e h0 h1 h2 h3;obtain⟨rfl,rfl,rfl,rfl⟩:=e;intros;show s.gone.cloud.length≤_;omega
 case g8=>revert hh3 i4 x5 x6 x7 x8 h10 h11 h12 h13 h14 h16;intro h i x1 x2 x3 x4 e h0 h1 h2 h3;obtain⟨rfl,rfl,rfl,rfl⟩:=e;intros;show s.gone.cloud.length≤_;omega
 case g9=>revert hh3 i4 x5 x6 x7 x8 h10 h11 h12 h13 h14 h16;intro h i x1 x2 x3 x4 e h0 h1 h2 h3;obtain⟨rfl,rfl,rfl,rfl⟩:=e;intros;exact A55 hb.2
 case g13 =>
  obtain⟨rfl,rfl,rfl,rfl⟩:=h10
  refine⟨⟨rfl,rfl,rfl,rfl⟩,by omega,by omega,fun n hn=>?_⟩
  by_cases c:n=i4.toNat
  ·rw[c]
   refine⟨Classical.not_not.1 fun k=>h17 (.inl k),?_⟩
   have:=Be1 s.recs s.adds[i4.toNat]!
   have:=Int.not_lt.1 fun k=>h17 (.inr k)
   omega
  ·exact h13 n (by omega)
 case g14 =>
  obtain⟨rfl,rfl,rfl,rfl⟩:=h10
  exact⟨⟨rfl,rfl,rfl,rfl⟩,by omega,by omega,fun n hn=>h13 n (by omega),fun n hn=>by omega⟩
 case g20 =>
  obtain⟨rfl,rfl,rfl,rfl⟩:=h24
  refine⟨⟨rfl,rfl,rfl,rfl⟩,by omega,by omega,h27,fun n hn=>?_⟩
  by_cases c:n=i18.toNat
  ·rw[c];exact h30
  ·exact h28 n (by omega)
theorem con63(f s:Facts)(hb:szF f)(hl:szL f):Con Tryz.prog 63 [.agg (c36 f),.agg (c82 s)] (.b (A2p f s)) :=
 by
 refine sC A6 [.tmp 4] 13 Tryz.func63 ?_
 intro e0 cx
 refine sq<|rG cx [2,3] [2,3] z0<|sn<|sq<|B1 (σ':=⟨[(4,.b (decide (okF f=true∧stF f=s)))],[]⟩) ?_ ?_
 refine A5 (okF f=true) (fun h1=>?_) (fun h1=>?_)
 refine ra (A:=_∧_∧_∧_∧(AV.b (decide (stF f=s))=AV.b (decide (okF f=true∧stF f=s)))) cx [(1,{ val:=some (.b (okF f)),tell:=some (.b (true)) }),(4,{ val:=some (.agg [.sl (List.map c46 (stF f).adds),.sl (List.map c3 (stF f).gone.vec),.sl (List.map A9 (stF f).gone.cloud),.sl (List.map c54 (stF f).recs)]) }),(6,{ val:=some (.b (decide (stF f=s))) }),(8,{ tell:=some (.b (decide (okF f=true∧stF f=s))) })] [4] [] ⟨(A15 h1),(A4q (f) (by(with_reducible assumption))),(Aq5 (f) (by(with_reducible assumption)) (by(with_reducible assumption)) (by with_reducible assumption)),(Bf2 (stF f) (s) (by exact A0f (Y1 (A57 h1))) (by have:=(B87 hl).2;omega)),(by simp only [eq_true h1,tsl])⟩ ?_
 exact⟨rfl,by kernel_rfl⟩
 refine ra (A:=(AV.b (okF f)=AV.b false)∧_∧(AV.b false=AV.b (decide (okF f=true∧stF f=s)))) cx [(1,{ val:=some (.b (okF f)),tell:=some (.b (false)) }),(8,{ tell:=some (.b (decide (okF f=true∧stF f=s))) })] [4] [] ⟨(L4 h1),(A4q (f) (by(with_reducible assumption))),(by simp only [eq_false h1,tsl])⟩ ?_
 exact⟨rfl,by kernel_rfl⟩
 refine sn<|rT<|qR (.b (decide (okF f=true∧stF f=s))) (.eq (by refine congrArg AV.b ?_;rw[Bool.eq_iff_iff,decide_eq_true_iff,A33]))
theorem B8a(s:Facts)(hb:szF s)(hl:szL s):Con Tryz.prog 136 [.agg (c82 s)] (.agg (c36 (A0q s))) :=
 by
 refine sC A6 [.cell 2 36] 14 Tryz.func136 ?_
 intro e0 cx
 refine sq<|rG cx [1,2] [1,2] z0<|sn<|sq<|rA cx [2] [2] (fT (B89 (s.adds) ?g0) (fT (B7q (s.gone) (I4 s.adds) ?g1 ?g2) (oA 6 (.agg [.sl (List.map c3 (I4 s.adds).vec),.sl (List.map A9 (I4 s.adds).cloud)]) (oA 7 (.agg [.sl (List.map c3 (B3 s.gone (I4 s.adds)).vec),.sl (List.map A9 (B3 s.gone (I4 s.adds)).cloud)]) z0)))) ?_;rotate_left 3
 refine sn<|rT<|qR (.agg [.sl (List.map c46 s.adds),.sl (List.map c3 (B3 s.gone (I4 s.adds)).vec),.sl (List.map A9 (B3 s.gone (I4 s.adds)).cloud),.sl (List.map c54 s.recs)]) (.eq ?g3);rotate_left
 case g0=>exact hl.1
 case g1=>exact hb.1.1
 case g2=>exact A27 (A4p _)
 case g3=>rfl
theorem con60(f:Facts)(hb:szF f)(hl:szL f):Con Tryz.prog 60 [.agg (c36 f)] (.tup [.agg (c36 (N4 f).1),.i .i64 (N4 f).2]) :=
 by
 refine sC A6 [.cell 2 36,.tmp 3] 11 Tryz.func60 ?_
 intro e0 cx
 refine sq<|rG cx [1,2] [1,2] z0<|sn<|sq<|sq<|rG cx [1,2,6] [1,2] (fT (A4q (f) (by(with_reducible assumption))) (tT 2 (C3:(AV.b !okF f)=AV.b (decide ¬okF f=true)) (oA 1 (.b (okF f)) z0)))<|sn<|dC (¬okF f=true) (fun h0=>?_) fun h0=>?_
 refine sq<|rG cx [2,3] [2] z0<|sn<|rT<|nR<|qR (.tup [.agg [.nl,.nl,.nl,.nl],.i .i64 ((1:Int))]) (B5.tup (ZLe.cons (B5.agg (ZLe.cons (B5.nl' (show List.map c46 (N4 f).1.adds=[]from(by rw[Y4 h0];rfl))) (ZLe.cons (B5.nl' (show List.map c3 (N4 f).1.gone.vec=[]from(by rw[Y4 h0];rfl))) (ZLe.cons (B5.nl' (show List.map A9 (N4 f).1.gone.cloud=[]from(by rw[Y4 h0];rfl))) (ZLe.cons (B5.nl' (show List.map c54 (N4 f).1.recs=[]from(by rw[Y4 h0];rfl))) ZLe.nil))))) (ZLe.cons (B5.eq (show AV.i .i64 1=AV.i .i64 (N4 f).2 from(by rw[Y4 h0]))) ZLe.nil)))
 refine sK<|sn<|sq<|rG cx [2,3] [2] (fT (Aq5 (f) (by(with_reducible assumption)) (by(with_reducible assumption)) (by exact Classical.not_not.1 h0)) (fT (B8a (stF f) (by exact A0f (Y1 (A57 (Classical.not_not.1 h0)))) (by exact B87 hl)) (oA 1 (.agg [.sl (List.map c46 (stF f).adds),.sl (List.map c3 (stF f).gone.vec),.sl (List.map A9 (stF f).gone.cloud),.sl (List.map c54 (stF f).recs)]) (oA 2 (.agg [.sl (List.map c46 (A0q (stF f)).adds),.sl (List.map c3 (A0q (stF f)).gone.vec),.sl (List.map A9 (A0q (stF f)).gone.cloud),.sl (List.map c54 (A0q (stF f)).recs)]) z0)))) ?_
 refine sn<|rT<|qR (.tup [.agg [.sl (List.map c46 (A0q (stF f)).adds),.sl (List.map c3 (A0q (stF f)).gone.vec),.sl (List.map A9 (A0q (stF f)).gone.cloud),.sl (List.map c54 (A0q (stF f)).recs)],.i .i64 ((0:Int))]) (B5.tup (ZLe.cons (B5.eq (show AV.agg [AV.sl (List.map c46 (A0q (stF f)).adds),AV.sl (List.map c3 (A0q (stF f)).gone.vec),AV.sl (List.map A9 (A0q (stF f)).gone.cloud),AV.sl (List.map c54 (A0q (stF f)).recs)]=AV.agg [AV.sl (List.map c46 (N4 f).1.adds),AV.sl (List.map c3 (N4 f).1.gone.vec),AV.sl (List.map A9 (N4 f).1.gone.cloud),AV.sl (List.map c54 (N4 f).1.recs)]from(by rw[Ac0 (Classical.not_not.1 h0)]))) (ZLe.cons (B5.eq (show AV.i .i64 0=AV.i .i64 (N4 f).2 from(by rw[Ac0 (Classical.not_not.1 h0)]))) ZLe.nil)))
theorem con65(s:Facts)(hb:szF s)(hl:szL s):Con Tryz.prog 65 [.agg (c82 s)] (.tup [.agg (c36 (E7 s).1),.i .i64 (E7 s).2]) :=
 by
 refine sC A6 [.cell 2 36,.tmp 3] 10 Tryz.func65 ?_
 intro e0 cx
 refine sq<|rG cx [1,2] [1,2] z0<|sn<|sq<|sq<|rG cx [1,2,6] [1,2] (fT (con144 (s) (by(with_reducible assumption)) (by(with_reducible assumption))) (tT 2 (C3:(AV.b !okS s)=AV.b (decide ¬okS s=true)) (oA 1 (.b (okS s)) z0)))<|sn<|dC (¬okS s=true) (fun h0=>?_) fun h0=>?_
 refine sq<|rG cx [2,3] [2] z0<|sn<|rT<|nR<|qR (.tup [.agg [.nl,.nl,.nl,.nl],.i .i64 ((1:Int))]) (B5.tup (ZLe.cons (B5.agg (ZLe.cons (B5.nl' (show List.map c46 (E7 s).1.adds=[]from(by rw[A0t h0];rfl))) (ZLe.cons (B5.nl' (show List.map c3 (E7 s).1.gone.vec=[]from(by rw[A0t h0];rfl))) (ZLe.cons (B5.nl' (show List.map A9 (E7 s).1.gone.cloud=[]from(by rw[A0t h0];rfl))) (ZLe.cons (B5.nl' (show List.map c54 (E7 s).1.recs=[]from(by rw[A0t h0];rfl))) ZLe.nil))))) (ZLe.cons (B5.eq (show AV.i .i64 1=AV.i .i64 (E7 s).2 from(by rw[A0t h0]))) ZLe.nil)))
 refine sK<|sn<|sq<|rG cx [2,3] [2] (fT (B8a (s) (by(with_reducible assumption)) (by(with_reducible assumption))) (oA 1 (.agg [.sl (List.map c46 (A0q s).adds),.sl (List.map c3 (A0q s).gone.vec),.sl (List.map A9 (A0q s).gone.cloud),.sl (List.map c54 (A0q s).recs)]) z0))<|sn<|rT<|qR (.tup [.agg [.sl (List.map c46 (A0q s).adds),.sl (List.map c3 (A0q s).gone.vec),.sl (List.map A9 (A0q s).gone.cloud),.sl (List.map c54 (A0q s).recs)],.i .i64 ((0:Int))]) (B5.tup (ZLe.cons (B5.eq (show AV.agg [AV.sl (List.map c46 (A0q s).adds),AV.sl (List.map c3 (A0q s).gone.vec),AV.sl (List.map A9 (A0q s).gone.cloud),AV.sl (List.map c54 (A0q s).recs)]=AV.agg [AV.sl (List.map c46 (E7 s).1.adds),AV.sl (List.map c3 (E7 s).1.gone.vec),AV.sl (List.map A9 (E7 s).1.gone.cloud),AV.sl (List.map c54 (E7 s).1.recs)]from(by rw[Y3 (Classical.not_not.1 h0)]))) (ZLe.cons (B5.eq (show AV.i .i64 0=AV.i .i64 (E7 s).2 from(by rw[Y3 (Classical.not_not.1 h0)]))) ZLe.nil)))
end Go.Proofs.YtphcaholhacnpaaGreat
