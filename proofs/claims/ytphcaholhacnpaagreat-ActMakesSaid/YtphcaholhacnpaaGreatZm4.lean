/- Rm: the document's combine, Minus, Join, Size, Empty. Conditions: sizes. Pq: the total order of contexts, in plain words. Conditions: none. Pr: past.Compare, with the library's cmp.Compare, cmp.Or and slices.CompareFunc. Conditions: sizes. Sa: texts: their order is total. Conditions: none. Ps: strings.Compare. Conditions: none. Ga: goods: is a text a SKU. Conditions: none. Kp: records: their order and form, in plain words. Conditions: none. Ka: keep.CheckRecord, Compare, Check. Conditions: sizes. Rn: the document's Compare, Next, Within. Conditions: sizes. La: lines: entries in form. Conditions: none. Kr: records in the documents. Conditions: sizes. Ta: the act layer's document: entries, records, facts in form. Conditions: sizes. Tb: act: Check, Next, Empty, Event; the laws of Check and of Event. Conditions: sizes. Lt: sort.Slice at lines: a row of one's own is put into the order of the SKUs. Conditions: sizes. Lu: lines in plain words: sums of entries, SKU by SKU. Conditions: none. Lc: walks, written by a program of this claim's own, and what each function hands back. Conditions: none. Lq: entries in form: how many there are. Conditions: none. EY: a map gone through: the next entry is any that has not been. Conditions: none. Lv: lines.Lines. Conditions: sizes. Lpa: entries in form, in plain words (first part). Conditions: none. Lw: lines: Line, Total; the document's Lines, Line, Total. Conditions: sizes. Lm: lines: Dots, Inside, Outside. Conditions: sizes. Dr: act.rules: the table. Conditions: none. -/
import Derived.Below
import Derived.OwnWalk
import Derived.WalkKit
import Derived.KernelRfl
import Derived.Laws.MakeOwn
import Derived.Laws.OwnMore
import Derived.Laws.Slices
import Derived.Laws.CopyOwn
import Derived.Laws.AppendOwnNone
import Derived.Laws.Rows
import Derived.Orders
import Derived.Test.YtphcaholhacnpaaGreatProg
import Derived.DataReads
import Derived.ChangeOld
import Derived.DataElems
import Derived.SizedLaws
import Derived.ChangeKeysEq
import Derived.Sort.LotA
import Derived.Shelf.SlSortFuncK.RowK2
import Derived.Shelf.SlSortCmp.NoneTotal
import Derived.Lib.Walk
import Derived.Shelf.SlLaysE0
import Derived.Shelf.RegionOpenPlain
import Derived.Deep.LoopGhost
import Derived.Lib.SliceRun
import Derived.Lib.Bytealg
import Derived.BigQuiet
import Derived.Shelf.SlSortFuncK.WholeK
import Derived.Shelf.GgSortFunc.Tiny
import Derived.Maps.RangeRun
import Derived.Shelf.SlSortFuncK.SWK
import Derived.Deep.Cut
import Derived.Deep.CutRange
import Derived.Deep.DeepCutAuto
import Derived.Lib.ReflectliteSwap
import Derived.Laws.Externs
import Derived.Lib.ReflectliteSlice
import Derived.Lib.AppendZeros
import Derived.Test.YtphcaholhacnpaaGreatZm3
set_option linter.unusedVariables false
set_option linter.unusedSimpArgs false
set_option linter.unusedSectionVars false
set_option linter.unnecessarySimpa false
namespace Go.Proofs.YtphcaholhacnpaaGreat
open Go.E
set_option maxRecDepth 100000
set_option maxHeartbeats 4000000
def B5k(U:Nat→List Run)(n r:Int)(S:Nat→List Int):Prop:=S=tnS U∧0≤r∧r≤16∧n=sizeT U r.toNat
def decRs(n r:Int)(S:Nat→List Int):Nat:=(16-r).toNat
def B5l(U:Nat→List Run)(r n0 n k:Int)(S:Nat→List Int):Prop:=S=tnS U∧0≤k∧k≤2*(U r.toNat).length∧2*(k / 2)=k∧n=n0+G4 ((U r.toNat).take (k / 2).toNat)
def decRt(U:Nat→List Run)(r n k:Int)(S:Nat→List Int):Nat:=(2*(U r.toNat).length-k).toNat
theorem B3c{T:Nat→List Run}(r:Nat):nrm (B5 T r)=B5 T r:=A9c _
theorem A81(T:Nat→List Run):∀ n:Nat,sizeT (B5 T) n=sizeT T n
 | 0=>rfl
 | n+1=>by rw[sizeT,sizeT,A81 T n,B3c];rfl
theorem At1{l:List Run}{k:Int}(h0:0≤k)(he:2*(k / 2)=k)(h:k+1 < 2*l.length):G4 (l.take ((k+2) / 2).toNat)=G4 (l.take (k / 2).toNat)+(l[(k / 2).toNat]!.hi-l[(k / 2).toNat]!.lo+1):=by
 rw[show(k+2) / 2=k / 2+1 by omega]
 exact A4h (by omega) (by omega)
theorem con147(p:Past)(hb:p.cloud.length*16≤140737488350000):Con Tryz.prog 147 [.agg (c26 p)] (.i .i64 (C5 p)) :=
 by
 have hl:∀ r,(B5 (A3 [p]) r).length≤500000000:=fun r=>W3 (E2 _)
 have hz:∀ n,0≤sizeT (B5 (A3 [p])) n∧sizeT (B5 (A3 [p])) n≤n*1000000000:=A0d _
 have hk:∀ r n,0≤G4 ((B5 (A3 [p]) r).take n)∧G4 ((B5 (A3 [p]) r).take n)≤1000000000:=fun r n=>A0c (A80 (E2 _) n)
 have hr:∀(r:Nat) (k:Int),0≤k→k+1 < 2*(B5 (A3 [p]) r).length→1≤(B5 (A3 [p]) r)[(k / 2).toNat]!.lo∧(B5 (A3 [p]) r)[(k / 2).toNat]!.lo≤(B5 (A3 [p]) r)[(k / 2).toNat]!.hi∧(B5 (A3 [p]) r)[(k / 2).toNat]!.hi≤1000000000 :=
  fun r k h0 h1=>(E2 _).2 _ (E1 (by have h2:k+1 < 2*(nrm (A3 [p] r)).length:=h1;omega))
 have ht:∀ r,(tnS (B5 (A3 [p])) r).length=2*(B5 (A3 [p]) r).length:=fun r=>A0b _
 have hs:=A81 (A3 [p])
 have hU:∀ r,nrm (B5 (A3 [p]) r)=B5 (A3 [p]) r:=B3c
 have hP:C5 p=sizeT (B5 (A3 [p])) 16:=(A5y p).trans (hs 16).symm
 clear hs
 refine sC B3 [.tmp 2] 42 Tryz.func147 ?_
 intro e0 cx
 refine sq<|rG cx [1] [1] z0<|sn<|sq<|rG cx [3] [3] (fT (B1m (p) (by(with_reducible assumption))) (oA 1 (.agg (F9 c3 16 (tnS (B5 (A3 [p]))))) z0))<|sn<|sq<|rG cx [3,4] [3] z0<|sn<|sq<|sq<|rG cx [3,4,5] [3] z0<|sn<|bL 0<|I9 3 ⟨0,144,.var [.sl (List.map c3 (tnS (B5 (A3 [p])) (0))),.sl (List.map c3 (tnS (B5 (A3 [p])) (1))),.sl (List.map c3 (tnS (B5 (A3 [p])) (2))),.sl (List.map c3 (tnS (B5 (A3 [p])) (3))),.sl (List.map c3 (tnS (B5 (A3 [p])) (4))),.sl (List.map c3 (tnS (B5 (A3 [p])) (5))),.sl (List.map c3 (tnS (B5 (A3 [p])) (6))),.sl (List.map c3 (tnS (B5 (A3 [p])) (7))),.sl (List.map c3 (tnS (B5 (A3 [p])) (8))),.sl (List.map c3 (tnS (B5 (A3 [p])) (9))),.sl (List.map c3 (tnS (B5 (A3 [p])) (10))),.sl (List.map c3 (tnS (B5 (A3 [p])) (11))),.sl (List.map c3 (tnS (B5 (A3 [p])) (12))),.sl (List.map c3 (tnS (B5 (A3 [p])) (13))),.sl (List.map c3 (tnS (B5 (A3 [p])) (14))),.sl (List.map c3 (tnS (B5 (A3 [p])) (15)))]⟩ [.sl (List.map c3 (tnS (B5 (A3 [p])) (0))),.sl (List.map c3 (tnS (B5 (A3 [p])) (1))),.sl (List.map c3 (tnS (B5 (A3 [p])) (2))),.sl (List.map c3 (tnS (B5 (A3 [p])) (3))),.sl (List.map c3 (tnS (B5 (A3 [p])) (4))),.sl (List.map c3 (tnS (B5 (A3 [p])) (5))),.sl (List.map c3 (tnS (B5 (A3 [p])) (6))),.sl (List.map c3 (tnS (B5 (A3 [p])) (7))),.sl (List.map c3 (tnS (B5 (A3 [p])) (8))),.sl (List.map c3 (tnS (B5 (A3 [p])) (9))),.sl (List.map c3 (tnS (B5 (A3 [p])) (10))),.sl (List.map c3 (tnS (B5 (A3 [p])) (11))),.sl (List.map c3 (tnS (B5 (A3 [p])) (12))),.sl (List.map c3 (tnS (B5 (A3 [p])) (13))),.sl (List.map c3 (tnS (B5 (A3 [p])) (14))),.sl (List.map c3 (tnS (B5 (A3 [p])) (15)))] (F9 c3 16 (tnS (B5 (A3 [p])))) (σ':=⟨[(3,.ptr (3) (0) (0) (0)),(4,.i .i64 ((0:Int))),(5,.i .i64 ((0:Int)))],[(3,⟨0,144,.arr (F9 c3 16 (tnS (B5 (A3 [p]))))⟩)]⟩) (by kernel_rfl) (by kernel_rfl) (by kernel_rfl) (by kernel_rfl) (ZLe.of_eq (by kernel_rfl)) (by kernel_rfl)<|sL (X:=Int×Int×(Nat→List Int)) (fun x=>⟨[(3,.ptr (3) (0) (0) (0)),(4,.i .i64 (x.1)),(5,.i .i64 (x.2.1))],[(3,⟨0,144,.arr (F9 c3 16 x.2.2)⟩)]⟩) (fun x ↦ decRs x.1 x.2.1 x.2.2) (fun x ↦ B5k (B5 (A3 [p])) x.1 x.2.1 x.2.2) [3,4,5] [3] (((0:Int),(0:Int),tnS (B5 (A3 [p])))) (show B5k (B5 (A3 [p])) (0:Int) (0:Int) (tnS (B5 (A3 [p])))from ?g0) ?_;rotate_left
 rintro⟨n0,r1,S2⟩ h_3
 obtain⟨hh4,h5,hh6,h7⟩:S2=tnS (B5 (A3 [p]))∧0≤r1∧r1≤16∧n0=sizeT (B5 (A3 [p])) r1.toNat:=h_3
 refine sq<|rD cx [3,4,5,10] [3] (zB 1 (r1 <(16:Int))) (fun h8=>?_) fun h8=>?_
 refine sK<|sn<|sq<|bL 1<|sq<|rG cx [3,4,5,6] [3] z0<|sn<|bL 2<|sL (X:=Int×Int×(Nat→List Int)) (fun x=>⟨[(3,.ptr (3) (0) (0) (0)),(4,.i .i64 (x.1)),(5,.i .i64 (r1)),(6,.i .i64 (x.2.1))],[(3,⟨0,144,.arr (F9 c3 16 x.2.2)⟩)]⟩) (fun x ↦ decRt (B5 (A3 [p])) r1 x.1 x.2.1 x.2.2) (fun x ↦ B5l (B5 (A3 [p])) r1 n0 x.1 x.2.1 x.2.2) [3,4,5,6] [3] ((n0,(0:Int),S2)) (show B5l (B5 (A3 [p])) r1 n0 n0 (0:Int) S2 from ?g1) ?_;rotate_left
 rintro⟨n9,k10,S11⟩ h_12
 obtain⟨h13,h14,h15,h16,h17⟩:S11=tnS (B5 (A3 [p]))∧0≤k10∧k10≤(2:Int)*(↑(B5 (A3 [p]) r1.toNat).length:Int)∧(2:Int)*(k10 / (2:Int))=k10∧n9=n0+G4 (List.take (k10 / (2:Int)).toNat (B5 (A3 [p]) r1.toNat)):=h_12
 refine sq<|sq<|rG cx [3,4,5,6,20] [3] (tT 1 (B4 (by omega) ?g2:AV.i .i64 (IntKind.i64.wrap (k10+1))=AV.i .i64 (k10+1)) (fA (0≤r1) (fO (r1 <(↑(16:Nat):Int)) (fP ((F9 c3 16 S11)[r1.toNat*(1:Nat)+0]?=some (AV.sl (List.map c3 (S11 r1.toNat)))) (by((try simp only [Nat.mul_one,Nat.add_zero,Nat.zero_add]);with_reducible refine E4 ?_;omega)) (tL 6 c3 (S11 r1.toNat) (tB 7 (k10+1 <(↑(S11 r1.toNat).length:Int)) (oR 5 [.sl (List.map c3 (S11 r1.toNat))] z0))))))) ?_;rotate_left
 refine sn<|dC (k10+1 <(↑(S11 r1.toNat).length:Int)) (fun h18=>?_) fun h18=>?_
 refine sK<|sn<|sq<|bL 3<|rA cx [3,4,5,6] [3] (fA (0≤r1) (fO (r1 <(↑(16:Nat):Int)) (fP ((F9 c3 16 S11)[r1.toNat*(1:Nat)+0]?=some (AV.sl (List.map c3 (S11 r1.toNat)))) (by((try simp only [Nat.mul_one,Nat.add_zero,Nat.zero_add]);with_reducible refine E4 ?_;omega)) (tT 6 (B4 (by omega) ?g3:AV.i .i64 (IntKind.i64.wrap (k10+1))=AV.i .i64 (k10+1)) (fO (0≤k10+1) (fG c3 (S11 r1.toNat) ((k10+1).toNat) (fR 1 (fA (0≤r1) (fO (r1 <(↑(16:Nat):Int)) (fP ((F9 c3 16 S11)[r1.toNat*(1:Nat)+0]?=some (AV.sl (List.map c3 (S11 r1.toNat)))) (by((try simp only [Nat.mul_one,Nat.add_zero,Nat.zero_add]);with_reducible refine E4 ?_;omega)) (fA (0≤k10) (fG c3 (S11 r1.toNat) k10.toNat (fR 1 (tT 16 (B4 ?g4 ?g5:AV.i .i64 (IntKind.i64.wrap ((S11 r1.toNat)[(k10+1).toNat]!-(S11 r1.toNat)[k10.toNat]!))=AV.i .i64 ((S11 r1.toNat)[(k10+1).toNat]!-(S11 r1.toNat)[k10.toNat]!)) (tT 17 (B4 ?g6 ?g7:AV.i .i64 (IntKind.i64.wrap (n9+((S11 r1.toNat)[(k10+1).toNat]!-(S11 r1.toNat)[k10.toNat]!)))=AV.i .i64 (n9+((S11 r1.toNat)[(k10+1).toNat]!-(S11 r1.toNat)[k10.toNat]!))) (oR 4 [.sl (List.map c3 (S11 r1.toNat))] (oR 7 (c3 (S11 r1.toNat)[(k10+1).toNat]!) (oR 12 [.sl (List.map c3 (S11 r1.toNat))] (oR 14 (c3 (S11 r1.toNat)[k10.toNat]!) z0))))))))))))))))))) ?_;rotate_left 5
 refine bN<|sn<|rG cx [3,4,5,6] [3] (tT 1 (B4 (by omega) ?g8:AV.i .i64 (IntKind.i64.wrap (k10+2))=AV.i .i64 (k10+2)) z0) ?_;rotate_left
 refine sn<|nX ((n9+((S11 r1.toNat)[(k10+1).toNat]!-(S11 r1.toNat)[k10.toNat]!),k10+2,S11)) (show((2:Int)*(↑(B5 (A3 [p]) r1.toNat).length:Int)-(k10+2)).toNat <((2:Int)*(↑(B5 (A3 [p]) r1.toNat).length:Int)-k10).toNat from ?g9) (show B5l (B5 (A3 [p])) r1 n0 (n9+((S11 r1.toNat)[(k10+1).toNat]!-(S11 r1.toNat)[k10.toNat]!)) (k10+2) S11 from ?g10);rotate_left 2
 refine eX 2<|nE<|nE<|bH<|bN<|sn<|rG cx [3,4,5] [3] (tW 1 (r1+1) z0)<|sn<|nX ((n9,r1+1,S11)) (show(16-(r1+1)).toNat <(16-r1).toNat from(by omega)) (show B5k (B5 (A3 [p])) n9 (r1+1) S11 from ?g11);rotate_left
 refine eX 0<|nE<|nE<|bH<|sn<|sq<|rG cx [2] [] z0<|sn<|rT<|qR (.i .i64 (n0)) (.eq ?g12);rotate_left
 rotate_left
 revert n0 r1 S2 hh4 h5 hh6 h7 h8;rotate_left
 revert n0 r1 S2 hh4 h5 hh6 h7 h8 n9 k10 S11 h13 h14 h15 h16 h17;rotate_left
 revert n0 r1 S2 hh4 h5 hh6 h7 h8 n9 k10 S11 h13 h14 h15 h16 h17 h18;rotate_left
 revert n0 r1 S2 hh4 h5 hh6 h7 h8 n9 k10 S11 h13 h14 h15 h16 h17 h18;rotate_left
 revert n0 r1 S2 hh4 h5 hh6 h7 h8 n9 k10 S11 h13 h14 h15 h16 h17 h18;rotate_left
 revert n0 r1 S2 hh4 h5 hh6 h7 h8 n9 k10 S11 h13 h14 h15 h16 h17 h18;rotate_left
 revert n0 r1 S2 hh4 h5 hh6 h7 h8 n9 k10 S11 h13 h14 h15 h16 h17 h18;rotate_left
 revert n0 r1 S2 hh4 h5 hh6 h7 h8 n9 k10 S11 h13 h14 h15 h16 h17 h18;rotate_left
 revert n0 r1 S2 hh4 h5 hh6 h7 h8 n9 k10 S11 h13 h14 h15 h16 h17 h18;rotate_left
 revert n0 r1 S2 hh4 h5 hh6 h7 h8 n9 k10 S11 h13 h14 h15 h16 h17 h18;rotate_left
 revert n0 r1 S2 hh4 h5 hh6 h7 h8 n9 k10 S11 h13 h14 h15 h16 h17 h18;rotate_left
 revert n0 r1 S2 hh4 h5 hh6 h7 h8;rotate_left
 all_goals generalize B5 (A3 [p])=U at *
 case g0=>exact⟨rfl,by omega,by omega,rfl⟩
 case g1=>intro n r S h0 h1 h2 h3 h4;exact⟨h0,by omega,by omega,by omega,by simp [G4]⟩
 case g2=>intro n r S h0 h1 h2 h3 h4 m k R k0 k1 k2 k3 k4;have:=hl r.toNat;omega
 case g3=>intro n r S h0 h1 h2 h3 h4 m k R k0 k1 k2 k3 k4 k5;have:=hl r.toNat;omega
 case g4 =>
  intro n r S h0 h1 h2 h3 h4 m k R k0 k1 k2 k3 k4 k5
  subst k0;rw[ht]at k5
  have:=A7y (U:=U) (r:=r) k1 k3 (by omega);have:=hr r.toNat k k1 (by omega);omega
 case g5 =>
  intro n r S h0 h1 h2 h3 h4 m k R k0 k1 k2 k3 k4 k5
  subst k0;rw[ht]at k5
  have:=A7y (U:=U) (r:=r) k1 k3 (by omega);have:=hr r.toNat k k1 (by omega);omega
 case g6 =>
  intro n r S h0 h1 h2 h3 h4 m k R k0 k1 k2 k3 k4 k5
  subst k0;rw[ht]at k5
  have:=A7y (U:=U) (r:=r) k1 k3 (by omega);have:=hr r.toNat k k1 (by omega)
  have:=hz r.toNat;have:=hk r.toNat (k / 2).toNat;omega
 case g7 =>
  intro n r S h0 h1 h2 h3 h4 m k R k0 k1 k2 k3 k4 k5
  subst k0;rw[ht]at k5
  have:=A7y (U:=U) (r:=r) k1 k3 (by omega);have:=hr r.toNat k k1 (by omega)
  have:=hz r.toNat;have:=hk r.toNat (k / 2).toNat;omega
 case g8=>intro n r S h0 h1 h2 h3 h4 m k R k0 k1 k2 k3 k4 k5;have:=hl r.toNat;omega
 case g9=>intro n r S h0 h1 h2 h3 h4 m k R k0 k1 k2 k3 k4 k5;subst k0;rw[ht]at k5;omega
 case g10 =>
  intro n r S h0 h1 h2 h3 h4 m k R k0 k1 k2 k3 k4 k5
  subst k0;rw[ht]at k5
  have h6:=A7y (U:=U) (r:=r) k1 k3 (by omega)
  refine⟨rfl,by omega,by omega,by omega,?_⟩
  rw[At1 k1 k3 (by omega)]
  omega
 case g11 =>
  intro n r S h0 h1 h2 h3 h4 m k R k0 k1 k2 k3 k4 k5
  subst k0;rw[ht]at k5
  refine⟨rfl,by omega,by omega,?_⟩
  rw[show(r+1).toNat=r.toNat+1 by omega,sizeT,hU,k4,h3,List.take_of_length_le (by omega)]
 case g12=>intro n r S h0 h1 h2 h3 h4;rw[h3,hP,show r.toNat=16 by omega]
theorem B5m(p:Past)(hb:p.cloud.length*16≤140737488350000):Con Tryz.prog 79 [.agg (c26 p)] (.b (decide (C5 p=0))) :=
 by
 refine sC B3 [.tmp 2] 6 Tryz.func79 ?_
 intro e0 cx
 refine sq<|rG cx [1] [1] z0<|sn<|sq<|rG cx [2] [] (fT (con147 (p) (by(with_reducible assumption))) (tB 2 (C5 p=0) (oA 1 (.i .i64 (C5 p)) z0)))<|sn<|rT ?_
 exact Y2 (r:=.b (decide (C5 p=0))) (obl:=[]) (by kernel_rfl) trivial (A7.refl _)
theorem con91(p:Past)(rep:Int)(hb:p.cloud.length*16≤140737488350000):Con Tryz.prog 91 [.agg (c26 p),.i .i64 rep] (.i .i64 (F0 p rep)) :=
 by
 have hn:∀ r,X8 (B5 (A3 [p]) r)=X8 (A3 [p] r):=fun r=>B19 _
 have hs:∀ r,S7 (B5 (A3 [p]) r):=fun r=>E2 _
 have ht:(tnS (B5 (A3 [p])) rep.toNat).length=2*(B5 (A3 [p]) rep.toNat).length:=A0b _
 have hl:=W3 (hs rep.toNat)
 have hx:¬((tnS (B5 (A3 [p])) rep.toNat).length:Int)=0→(tnS (B5 (A3 [p])) rep.toNat)[(((tnS (B5 (A3 [p])) rep.toNat).length:Int)-1).toNat]!-1=X8 (A3 [p] rep.toNat)∧0≤X8 (A3 [p] rep.toNat)∧X8 (A3 [p] rep.toNat)≤1000000000:=by
  intro h
  have hm:=Ar6 (hs rep.toNat) (by omega)
  have hr:=(hs rep.toNat).2 _ (E1 (l:=B5 (A3 [p]) rep.toNat) (i:=(B5 (A3 [p]) rep.toNat).length-1) (by omega))
  have e:=(A1q (l:=B5 (A3 [p]) rep.toNat) (j:=(B5 (A3 [p]) rep.toNat).length-1) (by omega)).2
  rw[← hn,ht,hm]
  have e2:(((2*(B5 (A3 [p]) rep.toNat).length:Nat):Int)-1).toNat=2*((B5 (A3 [p]) rep.toNat).length-1)+1:=by omega
  rw[e2]
  have e3:(tnS (B5 (A3 [p])) rep.toNat)[2*((B5 (A3 [p]) rep.toNat).length-1)+1]! = _:=e
  rw[e3]
  omega
 refine sC B3 [.tmp 4] 31 Tryz.func91 ?_
 intro e0 cx
 refine sq<|rG cx [1,2] [2] z0<|sn<|sq<|sq<|A9 (σ':=⟨[(1,.i .i64 (rep)),(2,.ptr (2) (0) (0) (0)),(12,.b (decide (rep <(0:Int)∨16≤rep)))],[(2,⟨0,26,.var [.sl (List.map c3 p.vec),.sl (List.map B1 p.cloud)]⟩)]⟩) ?_ ?_
 refine A6 (rep <(0:Int)) (fun h_1=>?_) (fun h_1=>?_)
 refine rG cx [1,2,12] [2] (tT 1 (A4 h_1) (tD 5 true (rep <(0:Int)∨16≤rep) (by simp only [eq_true h_1,tsl]) z0)) ?_
 exact⟨rfl,by kernel_rfl⟩
 refine rG cx [1,2,12] [2] (tT 1 (A0 h_1) (tB 4 (16≤rep) (tD 5 (decide (16≤rep)) (rep <(0:Int)∨16≤rep) (by simp only [eq_false h_1,tsl]) z0))) ?_
 exact⟨rfl,by kernel_rfl⟩
 refine sn<|dC (rep <(0:Int)∨16≤rep) (fun h2=>?_) fun h2=>?_
 refine sq<|rG cx [4] [] z0<|sn<|rT<|nR<|qR (.i .i64 ((0:Int))) (.eq (by unfold F0;rw[if_pos h2]))
 refine sK<|sn<|sq<|rG cx [1,5] [5] (fT (B1m (p) (by(with_reducible assumption))) (oA 1 (.agg (F9 c3 16 (tnS (B5 (A3 [p]))))) z0))<|sn<|sq<|A5f (F:=fun kx=>⟨[(1,.i .i64 (kx)),(5,.ptr (5) (0) (0) (0))],[(5,⟨0,144,.var [.sl (List.map c3 (tnS (B5 (A3 [p])) (0))),.sl (List.map c3 (tnS (B5 (A3 [p])) (1))),.sl (List.map c3 (tnS (B5 (A3 [p])) (2))),.sl (List.map c3 (tnS (B5 (A3 [p])) (3))),.sl (List.map c3 (tnS (B5 (A3 [p])) (4))),.sl (List.map c3 (tnS (B5 (A3 [p])) (5))),.sl (List.map c3 (tnS (B5 (A3 [p])) (6))),.sl (List.map c3 (tnS (B5 (A3 [p])) (7))),.sl (List.map c3 (tnS (B5 (A3 [p])) (8))),.sl (List.map c3 (tnS (B5 (A3 [p])) (9))),.sl (List.map c3 (tnS (B5 (A3 [p])) (10))),.sl (List.map c3 (tnS (B5 (A3 [p])) (11))),.sl (List.map c3 (tnS (B5 (A3 [p])) (12))),.sl (List.map c3 (tnS (B5 (A3 [p])) (13))),.sl (List.map c3 (tnS (B5 (A3 [p])) (14))),.sl (List.map c3 (tnS (B5 (A3 [p])) (15)))]⟩)]⟩) (G:=fun kx=>⟨[(1,.i .i64 (kx)),(5,.ptr (5) (0) (0) (0)),(6,.i .i64 ((↑(tnS (B5 (A3 [p])) kx.toNat).length:Int)))],[(5,⟨0,144,.var [.sl (List.map c3 (tnS (B5 (A3 [p])) (0))),.sl (List.map c3 (tnS (B5 (A3 [p])) (1))),.sl (List.map c3 (tnS (B5 (A3 [p])) (2))),.sl (List.map c3 (tnS (B5 (A3 [p])) (3))),.sl (List.map c3 (tnS (B5 (A3 [p])) (4))),.sl (List.map c3 (tnS (B5 (A3 [p])) (5))),.sl (List.map c3 (tnS (B5 (A3 [p])) (6))),.sl (List.map c3 (tnS (B5 (A3 [p])) (7))),.sl (List.map c3 (tnS (B5 (A3 [p])) (8))),.sl (List.map c3 (tnS (B5 (A3 [p])) (9))),.sl (List.map c3 (tnS (B5 (A3 [p])) (10))),.sl (List.map c3 (tnS (B5 (A3 [p])) (11))),.sl (List.map c3 (tnS (B5 (A3 [p])) (12))),.sl (List.map c3 (tnS (B5 (A3 [p])) (13))),.sl (List.map c3 (tnS (B5 (A3 [p])) (14))),.sl (List.map c3 (tnS (B5 (A3 [p])) (15)))]⟩)]⟩) (A:=fun kx=>(0≤kx)∧(kx <(↑(16:Nat):Int))∧(AV.i .i64 (↑(List.map c3 (tnS (B5 (A3 [p])) kx.toNat)).length:Int)=AV.i .i64 (↑(tnS (B5 (A3 [p])) kx.toNat).length:Int))) cx (fun kx=>[(4,{ tell:=some (.i .i64 ((↑(tnS (B5 (A3 [p])) kx.toNat).length:Int))) })]) [1,5,6] [5] (rep) (by omega) (by omega) (by kernel_rfl) (by kernel_rfl) ⟨(by show _=_;kernel_rfl),(by show _=_;kernel_rfl),(by show _=_;kernel_rfl),(by show _=_;kernel_rfl),(by show _=_;kernel_rfl),(by show _=_;kernel_rfl),(by show _=_;kernel_rfl),(by show _=_;kernel_rfl),(by show _=_;kernel_rfl),(by show _=_;kernel_rfl),(by show _=_;kernel_rfl),(by show _=_;kernel_rfl),(by show _=_;kernel_rfl),(by show _=_;kernel_rfl),(by show _=_;kernel_rfl),(by show _=_;kernel_rfl)⟩ ⟨(by omega),(by omega),(by rw[List.length_map])⟩ ?_
 refine sn<|sq<|rD cx [1,5,6,21] [5] (zB 1 ((↑(tnS (B5 (A3 [p])) rep.toNat).length:Int)=0)) (fun h3=>?_) fun h3=>?_
 refine sq<|rG cx [4] [] z0<|sn<|rT<|nR<|qR (.i .i64 ((0:Int))) (.eq ?g2);rotate_left
 refine sK<|sn<|sq<|A5f (F:=fun kx=>⟨[(1,.i .i64 (kx)),(5,.ptr (5) (0) (0) (0)),(6,.i .i64 ((↑(tnS (B5 (A3 [p])) kx.toNat).length:Int))),(21,.b (decide ((↑(tnS (B5 (A3 [p])) kx.toNat).length:Int)=0)))],[(5,⟨0,144,.var [.sl (List.map c3 (tnS (B5 (A3 [p])) (0))),.sl (List.map c3 (tnS (B5 (A3 [p])) (1))),.sl (List.map c3 (tnS (B5 (A3 [p])) (2))),.sl (List.map c3 (tnS (B5 (A3 [p])) (3))),.sl (List.map c3 (tnS (B5 (A3 [p])) (4))),.sl (List.map c3 (tnS (B5 (A3 [p])) (5))),.sl (List.map c3 (tnS (B5 (A3 [p])) (6))),.sl (List.map c3 (tnS (B5 (A3 [p])) (7))),.sl (List.map c3 (tnS (B5 (A3 [p])) (8))),.sl (List.map c3 (tnS (B5 (A3 [p])) (9))),.sl (List.map c3 (tnS (B5 (A3 [p])) (10))),.sl (List.map c3 (tnS (B5 (A3 [p])) (11))),.sl (List.map c3 (tnS (B5 (A3 [p])) (12))),.sl (List.map c3 (tnS (B5 (A3 [p])) (13))),.sl (List.map c3 (tnS (B5 (A3 [p])) (14))),.sl (List.map c3 (tnS (B5 (A3 [p])) (15)))]⟩)]⟩) (G:=fun kx=>⟨[(4,.i .i64 ((tnS (B5 (A3 [p])) kx.toNat)[((↑(tnS (B5 (A3 [p])) kx.toNat).length:Int)-1).toNat]!-1))],[]⟩) (A:=fun kx=>(0≤kx)∧(kx <(↑(16:Nat):Int))∧(AV.i .i64 (IntKind.i64.wrap ((↑(tnS (B5 (A3 [p])) kx.toNat).length:Int)-1))=AV.i .i64 ((↑(tnS (B5 (A3 [p])) kx.toNat).length:Int)-1))∧(0≤(↑(tnS (B5 (A3 [p])) kx.toNat).length:Int)-1)∧((List.map c3 (tnS (B5 (A3 [p])) kx.toNat))[((↑(tnS (B5 (A3 [p])) kx.toNat).length:Int)-1).toNat]?=some (c3 (tnS (B5 (A3 [p])) kx.toNat)[((↑(tnS (B5 (A3 [p])) kx.toNat).length:Int)-1).toNat]!))∧((c3 (tnS (B5 (A3 [p])) kx.toNat)[((↑(tnS (B5 (A3 [p])) kx.toNat).length:Int)-1).toNat]!).length=(1:Nat))∧(AV.i .i64 (IntKind.i64.wrap ((tnS (B5 (A3 [p])) kx.toNat)[((↑(tnS (B5 (A3 [p])) kx.toNat).length:Int)-1).toNat]!-1))=AV.i .i64 ((tnS (B5 (A3 [p])) kx.toNat)[((↑(tnS (B5 (A3 [p])) kx.toNat).length:Int)-1).toNat]!-1))) cx (fun kx=>[(5,{ tell:=some (.i .i64 ((↑(tnS (B5 (A3 [p])) kx.toNat).length:Int)-1)) }),(6,{ row:=(c3 (tnS (B5 (A3 [p])) kx.toNat)[((↑(tnS (B5 (A3 [p])) kx.toNat).length:Int)-1).toNat]!) }),(8,{ tell:=some (.i .i64 ((tnS (B5 (A3 [p])) kx.toNat)[((↑(tnS (B5 (A3 [p])) kx.toNat).length:Int)-1).toNat]!-1)) })]) [4] [] (rep) (by omega) (by omega) (by kernel_rfl) (by kernel_rfl) ⟨(by show _=_;kernel_rfl),(by show _=_;kernel_rfl),(by show _=_;kernel_rfl),(by show _=_;kernel_rfl),(by show _=_;kernel_rfl),(by show _=_;kernel_rfl),(by show _=_;kernel_rfl),(by show _=_;kernel_rfl),(by show _=_;kernel_rfl),(by show _=_;kernel_rfl),(by show _=_;kernel_rfl),(by show _=_;kernel_rfl),(by show _=_;kernel_rfl),(by show _=_;kernel_rfl),(by show _=_;kernel_rfl),(by show _=_;kernel_rfl)⟩ ⟨(by omega),(by omega),(B4 (by omega) (by omega)),(by omega),(by(with_reducible refine G6 ?_;omega)),(by kernel_rfl),(B4 (by have:=hx h3;omega) (by have:=hx h3;omega))⟩ ?_
 refine sn<|rT<|qR (.i .i64 ((tnS (B5 (A3 [p])) rep.toNat)[((↑(tnS (B5 (A3 [p])) rep.toNat).length:Int)-1).toNat]!-1)) (.eq (by unfold F0;rw[if_neg h2,(hx h3).1]))
 case g2 =>
  have e:B5 (A3 [p]) rep.toNat=[]:=List.eq_nil_of_length_eq_zero (by omega)
  unfold F0
  rw[if_neg h2,← hn,e]
  rfl
end Go.Proofs.YtphcaholhacnpaaGreat
namespace Go.Proofs.YtphcaholhacnpaaGreat
open Go.E
set_option maxRecDepth 100000
set_option maxHeartbeats 4000000
def H1(a b:Int):Int:=if a < b then -1 else if b < a then 1 else 0
def A82(u v:List Int):Nat→Nat→Int
 | _,0=>0
 | r,k+1=>if u[r]! = v[r]! then A82 u v (r+1) k else H1 u[r]! v[r]!
def A0w(s t:Span):Int:=if H1 s.rep t.rep≠0 then H1 s.rep t.rep else if H1 s.lo t.lo≠0 then H1 s.lo t.lo else H1 s.hi t.hi
def M4:List Span→List Span→Int
 | [],[]=>0
 | [],_ :: _=>-1
 | _ :: _,[]=>1
 | s :: a,t :: b=>if A0w s t≠0 then A0w s t else M4 a b
def cmpQ(x y:Past):Int:=if A82 x.vec y.vec 0 16≠0 then A82 x.vec y.vec 0 16 else M4 x.cloud y.cloud
def A2w(p q:Past):Int:=cmpQ (A5 p) (A5 q)
structure Ord3 {α:Type} (c:α→α→Int):Prop where
 rng:∀ x y,c x y=-1∨c x y=0∨c x y=1
 neg:∀ x y,c y x=-(c x y)
 tr:∀ x y z,c x y≤0→c y z≤0→c x z≤0
 tr0:∀ x y z,c x y=0→c y z=0→c x z=0
theorem Ord3.lt{α:Type}{c:α→α→Int}(h:Ord3 c){x y z:α}(h1:c x y < 0)(h2:c y z≤0):c x z < 0:=by
 have h3:=h.tr x y z (by omega) h2
 apply Classical.byContradiction
 intro h4
 have h5:c x z=0:=by omega
 have h6:c z x=0:=by rw[h.neg x z];omega
 have h7:=h.tr y z x h2 (by omega)
 have:=h.neg x y
 omega
theorem Ord3.lt'{α:Type}{c:α→α→Int}(h:Ord3 c){x y z:α}(h1:c x y≤0)(h2:c y z < 0):c x z < 0:=by
 have h3:=h.tr x y z h1 (by omega)
 apply Classical.byContradiction
 intro h4
 have h5:c x z=0:=by omega
 have h6:c z x=0:=by rw[h.neg x z];omega
 have h7:=h.tr z x y (by omega) h1
 have:=h.neg y z
 omega
theorem ordI:Ord3 H1:=by
 refine⟨fun x y=>?_,fun x y=>?_,fun x y z=>?_,fun x y z=>?_⟩ <;> unfold H1 <;>(repeat' split) <;> omega
theorem A0e{α β γ:Type}{c:β→β→Int}{d:γ→γ→Int}(hc:Ord3 c)(hd:Ord3 d)(f:α→β)(g:α→γ):Ord3 (fun x y=>if c (f x) (f y)≠0 then c (f x) (f y)else d (g x) (g y)):=by
 refine⟨fun x y=>?_,fun x y=>?_,fun x y z=>?_,fun x y z=>?_⟩
 ·split
  ·exact hc.rng _ _
  ·exact hd.rng _ _
 ·have h1:=hc.neg (f x) (f y)
  have h2:=hd.neg (g x) (g y)
  split <;> split <;> omega
 ·intro h1 h2
  have b1:=hc.neg (f x) (f y)
  by_cases e1:c (f x) (f y)=0
  ·rw[if_neg (by simpa using e1)]at h1
   by_cases e2:c (f y) (f z)=0
   ·rw[if_neg (by simpa using e2)]at h2
    rw[if_neg (by simpa using hc.tr0 _ _ _ e1 e2)]
    exact hd.tr _ _ _ h1 h2
   ·rw[if_pos e2]at h2
    have:=hc.lt' (x:=f x) (y:=f y) (z:=f z) (by omega) (by omega)
    rw[if_pos (by omega)]
    omega
  ·rw[if_pos e1]at h1
   have h2':c (f y) (f z)≤0:=by
    by_cases e2:c (f y) (f z)=0
    ·omega
    ·rw[if_pos e2]at h2;exact h2
   have:=hc.lt (x:=f x) (y:=f y) (z:=f z) (by omega) h2'
   rw[if_pos (by omega)]
   omega
 ·intro h1 h2
  have e1:c (f x) (f y)=0:=by
   apply Classical.byContradiction
   intro e
   rw[if_pos e]at h1
   exact e h1
  have e2:c (f y) (f z)=0:=by
   apply Classical.byContradiction
   intro e
   rw[if_pos e]at h2
   exact e h2
  rw[if_neg (by simpa using e1)]at h1
  rw[if_neg (by simpa using e2)]at h2
  rw[if_neg (by simpa using hc.tr0 _ _ _ e1 e2)]
  exact hd.tr0 _ _ _ h1 h2
theorem N3{a b:Int}:H1 a b=0↔a=b:=by unfold H1;split <;>(try split) <;> omega
theorem ordF(k:Nat):∀ r:Nat,Ord3 fun u v:List Int=>A82 u v r k:=by
 induction k with
 | zero=>exact fun r=>⟨fun _ _=>.inr (.inl rfl),fun _ _=>rfl,fun _ _ _ _ _=>Int.le_refl _,fun _ _ _ _ _=>rfl⟩
 | succ k ih =>
  intro r
  have h:=A0e ordI (ih (r+1)) (fun u:List Int=>u[r]!) (fun u=>u)
  have e:(fun u v:List Int=>A82 u v r (k+1))=fun u v=>if H1 u[r]! v[r]!≠0 then H1 u[r]! v[r]! else A82 u v (r+1) k:=by
   funext u v
   rw[A82]
   by_cases e:u[r]! = v[r]!
   ·rw[if_pos e,if_neg (by rw[N3.2 e];simp)]
   ·rw[if_neg e,if_pos (fun k=>e (N3.1 k))]
  rw[e]
  exact h
theorem B6j:Ord3 A0w:=A0e ordI (A0e ordI ordI (fun s:Span=>s.lo) (fun s:Span=>s.hi)) (fun s:Span=>s.rep) (fun s=>s)
theorem ordC:Ord3 M4:=by
 refine⟨fun x=>?_,fun x=>?_,fun x=>?_,fun x=>?_⟩
 ·induction x with
  | nil=>intro y;cases y <;> simp [M4]
  | cons s a ih =>
   intro y
   cases y with
   | nil=>simp [M4]
   | cons t b =>
    rw[M4]
    split
    ·exact B6j.rng _ _
    ·exact ih b
 ·induction x with
  | nil=>intro y;cases y <;> simp [M4]
  | cons s a ih =>
   intro y
   cases y with
   | nil=>simp [M4]
   | cons t b =>
    rw[M4,M4]
    have h1:=B6j.neg s t
    have h2:=ih b
    split <;> split <;> omega
 ·induction x with
  | nil=>intro y z _ _;cases z <;> simp [M4]
  | cons s a ih =>
   intro y z h1 h2
   cases y with
   | nil=>simp [M4]at h1
   | cons t b =>
    cases z with
    | nil=>simp [M4]at h2
    | cons r d =>
     rw[M4]at h1 h2 ⊢
     by_cases e1:A0w s t=0
     ·rw[if_neg (by simpa using e1)]at h1
      by_cases e2:A0w t r=0
      ·rw[if_neg (by simpa using e2)]at h2
       rw[if_neg (by simpa using B6j.tr0 _ _ _ e1 e2)]
       exact ih b d h1 h2
      ·rw[if_pos e2]at h2
       have:=B6j.lt' (x:=s) (y:=t) (z:=r) (by omega) (by omega)
       rw[if_pos (by omega)]
       omega
     ·rw[if_pos e1]at h1
      have h2':A0w t r≤0:=by
       by_cases e2:A0w t r=0
       ·omega
       ·rw[if_pos e2]at h2;exact h2
      have:=B6j.lt (x:=s) (y:=t) (z:=r) (by omega) h2'
      rw[if_pos (by omega)]
      omega
 ·induction x with
  | nil =>
   intro y z h1 h2
   cases y with
   | nil=>exact h2
   | cons t b=>simp [M4]at h1
  | cons s a ih =>
   intro y z h1 h2
   cases y with
   | nil=>simp [M4]at h1
   | cons t b =>
    cases z with
    | nil=>simp [M4]at h2
    | cons r d =>
     rw[M4]at h1 h2 ⊢
     have e1:A0w s t=0:=by
      apply Classical.byContradiction
      intro e
      rw[if_pos e]at h1
      exact e h1
     have e2:A0w t r=0:=by
      apply Classical.byContradiction
      intro e
      rw[if_pos e]at h2
      exact e h2
     rw[if_neg (by simpa using e1)]at h1
     rw[if_neg (by simpa using e2)]at h2
     rw[if_neg (by simpa using B6j.tr0 _ _ _ e1 e2)]
     exact ih b d h1 h2
theorem ordQ:Ord3 cmpQ:=A0e (ordF 16 0) ordC (fun p:Past=>p.vec) (fun p=>p.cloud)
theorem ordP:Ord3 A2w:=⟨fun _ _=>ordQ.rng _ _,fun _ _=>ordQ.neg _ _,fun _ _ _=>ordQ.tr _ _ _,fun _ _ _=>ordQ.tr0 _ _ _⟩
end Go.Proofs.YtphcaholhacnpaaGreat
namespace Go.Proofs.YtphcaholhacnpaaGreat
open Go.E
set_option maxRecDepth 100000
set_option maxHeartbeats 4000000
def orI(v:List Int):Int:=(v.find? fun x=>decide (¬ x=0)).getD 0
def B5n(v:List Int)(i:Int):Prop:=0≤i∧i≤v.length∧∀ j:Nat,(j:Int) < i→v[j]! = 0
def decOr(v:List Int)(i:Int):Nat:=(v.length-i).toNat
theorem or_at{v:List Int}:∀ {i:Nat},i < v.length→¬ v[i]! = 0→(∀ j:Nat,j < i→v[j]! = 0)→orI v=v[i]!:=by
 intro i hi h hn
 unfold orI
 have:v.find? (fun x=>decide (¬ x=0))=some v[i]!:=by
  rw[getElem!_pos v i hi]at h ⊢
  rw[List.find?_eq_some_iff_getElem]
  refine⟨by simpa using h,i,hi,rfl,fun j hj=>?_⟩
  have:=hn j hj
  rw[getElem!_pos v j (by omega)]at this
  simpa using this
 rw[this];rfl
theorem or_no{v:List Int}(h:∀ j:Nat,j < v.length→v[j]! = 0):orI v=0:=by
 unfold orI
 rw[List.find?_eq_none.2]
 ·rfl
 ·intro x hx
  obtain⟨j,hj,rfl⟩:=List.mem_iff_getElem.1 hx
  have:=h j hj
  rw[getElem!_pos v j hj]at this
  simpa using this
theorem B1o(s t:Span):orI [H1 s.rep t.rep,H1 s.lo t.lo,H1 s.hi t.hi]=A0w s t:=by
 unfold orI A0w
 by_cases h1:H1 s.rep t.rep=0
 ·by_cases h2:H1 s.lo t.lo=0
  ·by_cases h3:H1 s.hi t.hi=0 <;> simp [h1,h2,h3]
  ·simp [h1,h2]
 ·simp [h1]
def B1p(a b:List Span)(i:Int):Prop:=0≤i∧i≤a.length∧i≤b.length∧M4 a b=M4 (a.drop i.toNat) (b.drop i.toNat)
def decCf(a b:List Span)(i:Int):Nat:=(a.length-i).toNat
theorem Ak3{a:List Span}{i:Int}(h0:0≤i)(h:i < a.length):a.drop i.toNat=a[i.toNat]! :: a.drop (i+1).toNat:=by
 rw[show(i+1).toNat=i.toNat+1 by omega,getElem!_pos a i.toNat (by omega)]
 exact List.drop_eq_getElem_cons (by omega)
theorem B1q{a:List Span}{i:Int}(h:¬ i < a.length):a.drop i.toNat=[]:=List.drop_of_length_le (by omega)
theorem At2{a b:List Span}{i:Int}(h0:0≤i)(ha:i < a.length)(hb:¬ i < b.length)(h:M4 a b=M4 (a.drop i.toNat) (b.drop i.toNat)):M4 a b=1:=by
 rw[h,Ak3 h0 ha,B1q hb];rfl
theorem At3{a b:List Span}{i:Int}(h0:0≤i)(ha:¬ i < a.length)(hb:i < b.length)(h:M4 a b=M4 (a.drop i.toNat) (b.drop i.toNat)):M4 a b=-1:=by
 rw[h,Ak3 h0 hb,B1q ha];rfl
theorem At4{a b:List Span}{i:Int}(ha:¬ i < a.length)(hb:¬ i < b.length)(h:M4 a b=M4 (a.drop i.toNat) (b.drop i.toNat)):M4 a b=0:=by
 rw[h,B1q hb,B1q ha];rfl
theorem At5{a b:List Span}{i:Int}(h0:0≤i)(ha:i < a.length)(hb:i < b.length)(hd:¬ A0w a[i.toNat]! b[i.toNat]! = 0)(h:M4 a b=M4 (a.drop i.toNat) (b.drop i.toNat)):M4 a b=A0w a[i.toNat]! b[i.toNat]!:=by
 rw[h,Ak3 h0 ha,Ak3 h0 hb,M4,if_pos hd]
theorem At6{a b:List Span}{i:Int}(h0:0≤i)(ha:i < a.length)(hb:i < b.length)(hd:A0w a[i.toNat]! b[i.toNat]! = 0)(h:M4 a b=M4 (a.drop i.toNat) (b.drop i.toNat)):B1p a b (i+1):=by
 refine⟨by omega,by omega,by omega,?_⟩
 rw[h,Ak3 h0 ha,Ak3 h0 hb,M4,if_neg (by simpa using hd)]
def A8k(u v:List Int)(r:Int):Prop:=A82 u v 0 16=A82 u v r.toNat (16-r).toNat
def A9i(x y:Past)(r:Int)(u:List Int)(c:List Span)(v:List Int)(d:List Span):Prop:=u=x.vec∧c=x.cloud∧v=y.vec∧d=y.cloud∧0≤r∧r≤16∧A8k x.vec y.vec r
def decCq(r:Int)(u:List Int)(c:List Span)(v:List Int)(d:List Span):Nat:=(16-r).toNat
def invCp(u v:List Int)(r:Int):Prop:=0≤r∧r≤16∧A8k u v r
theorem L2{u:List Int}{r:Int}(h0:0≤r)(h:¬ r < u.length):u[r.toNat]! = 0:=by
 rw[getElem!_def,List.getElem?_eq_none (by omega)];rfl
theorem At7{u v:List Int}{r:Int}(h0:0≤r)(h1:r < 16)(h:A8k u v r):A82 u v 0 16=if u[r.toNat]! = v[r.toNat]! then A82 u v (r+1).toNat (16-(r+1)).toNat else H1 u[r.toNat]! v[r.toNat]!:=by
 unfold A8k at h
 rw[h,show(16-r).toNat=(16-(r+1)).toNat+1 by omega,A82,show r.toNat+1=(r+1).toNat by omega]
theorem At8{u v:List Int}{r:Int}(h0:0≤r)(h1:r < 16)(hd:¬ u[r.toNat]! = v[r.toNat]!)(h:A8k u v r):A82 u v 0 16=H1 u[r.toNat]! v[r.toNat]!:=by rw[At7 h0 h1 h,if_neg hd]
theorem At9{u v:List Int}{r:Int}(h0:0≤r)(h1:r < 16)(hd:u[r.toNat]! = v[r.toNat]!)(h:A8k u v r):invCp u v (r+1):=by
 refine⟨by omega,by omega,?_⟩
 unfold A8k
 rw[At7 h0 h1 h,if_pos hd]
theorem A83{u v:List Int}{r:Int}(h1:r≤16)(hn:¬ r < 16)(h:A8k u v r):A82 u v 0 16=0:=by
 unfold A8k at h
 rw[h,show(16-r).toNat=0 by omega];rfl
theorem B3d{p q:Past}{x:Int}(h:A82 (A5 p).vec (A5 q).vec 0 16=x)(hx:¬ x=0):A2w p q=x:=by
 unfold A2w cmpQ
 rw[if_pos (by rw[h];exact hx),h]
theorem A60{p q:Past}(h:A82 (A5 p).vec (A5 q).vec 0 16=0):A2w p q=M4 (A5 p).cloud (A5 q).cloud:=by
 unfold A2w cmpQ
 rw[if_neg (by rw[h];simp)]
theorem Y6{a b:Int}(h:¬ a=b):¬ H1 a b=0:=fun k=>h (N3.1 k)
theorem B3e(x:Int):Con Tryz.prog 272 [.i .i64 x] (.b false) :=
 by
 refine sC B3 [.tmp 2] 6 Tryz.func272 ?_
 intro e0 cx
 refine sq<|rG cx [0] [] z0<|sn<|sq<|rG cx [2] [] (tT 2 (B0i:AV.b (x != x)=AV.b false) z0)<|sn<|rT ?_
 exact Y2 (r:=.b (false)) (obl:=[]) (by kernel_rfl) trivial (A7.refl _)
theorem A4i(a b:Int):Con Tryz.prog 231 [.i .i64 a,.i .i64 b] (.i .i64 (H1 a b)) :=
 by
 refine sC B3 [.tmp 4] 20 Tryz.func231 ?_
 intro e0 cx
 refine sq<|rG cx [0,1] [] z0<|sn<|sq<|rG cx [0,1,5] [] (fT (B3e (a)) (oA 1 (.b (false)) z0))<|sn<|sq<|rG cx [0,1,5,6] [] (fT (B3e (b)) (oA 1 (.b (false)) z0))<|sn<|sq<|sq<|rG cx [0,1,6,11] [] z0<|sn<|R6 (by kernel_rfl) (by kernel_rfl)<|sK<|sn<|sq<|sq<|rG cx [0,1,13] [] z0<|sn<|R6 (by kernel_rfl) (by kernel_rfl)<|sK<|sn<|sq<|rD cx [0,1,16] [] (zB 2 (a < b)) (fun h0=>?_) fun h0=>?_
 refine sq<|rG cx [4] [] z0<|sn<|rT<|nR<|qR (.i .i64 ((-1:Int))) (.eq (by unfold H1;rw[if_pos h0]))
 refine sK<|sn<|sq<|rD cx [19] [] (zB 2 (b < a)) (fun h1=>?_) fun h1=>?_
 refine sq<|rG cx [4] [] z0<|sn<|rT<|nR<|qR (.i .i64 ((1:Int))) (.eq (by unfold H1;rw[if_neg h0,if_pos h1]))
 refine sK<|sn<|sq<|rG cx [4] [] z0<|sn<|rT<|qR (.i .i64 ((0:Int))) (.eq (by unfold H1;rw[if_neg h0,if_neg h1]))
theorem con234(v:List Int):Con Tryz.prog 234 [.sl (v.map c3)] (.i .i64 (orI v)) :=
 by
 refine lN 0 c3 (v) Tryz.func234 fun hl_0=>sC B3 [.tmp 2] 18 Tryz.func234 ?_
 intro e0 cx
 refine sq<|rG cx [0] [] z0<|sn<|sq<|rG cx [0,3] [] z0<|sn<|sq<|sq<|rG cx [3,6,7,8] [] (tL 1 c3 v z0)<|sn<|bL 0<|sL (X:=Int) (fun x=>⟨[(3,.i .i64 ((0:Int))),(6,.sl (List.map c3 v)),(7,.i .i64 ((↑v.length:Int))),(8,.i .i64 (x))],[]⟩) (fun x ↦ decOr v x) (fun x ↦ B5n v x) [3,6,7,8] [] ((0:Int)) (show B5n v (0:Int)from(by exact⟨by omega,by omega,fun j hj=>by omega⟩)) ?_
 intro i0 h_1
 obtain⟨hh2,hh3,hh4⟩:0≤i0∧i0≤(↑v.length:Int)∧∀(j:Nat),(↑j:Int) < i0→v[j]! =(0:Int):=h_1
 refine rE cx [3,6,7,8,9] [] (zB 0 (i0 <(↑v.length:Int))) (fun h5=>?_) fun h5=>?_
 refine sK<|sn<|sq<|bL 1<|sq<|rG cx [3,6,7,8,5] [] (fA (0≤i0) (fG c3 v i0.toNat (fR 1 (oR 0 (c3 v[i0.toNat]!) z0))))<|sn<|sq<|rG cx [3,6,7,8,5,14] [] (tN 2 v[i0.toNat]! (0:Int) z0)<|sn<|dC (¬v[i0.toNat]! =(0:Int)) (fun h6=>?_) fun h6=>?_
 refine sq<|rG cx [2] [] z0<|sn<|rT<|bR<|nR<|nR<|bR<|nR<|qR (.i .i64 (v[i0.toNat]!)) (.eq ?g1);rotate_left
 refine sK<|bN<|sn<|rG cx [3,6,7,8] [] (tW 0 (i0+1) z0)<|sn<|nX (i0+1) (show((↑v.length:Int)-(i0+1)).toNat <((↑v.length:Int)-i0).toNat from(by omega)) (show B5n v (i0+1)from ?g2);rotate_left
 refine eX 0<|nE<|nE<|bH<|sn<|sq<|rG cx [2] [] z0<|sn<|rT<|qR (.i .i64 ((0:Int))) (.eq (by rw[or_no fun j hj=>hh4 j (by omega)]))
 case g1=>revert i0 hh2 hh3 hh4 h5 h6;intro i h0 h1 h2 h3 h4;rw[or_at (i:=i.toNat) (by omega) h4 (fun j hj=>h2 j (by omega))]
 case g2 =>
  exact⟨by omega,by omega,fun j hj=>by
   by_cases e:j=i0.toNat
   ·rw[e];exact Classical.not_not.1 h6
   ·exact hh4 j (by omega)⟩
theorem con233(s t:Span):Con Tryz.prog 233 [.agg (B1 s),.agg (B1 t)] (.i .i64 (A0w s t)) :=
 by
 refine sC B3 [.tmp 4] 22 Tryz.func233 ?_
 intro e0 cx
 refine sq<|rG cx [2,3] [2,3] z0<|sn<|sq<|rA cx [4] [] (fT (A4i (s.rep) (t.rep)) (fT (A4i (s.lo) (t.lo)) (fT (A4i (s.hi) (t.hi)) (fP (Flat (AV.i .i64 (orI [H1 s.rep t.rep,H1 s.lo t.lo,H1 s.hi t.hi]))) (by exact Flat.i _ _) (fT (con234 ([H1 s.rep t.rep,H1 s.lo t.lo,H1 s.hi t.hi])) (oA 4 (.i .i64 (H1 s.rep t.rep)) (oA 9 (.i .i64 (H1 s.lo t.lo)) (oA 14 (.i .i64 (H1 s.hi t.hi)) (oV 16 { val:=some (.i .i64 (orI [H1 s.rep t.rep,H1 s.lo t.lo,H1 s.hi t.hi])),flat:=true } z0)))))))))<|sn<|rT<|qR (.i .i64 (orI [H1 s.rep t.rep,H1 s.lo t.lo,H1 s.hi t.hi])) (.eq ?g0);rotate_left
 case g0=>rw[B1o]
theorem con232(a b:List Span):Con Tryz.prog 232 [.sl (a.map B1),.sl (b.map B1),.fn (.func 233) [] []] (.i .i64 (M4 a b)) :=
 by
 refine lN 0 B1 (a) Tryz.func232 fun hl_0=>lN 1 B1 (b) Tryz.func232 fun hl_1=>sC B3 [.tmp 6] 39 Tryz.func232 ?_
 intro e0 cx
 refine sq<|rG cx [0,1,2] [] z0<|sn<|sq<|sq<|rG cx [0,1,2,11,12,13] [] (tL 1 B1 a z0)<|sn<|bL 0<|sL (X:=Int) (fun x=>⟨[(0,.sl (List.map B1 a)),(1,.sl (List.map B1 b)),(2,.fn (Fn.func (233:FuncId)) [] []),(11,.sl (List.map B1 a)),(12,.i .i64 ((↑a.length:Int))),(13,.i .i64 (x))],[]⟩) (fun x ↦ decCf a b x) (fun x ↦ B1p a b x) [0,1,2,11,12,13] [] ((0:Int)) (show B1p a b (0:Int)from(by exact⟨by omega,by omega,by omega,rfl⟩)) ?_
 intro i0 h_1
 obtain⟨hh2,hh3,hh4,hh5⟩:0≤i0∧i0≤(↑a.length:Int)∧i0≤(↑b.length:Int)∧M4 a b=M4 (List.drop i0.toNat a) (List.drop i0.toNat b):=h_1
 refine rE cx [0,1,2,11,12,13,14] [] (zB 0 (i0 <(↑a.length:Int))) (fun hh6=>?_) fun hh6=>?_
 refine sK<|sn<|sq<|bL 1<|sq<|rG cx [0,1,2,11,12,13,8,7] [8] (fA (0≤i0) (fG B1 a i0.toNat (fR 3 (fN 3 3 (oR 1 (B1 a[i0.toNat]!) z0)))))<|sn<|sq<|rD cx [0,1,2,11,12,13,8,7,21] [8] (tL 2 B1 b (zB 3 ((↑b.length:Int)≤i0))) (fun h7=>?_) fun h7=>?_
 refine sq<|rG cx [6] [] z0<|sn<|rT<|nR<|bR<|nR<|nR<|bR<|nR<|qR (.i .i64 ((1:Int))) (.eq (by rw[At2 hh2 hh6 (by omega) hh5]))
 refine sK<|sn<|sq<|rG cx [0,1,2,11,12,13,8,9] [8,9] (fA (0≤i0) (fG B1 b i0.toNat (fR 3 (fN 3 3 (oR 2 (B1 b[i0.toNat]!) z0)))))<|sn<|sq<|rG cx [0,1,2,11,12,13,10] [] (fT (con233 (a[i0.toNat]!) (b[i0.toNat]!)) (oA 3 (.i .i64 (A0w a[i0.toNat]! b[i0.toNat]!)) z0))<|sn<|sq<|rG cx [0,1,2,11,12,13,10,31] [] (tN 1 (A0w a[i0.toNat]! b[i0.toNat]!) (0:Int) z0)<|sn<|dC (¬A0w a[i0.toNat]! b[i0.toNat]! =(0:Int)) (fun h8=>?_) fun h8=>?_
 refine sq<|rG cx [6] [] z0<|sn<|rT<|bR<|nR<|nR<|bR<|nR<|qR (.i .i64 (A0w a[i0.toNat]! b[i0.toNat]!)) (.eq (by rw[At5 hh2 hh6 (by omega) h8 hh5]))
 refine sK<|bN<|sn<|rG cx [0,1,2,11,12,13] [] (tW 0 (i0+1) z0)<|sn<|nX (i0+1) (show((↑a.length:Int)-(i0+1)).toNat <((↑a.length:Int)-i0).toNat from(by omega)) (show B1p a b (i0+1)from(by exact At6 hh2 hh6 (by omega) (Classical.not_not.1 h8) hh5))
 refine eX 0<|nE<|nE<|bH<|sn<|sq<|rD cx [38] [] (tL 1 B1 a (tL 3 B1 b (zB 4 ((↑a.length:Int) <(↑b.length:Int))))) (fun h9=>?_) fun h9=>?_
 refine sq<|rG cx [6] [] z0<|sn<|rT<|nR<|qR (.i .i64 ((-1:Int))) (.eq (by rw[At3 hh2 hh6 (by omega) hh5]))
 refine sK<|sn<|sq<|rG cx [6] [] z0<|sn<|rT<|qR (.i .i64 ((0:Int))) (.eq (by rw[At4 hh6 (by omega) hh5]))
theorem con195(p q:Past)(hb:p.cloud.length*16≤140737488350000)(hq:q.cloud.length*16≤140737488350000):Con Tryz.prog 195 [.agg (c26 p),.agg (c26 q)] (.i .i64 (A2w p q)) :=
 by
 have D:∀ {r:Int} {u v:List Int},u=(A5 p).vec→v=(A5 q).vec→0≤r→r < 16→∀ {a b:Int},u[r.toNat]! = a→v[r.toNat]! = b→¬ a=b→A8k (A5 p).vec (A5 q).vec r→H1 a b=A2w p q:=by
  intro r u v e1 e3 h0 h1 a b ha hb hn h
  rw[e1]at ha
  rw[e3]at hb
  have e:=At8 h0 h1 (by rw[ha,hb];exact hn) h
  rw[ha,hb]at e
  exact(B3d e (Y6 hn)).symm
 have N:∀ {r:Int} {u v:List Int} {c d:List Span},u=(A5 p).vec→c=(A5 p).cloud→v=(A5 q).vec→d=(A5 q).cloud→0≤r→r < 16→∀ {a b:Int},u[r.toNat]! = a→v[r.toNat]! = b→¬ ¬ a=b→A8k (A5 p).vec (A5 q).vec r→A9i (A5 p) (A5 q) (r+1) u c v d:=by
  intro r u v c d e1 e2 e3 e4 h0 h1 a b ha hb hn h
  have e:=At9 h0 h1 (by rw[← e1,← e3,ha,hb];exact Classical.not_not.1 hn) h
  exact⟨e1,e2,e3,e4,e.1,e.2.1,e.2.2⟩
 refine sC B3 [.tmp 4] 49 Tryz.func195 ?_
 intro e0 cx
 refine sq<|rG cx [2,3] [2,3] z0<|sn<|sq<|rA cx [5,6] [5,6] (fT (Ac6 (p) (by(with_reducible assumption))) (fT (Ac6 (q) (by(with_reducible assumption))) (oA 1 (.agg [.sl (List.map c3 (A5 p).vec),.sl (List.map B1 (A5 p).cloud)]) (oA 3 (.agg [.sl (List.map c3 (A5 q).vec),.sl (List.map B1 (A5 q).cloud)]) z0))))<|sn<|sq<|sq<|rG cx [5,6,14] [5,6] z0<|sn<|bL 0<|sL (X:=Int×List Int×List Span×List Int×List Span) (fun x=>⟨[(5,.ptr (5) (0) (0) (0)),(6,.ptr (6) (0) (0) (0)),(14,.i .i64 (x.1))],[(5,⟨0,26,.var [.sl (List.map c3 x.2.1),.sl (List.map B1 x.2.2.1)]⟩),(6,⟨0,26,.var [.sl (List.map c3 x.2.2.2.1),.sl (List.map B1 x.2.2.2.2)]⟩)]⟩) (fun x ↦ decCq x.1 x.2.1 x.2.2.1 x.2.2.2.1 x.2.2.2.2) (fun x ↦ A9i (A5 p) (A5 q) x.1 x.2.1 x.2.2.1 x.2.2.2.1 x.2.2.2.2) [5,6,14] [5,6] (((0:Int),(A5 p).vec,(A5 p).cloud,(A5 q).vec,(A5 q).cloud)) (show A9i (A5 p) (A5 q) (0:Int) (A5 p).vec (A5 p).cloud (A5 q).vec (A5 q).cloud from(by exact⟨Eq.refl _,Eq.refl _,Eq.refl _,Eq.refl _,by omega,by omega,Eq.refl _⟩)) ?_
 rintro⟨r0,u1,c2,v3,d4⟩ h_5
 obtain⟨h6,h7,h8,h9,h10,h11,h12⟩:u1=(A5 p).vec∧c2=(A5 p).cloud∧v3=(A5 q).vec∧d4=(A5 q).cloud∧0≤r0∧r0≤16∧A8k (A5 p).vec (A5 q).vec r0:=h_5
 refine rE cx [5,6,14,15] [5,6] (zB 0 (r0 <(16:Int))) (fun h13=>?_) fun h13=>?_
 refine sK<|sn<|sq<|bL 1<|sq<|rG cx [5,6,14,7] [5,6] z0<|sn<|sq<|rG cx [5,6,14,7,8,9] [5,6] z0<|sn<|sq<|rD cx [5,6,14,7,8,9,21] [5,6] (tL 3 c3 u1 (zB 4 (r0 <(↑u1.length:Int)))) (fun h14=>?_) fun h14=>?_
 refine rG cx [5,6,14,7,8,9] [5,6] (fA (0≤r0) (fG c3 u1 r0.toNat (fR 1 (oR 3 (c3 u1[r0.toNat]!) z0))))<|sn<|sq<|rD cx [5,6,14,7,8,9,31] [5,6] (tL 3 c3 v3 (zB 4 (r0 <(↑v3.length:Int)))) (fun h15=>?_) fun h15=>?_
 refine rG cx [5,6,14,8,9] [5,6] (fA (0≤r0) (fG c3 v3 r0.toNat (fR 1 (oR 3 (c3 v3[r0.toNat]!) z0))))<|sn<|sq<|rG cx [5,6,14,8,9,39] [5,6] (tN 2 u1[r0.toNat]! v3[r0.toNat]! z0)<|sn<|dC (¬u1[r0.toNat]! = v3[r0.toNat]!) (fun h16=>?_) fun h16=>?_
 refine sq<|rG cx [4] [] (fT (A4i (u1[r0.toNat]!) (v3[r0.toNat]!)) (oA 2 (.i .i64 (H1 u1[r0.toNat]! v3[r0.toNat]!)) z0))<|sn<|rT<|bR<|nR<|nR<|bR<|nR<|qR (.i .i64 (H1 u1[r0.toNat]! v3[r0.toNat]!)) (.eq (by exact congrArg (AV.i .i64) (D h6 h8 h10 h13 (Eq.refl _) (Eq.refl _) h16 h12)))
 refine sK<|bN<|sn<|rG cx [5,6,14] [5,6] (tW 0 (r0+1) z0)<|sn<|nX ((r0+1,u1,c2,v3,d4)) (show(16-(r0+1)).toNat <(16-r0).toNat from(by omega)) (show A9i (A5 p) (A5 q) (r0+1) u1 c2 v3 d4 from(by exact N h6 h7 h8 h9 h10 h13 (Eq.refl _) (Eq.refl _) h16 h12))
 refine sK<|sn<|sq<|rG cx [5,6,14,8,9,39] [5,6] (tN 2 u1[r0.toNat]! (0:Int) z0)<|sn<|dC (¬u1[r0.toNat]! =(0:Int)) (fun h17=>?_) fun h17=>?_
 refine sq<|rG cx [4] [] (fT (A4i (u1[r0.toNat]!) ((0:Int))) (oA 2 (.i .i64 (H1 u1[r0.toNat]! (0:Int))) z0))<|sn<|rT<|bR<|nR<|nR<|bR<|nR<|qR (.i .i64 (H1 u1[r0.toNat]! (0:Int))) (.eq (by exact congrArg (AV.i .i64) (D h6 h8 h10 h13 (Eq.refl _) (L2 h10 h15) h17 h12)))
 refine sK<|bN<|sn<|rG cx [5,6,14] [5,6] (tW 0 (r0+1) z0)<|sn<|nX ((r0+1,u1,c2,v3,d4)) (show(16-(r0+1)).toNat <(16-r0).toNat from(by omega)) (show A9i (A5 p) (A5 q) (r0+1) u1 c2 v3 d4 from(by exact N h6 h7 h8 h9 h10 h13 (Eq.refl _) (L2 h10 h15) h17 h12))
 refine sK<|sn<|sq<|rD cx [5,6,14,7,8,9,31] [5,6] (tL 3 c3 v3 (zB 4 (r0 <(↑v3.length:Int)))) (fun h18=>?_) fun h18=>?_
 refine rG cx [5,6,14,8,9] [5,6] (fA (0≤r0) (fG c3 v3 r0.toNat (fR 1 (oR 3 (c3 v3[r0.toNat]!) z0))))<|sn<|sq<|rG cx [5,6,14,8,9,39] [5,6] (tN 2 (0:Int) v3[r0.toNat]! z0)<|sn<|dC (¬0=v3[r0.toNat]!) (fun h19=>?_) fun h19=>?_
 refine sq<|rG cx [4] [] (fT (A4i ((0:Int)) (v3[r0.toNat]!)) (oA 2 (.i .i64 (H1 (0:Int) v3[r0.toNat]!)) z0))<|sn<|rT<|bR<|nR<|nR<|bR<|nR<|qR (.i .i64 (H1 (0:Int) v3[r0.toNat]!)) (.eq (by exact congrArg (AV.i .i64) (D h6 h8 h10 h13 (L2 h10 h14) (Eq.refl _) h19 h12)))
 refine sK<|bN<|sn<|rG cx [5,6,14] [5,6] (tW 0 (r0+1) z0)<|sn<|nX ((r0+1,u1,c2,v3,d4)) (show(16-(r0+1)).toNat <(16-r0).toNat from(by omega)) (show A9i (A5 p) (A5 q) (r0+1) u1 c2 v3 d4 from(by exact N h6 h7 h8 h9 h10 h13 (L2 h10 h14) (Eq.refl _) h19 h12))
 refine sK<|sn<|sq<|rG cx [5,6,14,8,9,39] [5,6] z0<|sn<|R6 (by kernel_rfl) (by kernel_rfl)<|sK<|bN<|sn<|rG cx [5,6,14] [5,6] (tW 0 (r0+1) z0)<|sn<|nX ((r0+1,u1,c2,v3,d4)) (show(16-(r0+1)).toNat <(16-r0).toNat from(by omega)) (show A9i (A5 p) (A5 q) (r0+1) u1 c2 v3 d4 from(by exact N h6 h7 h8 h9 h10 h13 (L2 h10 h14) (L2 h10 h18) (fun k=>k (Eq.refl _)) h12))
 refine eX 0<|nE<|nE<|bH<|sn<|sq<|rG cx [4] [] (fT (con232 (c2) (d4)) (oA 4 (.i .i64 (M4 c2 d4)) z0))<|sn<|rT<|qR (.i .i64 (M4 c2 d4)) (.eq (by rw[h7,h9,A60 (A83 h11 h13 h12)]))
end Go.Proofs.YtphcaholhacnpaaGreat
namespace Go.Proofs.YtphcaholhacnpaaGreat
open Go.E
set_option maxRecDepth 100000
set_option maxHeartbeats 4000000
theorem Y7(a b:UInt8)(x y:List UInt8):Go.Op.bytesLess (a :: x) (b :: y)=true↔a.toNat < b.toNat∨(a=b∧Go.Op.bytesLess x y=true):=by
 rw[Go.Op.bytesLess,Bool.or_eq_true,Bool.and_eq_true,decide_eq_true_eq,beq_iff_eq,UInt8.lt_iff_toNat_lt]
theorem B3f:∀ l:List UInt8,¬ Go.Op.bytesLess l l=true
 | []=>by simp [Go.Op.bytesLess]
 | a :: l=>by
  rw[Y7]
  rintro(h | h)
  ·omega
  ·exact B3f l h.2
theorem Ae2:∀ {x y z:List UInt8},Go.Op.bytesLess x y=true→Go.Op.bytesLess y z=true→Go.Op.bytesLess x z=true
 | _,[],_,h,_=>by cases ‹List UInt8› <;> simp [Go.Op.bytesLess]at h
 | _,_ :: _,[],_,h=>by simp [Go.Op.bytesLess]at h
 | [],_ :: _,c :: z,_,_=>by simp [Go.Op.bytesLess]
 | a :: x,b :: y,c :: z,h1,h2=>by
  rw[Y7]at *
  rcases h1 with h1 | ⟨rfl,h1⟩
  ·rcases h2 with h2 | ⟨rfl,h2⟩
   ·exact .inl (by omega)
   ·exact .inl h1
  ·rcases h2 with h2 | ⟨rfl,h2⟩
   ·exact .inl h2
   ·exact .inr ⟨rfl,Ae2 h1 h2⟩
theorem Ae3:∀ {x y:List UInt8},¬ Go.Op.bytesLess x y=true→¬ Go.Op.bytesLess y x=true→x=y
 | [],[],_,_=>rfl
 | [],b :: y,h,_=>by simp [Go.Op.bytesLess]at h
 | a :: x,[],_,h=>by simp [Go.Op.bytesLess]at h
 | a :: x,b :: y,h1,h2=>by
  rw[Y7]at *
  have e:a=b:=UInt8.toNat_inj.1 (by omega)
  subst e
  rw[Ae3 (fun h=>h1 (.inr ⟨rfl,h⟩)) (fun h=>h2 (.inr ⟨rfl,h⟩))]
theorem L3(x:ByteArray):¬ sLt x x=true:=B3f _
theorem Q2{x y z:ByteArray}(h1:sLt x y=true)(h2:sLt y z=true):sLt x z=true:=Ae2 h1 h2
theorem V0{x y:ByteArray}(h1:¬ sLt x y=true)(h2:¬ sLt y x=true):x=y:=by
 have e:=Ae3 h1 h2
 rw[ByteArray.toList_eq,ByteArray.toList_eq]at e
 exact ByteArray.ext (Array.ext' e)
end Go.Proofs.YtphcaholhacnpaaGreat
namespace Go.Proofs.YtphcaholhacnpaaGreat
open Go.E
set_option maxRecDepth 100000
set_option maxHeartbeats 4000000
open Go Go.Lib Go.RowKit Go.Proofs
def X2(a b:ByteArray):Int:=compareBytes a.data.toList b.data.toList
theorem A84:∀ x y:List UInt8,compareBytes x y=if Go.Op.bytesLess x y=true then -1 else if Go.Op.bytesLess y x=true then 1 else 0
 | [],[]=>rfl
 | [],b :: y=>by simp [compareBytes,Go.Op.bytesLess]
 | a :: x,[]=>by simp [compareBytes,Go.Op.bytesLess]
 | a :: x,b :: y=>by
  have ih:=A84 x y
  rw[compareBytes]
  by_cases h1:a < b
  ·rw[if_pos h1,if_pos ((Y7 _ _ _ _).2 (.inl (UInt8.lt_iff_toNat_lt.1 h1)))]
  ·by_cases h2:b < a
   ·rw[if_neg h1,if_pos h2,if_neg,if_pos ((Y7 _ _ _ _).2 (.inl (UInt8.lt_iff_toNat_lt.1 h2)))]
    rw[Y7]
    rintro(k | ⟨rfl,_⟩)
    ·exact h1 (UInt8.lt_iff_toNat_lt.2 k)
    ·rw[UInt8.lt_iff_toNat_lt]at h2;omega
   ·have e:a=b:=UInt8.toNat_inj.1 (by rw[UInt8.lt_iff_toNat_lt]at h1 h2;omega)
    subst e
    rw[if_neg h1,if_neg h1,ih]
    have c:∀ u v:List UInt8,Go.Op.bytesLess (a :: u) (a :: v)=Go.Op.bytesLess u v:=fun u v=>by
     rw[Bool.eq_iff_iff,Y7]
     constructor
     ·rintro(k | ⟨_,k⟩)
      ·omega
      ·exact k
     ·exact fun k=>.inr ⟨rfl,k⟩
    rw[c,c]
theorem K3(a b:ByteArray):X2 a b=if sLt a b=true then -1 else if sLt b a=true then 1 else 0:=by
 unfold X2 sLt
 rw[ByteArray.toList_eq,ByteArray.toList_eq]
 exact A84 _ _
set_option maxHeartbeats 4000000 in
theorem A61 (a b:ByteArray) (w:World):Calls Tryz.prog 230 #[.string a,.string b] w fun e w'=>e=.returned (.int .i64 (X2 a b))∧w'=w:=by
 go_enter Tryz.func230,Tryz.ntmps230
 go_wp2
 rw[run_callFunc_extern Tryz.func271 (by kernel_rfl) (by kernel_rfl) (by kernel_rfl) (e:=Extern.BytealgCompare.compare) (by kernel_rfl),Lib.run_compareString]
 simp only [Result.andThen]
 rw[Oper.upon_value]
 go_wp2
 go_ret
 exact⟨rfl,rfl⟩
theorem con230(a b:ByteArray):Con Tryz.prog 230 [.s a,.s b] (.i .i64 (X2 a b)):=by
 refine⟨⟨_,Tryz.func230,by kernel_rfl,by kernel_rfl⟩,fun w S0 vs hS hl hv=>?_⟩
 obtain⟨v,u,rfl⟩:∃ v u,vs=[v,u]:=by
  match vs,hl with
  | [v,u],_=>exact⟨v,u,rfl⟩
 have h1:=hv 0 _ v rfl rfl
 have h2:=hv 1 _ u rfl rfl
 cases h1
 cases h2
 refine(A61 a b w).mono ?_
 rintro e w' ⟨rfl,rfl⟩
 exact⟨_,rfl,.i _ _,Below.refl _ _⟩
theorem con194(a b:ByteArray):Con Tryz.prog 194 [.s a,.s b] (.i .i64 (X2 a b)) :=
 by
 refine sC B3 [.tmp 4] 8 Tryz.func194 ?_
 intro e0 cx
 refine sq<|rG cx [0,1] [] z0<|sn<|sq<|rG cx [4] [] (fT (con230 (a) (b)) (oA 2 (.i .i64 (X2 a b)) z0))<|sn<|rT ?_
 exact Y2 (r:=.i .i64 (X2 a b)) (obl:=[]) (by kernel_rfl) trivial (A7.refl _)
end Go.Proofs.YtphcaholhacnpaaGreat
namespace Go.Proofs.YtphcaholhacnpaaGreat
open Go.E
set_option maxRecDepth 100000
set_option maxHeartbeats 4000000
def N4(c:Int):Bool:=decide (65≤c∧c≤90)
def P3(c:Int):Bool:=decide (48≤c∧c≤57)
def F4(c:Int):Bool:=decide (c=45∨c=46)
def H4(s:ByteArray)(i:Nat):Bool:=N4 (byt s i) || P3 (byt s i) || (F4 (byt s i) && decide (i≠0∧i+1≠s.size) && !F4 (byt s (i-1)))
def A9j(p:Nat→Bool):Nat→Bool
 | 0=>true
 | n+1=>A9j p n && p n
theorem I0(p:Nat→Bool):∀ n,A9j p n=true↔∀ i,i < n→p i=true
 | 0=>by simp [A9j]
 | n+1=>by
  rw[A9j,Bool.and_eq_true,I0 p n]
  constructor
  ·rintro⟨h1,h2⟩ i hi
   by_cases e:i=n
   ·rw[e];exact h2
   ·exact h1 i (by omega)
  ·intro h;exact⟨fun i hi=>h i (by omega),h n (by omega)⟩
def A2x(s:ByteArray):Int:=if s.size=0 then 20 else if 24 < s.size then 21 else if A9j (H4 s) s.size=true then 0 else 22
def F5(s:ByteArray):Bool:=decide (A2x s=0)
def B3g(s:ByteArray)(i:Int):Prop:=0≤i∧i≤s.size∧∀ j:Nat,(j:Int) < i→H4 s j=true
def decG(s:ByteArray)(i:Int):Nat:=(s.size-i).toNat
theorem Ae4{s:ByteArray}(h0:¬ s.size=0)(h1:¬ 24 < s.size){i:Nat}(hi:i < s.size)(h:H4 s i=false):A2x s=22:=by
 unfold A2x
 rw[if_neg h0,if_neg h1,if_neg]
 intro k
 have:=(I0 _ _).1 k i hi
 rw[h]at this;cases this
theorem Au0{s:ByteArray}(h0:¬ s.size=0)(h1:¬ 24 < s.size)(h:∀ j:Nat,j < s.size→H4 s j=true):A2x s=0:=by
 unfold A2x
 rw[if_neg h0,if_neg h1,if_pos ((I0 _ _).2 h)]
theorem A0f(s:ByteArray):s.size=0↔s=⟨#[]⟩:=by
 constructor
 ·intro h;exact ByteArray.ext (Array.eq_empty_of_size_eq_zero h)
 ·rintro rfl;rfl
theorem J1(s:ByteArray)(i:Nat):H4 s i=true↔N4 (byt s i)=true∨P3 (byt s i)=true∨(F4 (byt s i)=true∧i≠0∧i+1≠s.size∧¬ F4 (byt s (i-1))=true):=by
 unfold H4
 cases N4 (byt s i) <;> cases P3 (byt s i) <;> cases F4 (byt s i) <;> cases F4 (byt s (i-1)) <;> simp
theorem A2y{s:ByteArray}{i:Int}(h0:0≤i)(h1:i < s.size)(h2:∀ j:Nat,(j:Int) < i→H4 s j=true)(h:H4 s i.toNat=true):B3g s (i+1) :=
 ⟨by omega,by omega,fun j hj=>by
  by_cases e:j=i.toNat
  ·rw[e];exact h
  ·exact h2 j (by omega)⟩
theorem Q3{s:ByteArray}{i:Nat}(h:¬ H4 s i=true):H4 s i=false:=by simpa using h
theorem B3h(c:Int):Con Tryz.prog 213 [.i .u8 c] (.b (N4 c)) :=
 by
 refine sC B3 [.tmp 2] 9 Tryz.func213 ?_
 intro e0 cx
 refine sq<|rG cx [0] [] z0<|sn<|sq<|A9 (σ':=⟨[(2,.b (decide (65≤c∧c≤90)))],[]⟩) ?_ ?_
 refine A6 (65≤c) (fun h_1=>?_) (fun h_1=>?_)
 refine rG cx [2] [] (tT 1 (A4 h_1) (tB 4 (c≤90) (tD 6 (decide (c≤90)) (65≤c∧c≤90) (by simp only [eq_true h_1,tsl]) z0))) ?_
 exact⟨rfl,by kernel_rfl⟩
 refine rG cx [2] [] (tT 1 (A0 h_1) (tD 6 false (65≤c∧c≤90) (by simp only [eq_false h_1,tsl]) z0)) ?_
 exact⟨rfl,by kernel_rfl⟩
 refine sn<|rT<|qR (.b (decide (65≤c∧c≤90))) (.eq ?g0);rotate_left
 case g0=>exact rfl
theorem con214(c:Int):Con Tryz.prog 214 [.i .u8 c] (.b (P3 c)) :=
 by
 refine sC B3 [.tmp 2] 9 Tryz.func214 ?_
 intro e0 cx
 refine sq<|rG cx [0] [] z0<|sn<|sq<|A9 (σ':=⟨[(2,.b (decide (48≤c∧c≤57)))],[]⟩) ?_ ?_
 refine A6 (48≤c) (fun h_1=>?_) (fun h_1=>?_)
 refine rG cx [2] [] (tT 1 (A4 h_1) (tB 4 (c≤57) (tD 6 (decide (c≤57)) (48≤c∧c≤57) (by simp only [eq_true h_1,tsl]) z0))) ?_
 exact⟨rfl,by kernel_rfl⟩
 refine rG cx [2] [] (tT 1 (A0 h_1) (tD 6 false (48≤c∧c≤57) (by simp only [eq_false h_1,tsl]) z0)) ?_
 exact⟨rfl,by kernel_rfl⟩
 refine sn<|rT<|qR (.b (decide (48≤c∧c≤57))) (.eq ?g0);rotate_left
 case g0=>exact rfl
theorem A85(c:Int):Con Tryz.prog 215 [.i .u8 c] (.b (F4 c)) :=
 by
 refine sC B3 [.tmp 2] 9 Tryz.func215 ?_
 intro e0 cx
 refine sq<|rG cx [0] [] z0<|sn<|sq<|A9 (σ':=⟨[(2,.b (decide (c=45∨c=46)))],[]⟩) ?_ ?_
 refine A6 (c=45) (fun h_1=>?_) (fun h_1=>?_)
 refine rG cx [2] [] (tT 1 (A4 h_1) (tD 6 true (c=45∨c=46) (by simp only [eq_true h_1,tsl]) z0)) ?_
 exact⟨rfl,by kernel_rfl⟩
 refine rG cx [2] [] (tT 1 (A0 h_1) (tB 4 (c=46) (tD 6 (decide (c=46)) (c=45∨c=46) (by simp only [eq_false h_1,tsl]) z0))) ?_
 exact⟨rfl,by kernel_rfl⟩
 refine sn<|rT<|qR (.b (decide (c=45∨c=46))) (.eq ?g0);rotate_left
 case g0=>exact rfl
theorem B3i(c:Int):Con Tryz.prog 241 [.i .u8 c] (.b (N4 c)) :=
 by
 refine sC B3 [.tmp 2] 9 Tryz.func241 ?_
 intro e0 cx
 refine sq<|rG cx [0] [] z0<|sn<|sq<|A9 (σ':=⟨[(2,.b (decide (65≤c∧c≤90)))],[]⟩) ?_ ?_
 refine A6 (65≤c) (fun h_1=>?_) (fun h_1=>?_)
 refine rG cx [2] [] (tT 1 (A4 h_1) (tB 4 (c≤90) (tD 6 (decide (c≤90)) (65≤c∧c≤90) (by simp only [eq_true h_1,tsl]) z0))) ?_
 exact⟨rfl,by kernel_rfl⟩
 refine rG cx [2] [] (tT 1 (A0 h_1) (tD 6 false (65≤c∧c≤90) (by simp only [eq_false h_1,tsl]) z0)) ?_
 exact⟨rfl,by kernel_rfl⟩
 refine sn<|rT<|qR (.b (decide (65≤c∧c≤90))) (.eq ?g0);rotate_left
 case g0=>exact rfl
theorem con242(c:Int):Con Tryz.prog 242 [.i .u8 c] (.b (P3 c)) :=
 by
 refine sC B3 [.tmp 2] 9 Tryz.func242 ?_
 intro e0 cx
 refine sq<|rG cx [0] [] z0<|sn<|sq<|A9 (σ':=⟨[(2,.b (decide (48≤c∧c≤57)))],[]⟩) ?_ ?_
 refine A6 (48≤c) (fun h_1=>?_) (fun h_1=>?_)
 refine rG cx [2] [] (tT 1 (A4 h_1) (tB 4 (c≤57) (tD 6 (decide (c≤57)) (48≤c∧c≤57) (by simp only [eq_true h_1,tsl]) z0))) ?_
 exact⟨rfl,by kernel_rfl⟩
 refine rG cx [2] [] (tT 1 (A0 h_1) (tD 6 false (48≤c∧c≤57) (by simp only [eq_false h_1,tsl]) z0)) ?_
 exact⟨rfl,by kernel_rfl⟩
 refine sn<|rT<|qR (.b (decide (48≤c∧c≤57))) (.eq ?g0);rotate_left
 case g0=>exact rfl
theorem B3j(c:Int):Con Tryz.prog 243 [.i .u8 c] (.b (F4 c)) :=
 by
 refine sC B3 [.tmp 2] 9 Tryz.func243 ?_
 intro e0 cx
 refine sq<|rG cx [0] [] z0<|sn<|sq<|A9 (σ':=⟨[(2,.b (decide (c=45∨c=46)))],[]⟩) ?_ ?_
 refine A6 (c=45) (fun h_1=>?_) (fun h_1=>?_)
 refine rG cx [2] [] (tT 1 (A4 h_1) (tD 6 true (c=45∨c=46) (by simp only [eq_true h_1,tsl]) z0)) ?_
 exact⟨rfl,by kernel_rfl⟩
 refine rG cx [2] [] (tT 1 (A0 h_1) (tB 4 (c=46) (tD 6 (decide (c=46)) (c=45∨c=46) (by simp only [eq_false h_1,tsl]) z0))) ?_
 exact⟨rfl,by kernel_rfl⟩
 refine sn<|rT<|qR (.b (decide (c=45∨c=46))) (.eq ?g0);rotate_left
 case g0=>exact rfl
theorem con217(s:ByteArray)(i:Int)(h0:0≤i)(h1:i < s.size)(h2:s.size≤24):Con Tryz.prog 217 [.s s,.i .i64 i] (.b (H4 s i.toNat)) :=
 by
 refine sC B3 [.tmp 4] 33 Tryz.func217 ?_
 intro e0 cx
 refine sq<|rG cx [0,1] [] z0<|sn<|sq ?_
 have hl_0:=(R5 s)
 have hl_1:=(R5 s i.toNat)
 refine rG cx [0,1,5] [] (fA (0≤i) (fP (Option.map (fun b ↦ (↑b.toNat:Int)) s[i.toNat]?=some (byt s i.toNat)) (by(with_reducible refine A5b ?_;omega)) (oA 2 (.i .u8 (byt s i.toNat)) z0))) ?_
 refine sn<|sq<|sq<|A9 (σ':=⟨[(0,.s (s)),(1,.i .i64 (i)),(5,.i .u8 (byt s i.toNat)),(14,.b (decide (N4 (byt s i.toNat)=true∨P3 (byt s i.toNat)=true)))],[]⟩) ?_ ?_
 refine A6 (N4 (byt s i.toNat)=true) (fun h_3=>?_) (fun h_3=>?_)
 refine rg (A:=_∧_∧(AV.b true=AV.b (decide (N4 (byt s i.toNat)=true∨P3 (byt s i.toNat)=true)))) cx [(1,{ val:=some (.b (N4 (byt s i.toNat))),tell:=some (.b (true)) }),(5,{ tell:=some (.b (decide (N4 (byt s i.toNat)=true∨P3 (byt s i.toNat)=true))) })] [0,1,5,14] [] ⟨(L9 h_3),(B3i (byt s i.toNat)),(by simp only [eq_true h_3,tsl])⟩ ?_
 exact⟨rfl,by kernel_rfl⟩
 refine rg (A:=_∧_∧_∧(AV.b (P3 (byt s i.toNat))=AV.b (decide (N4 (byt s i.toNat)=true∨P3 (byt s i.toNat)=true)))) cx [(1,{ val:=some (.b (N4 (byt s i.toNat))),tell:=some (.b (false)) }),(4,{ val:=some (.b (P3 (byt s i.toNat))) }),(5,{ tell:=some (.b (decide (N4 (byt s i.toNat)=true∨P3 (byt s i.toNat)=true))) })] [0,1,5,14] [] ⟨(V8 h_3),(B3i (byt s i.toNat)),(con242 (byt s i.toNat)),(by simp only [eq_false h_3,tsl])⟩ ?_
 exact⟨rfl,by kernel_rfl⟩
 refine sn<|dC (N4 (byt s i.toNat)=true∨P3 (byt s i.toNat)=true) (fun h4=>?_) fun h4=>?_
 refine sq<|rG cx [4] [] z0<|sn<|rT<|nR<|qR (.b (true)) (.eq ?g0);rotate_left
 refine sK<|sn<|sq<|sq<|rG cx [0,1,17] [] (fT (B3j (byt s i.toNat)) (tT 2 (E8:(AV.b !F4 (byt s i.toNat))=AV.b (decide ¬F4 (byt s i.toNat)=true)) (oA 1 (.b (F4 (byt s i.toNat))) z0)))<|sn<|dC (¬F4 (byt s i.toNat)=true) (fun h5=>?_) fun h5=>?_
 refine sq<|rG cx [4] [] z0<|sn<|rT<|nR<|qR (.b (false)) (.eq ?g1);rotate_left
 refine sK<|sn<|sq<|sq<|A9 (σ':=⟨[(0,.s (s)),(1,.i .i64 (i)),(26,.b (decide (i=0∨i=(↑s.size:Int)-1)))],[]⟩) ?_ ?_
 refine A6 (i=0) (fun h_7=>?_) (fun h_7=>?_)
 refine rG cx [0,1,26] [] (tT 1 (A4 h_7) (tD 8 true (i=0∨i=(↑s.size:Int)-1) (by simp only [eq_true h_7,tsl]) z0)) ?_
 exact⟨rfl,by kernel_rfl⟩
 refine rG cx [0,1,26] [] (tT 1 (A0 h_7) (tW 6 ((↑s.size:Int)-1) (tB 7 (i=(↑s.size:Int)-1) (tD 8 (decide (i=(↑s.size:Int)-1)) (i=0∨i=(↑s.size:Int)-1) (by simp only [eq_false h_7,tsl]) z0)))) ?_
 exact⟨rfl,by kernel_rfl⟩
 refine sn<|dC (i=0∨i=(↑s.size:Int)-1) (fun h8=>?_) fun h8=>?_
 refine sq<|rG cx [4] [] z0<|sn<|rT<|nR<|qR (.b (false)) (.eq ?g2);rotate_left
 refine sK<|sn<|sq ?_
 have hl_9:=(R5 s (i-1).toNat)
 refine rG cx [4] [] (tW 2 (i-1) (fO (0≤i-1) (fP (Option.map (fun b ↦ (↑b.toNat:Int)) s[(i-1).toNat]?=some (byt s (i-1).toNat)) (by(with_reducible refine A5b ?_;omega)) (fT (B3j (byt s (i-1).toNat)) (tT 5 (E8:(AV.b !F4 (byt s (i-1).toNat))=AV.b (decide ¬F4 (byt s (i-1).toNat)=true)) (oA 3 (.i .u8 (byt s (i-1).toNat)) (oA 4 (.b (F4 (byt s (i-1).toNat))) z0))))))) ?_
 refine sn<|rT<|qR (.b (decide ¬F4 (byt s (i-1).toNat)=true)) (.eq ?g3);rotate_left
 revert h4;rotate_left
 revert h4 h5;rotate_left
 revert h4 h5 h8;rotate_left
 revert h4 h5 h8;rotate_left
 case' g3=>refine(fun h k l=>?_)
 case' g2=>refine(fun h k l=>?_)
 case' g1=>refine(fun h k=>?_)
 case' g0=>refine(fun h=>?_)
 ·rw[(J1 s i.toNat).2 (h.elim .inl fun h=>.inr (.inl h))]
 ·rw[Q3];rw[J1];rintro(a | a | a)
  ·exact h (.inl a)
  ·exact h (.inr a)
  ·exact k a.1
 ·rw[Q3];rw[J1];rintro(a | a | a)
  ·exact h (.inl a)
  ·exact h (.inr a)
  ·omega
 ·have e:(i-1).toNat=i.toNat-1:=by omega
  rw[e]
  by_cases m:F4 (byt s (i.toNat-1))=true
  ·rw[Q3]
   ·rw[m];rfl
   ·rw[J1];rintro(a | a | a)
    ·exact h (.inl a)
    ·exact h (.inr a)
    ·exact a.2.2.2 m
  ·rw[(J1 s i.toNat).2 (.inr (.inr ⟨Classical.not_not.1 k,by omega,by omega,m⟩)),decide_eq_true m]
theorem B3k(s:ByteArray):Con Tryz.prog 171 [.s s] (.tup [.dead,.i .i64 (A2x s)]) :=
 by
 refine sC B3 [.tmp 2,.tmp 3] 48 Tryz.func171 ?_
 intro e0 cx
 refine sq<|rG cx [0] [] z0<|sn<|sq<|sq<|rG cx [0,7] [] (tT 1 (A59:AV.b (s.toList == { data:=#[]:ByteArray }.toList)=AV.b (decide (s={ data:=#[]:ByteArray }))) z0)<|sn<|dC (s={ data:=#[]:ByteArray }) (fun hh0=>?_) fun hh0=>?_
 refine sq<|rG cx [2,3] [] z0<|sn<|rT<|nR<|qR (.tup [.i .i64 ((0:Int)),.i .i64 ((20:Int))]) (A7.tup (ZLe.cons A7.dead (ZLe.cons (A7.eq (show AV.i .i64 20=AV.i .i64 (A2x s)from ?g0)) ZLe.nil)));rotate_left
 refine sK<|sn<|sq<|rD cx [0,10] [] (zB 2 ((24:Int) <(↑s.size:Int))) (fun hh1=>?_) fun hh1=>?_
 refine sq<|rG cx [2,3] [] z0<|sn<|rT<|nR<|qR (.tup [.i .i64 ((0:Int)),.i .i64 ((21:Int))]) (A7.tup (ZLe.cons A7.dead (ZLe.cons (A7.eq (show AV.i .i64 21=AV.i .i64 (A2x s)from ?g1)) ZLe.nil)));rotate_left
 refine sK<|sn<|sq<|sq<|rG cx [0,12,13] [] z0<|sn<|bL 0<|sL (X:=Int) (fun x=>⟨[(0,.s (s)),(12,.i .i64 ((↑s.size:Int))),(13,.i .i64 (x))],[]⟩) (fun x ↦ decG s x) (fun x ↦ B3g s x) [0,12,13] [] ((0:Int)) (show B3g s (0:Int)from ?g2) ?_;rotate_left
 intro i2 h_3
 obtain⟨hh4,hh5,h6⟩:0≤i2∧i2≤(↑s.size:Int)∧∀(j:Nat),(↑j:Int) < i2→H4 s j=true:=h_3
 refine rE cx [0,12,13,14] [] (zB 0 (i2 <(↑s.size:Int))) (fun h7=>?_) fun h7=>?_
 refine sK<|sn<|sq<|bL 1<|sq<|rG cx [0,12,13,4] [] z0<|sn<|sq ?_
 have hl_8:=(R5 s)
 have hl_9:=(R5 s i2.toNat)
 refine rG cx [0,12,13,4,5] [] (fA (0≤i2) (fP (Option.map (fun b ↦ (↑b.toNat:Int)) s[i2.toNat]?=some (byt s i2.toNat)) (by(with_reducible refine A5b ?_;omega)) (oA 2 (.i .u8 (byt s i2.toNat)) z0))) ?_
 refine sn<|sq<|sq<|A9 (σ':=⟨[(0,.s (s)),(12,.i .i64 ((↑s.size:Int))),(13,.i .i64 (i2)),(4,.i .i64 (i2)),(5,.i .u8 (byt s i2.toNat)),(24,.b (decide (N4 (byt s i2.toNat)=true∨P3 (byt s i2.toNat)=true)))],[]⟩) ?_ ?_
 refine A6 (N4 (byt s i2.toNat)=true) (fun h_11=>?_) (fun h_11=>?_)
 refine rg (A:=_∧_∧(AV.b true=AV.b (decide (N4 (byt s i2.toNat)=true∨P3 (byt s i2.toNat)=true)))) cx [(1,{ val:=some (.b (N4 (byt s i2.toNat))),tell:=some (.b (true)) }),(5,{ tell:=some (.b (decide (N4 (byt s i2.toNat)=true∨P3 (byt s i2.toNat)=true))) })] [0,12,13,4,5,24] [] ⟨(L9 h_11),(B3h (byt s i2.toNat)),(by simp only [eq_true h_11,tsl])⟩ ?_
 exact⟨rfl,by kernel_rfl⟩
 refine rg (A:=_∧_∧_∧(AV.b (P3 (byt s i2.toNat))=AV.b (decide (N4 (byt s i2.toNat)=true∨P3 (byt s i2.toNat)=true)))) cx [(1,{ val:=some (.b (N4 (byt s i2.toNat))),tell:=some (.b (false)) }),(4,{ val:=some (.b (P3 (byt s i2.toNat))) }),(5,{ tell:=some (.b (decide (N4 (byt s i2.toNat)=true∨P3 (byt s i2.toNat)=true))) })] [0,12,13,4,5,24] [] ⟨(V8 h_11),(B3h (byt s i2.toNat)),(con214 (byt s i2.toNat)),(by simp only [eq_false h_11,tsl])⟩ ?_
 exact⟨rfl,by kernel_rfl⟩
 refine sn<|dC (N4 (byt s i2.toNat)=true∨P3 (byt s i2.toNat)=true) (fun h_12=>?_) fun h_12=>?_
 refine eX 1<|nE<|bH<|sn<|rG cx [0,12,13] [] (tW 0 (i2+1) z0)<|sn<|nX (i2+1) (show((↑s.size:Int)-(i2+1)).toNat <((↑s.size:Int)-i2).toNat from(by omega)) (show B3g s (i2+1)from ?g3);rotate_left
 refine sK<|sn<|sq<|A9 (σ':=⟨[(0,.s (s)),(12,.i .i64 ((↑s.size:Int))),(13,.i .i64 (i2)),(4,.i .i64 (i2)),(45,.b (decide (¬F4 (byt s i2.toNat)=true∨i2=0∨i2=(↑s.size:Int)-1∨F4 (byt s (i2-1).toNat)=true)))],[]⟩) ?_ ?_
 refine A6 (¬F4 (byt s i2.toNat)=true) (fun h_14=>?_) (fun h_14=>?_)
 have hl_15:=(R5 s (i2-1).toNat)
 refine rg (A:=_∧_∧(AV.b true=AV.b (decide (¬F4 (byt s i2.toNat)=true∨i2=0∨i2=(↑s.size:Int)-1∨F4 (byt s (i2-1).toNat)=true)))) cx [(1,{ val:=some (.b (F4 (byt s i2.toNat))),tell:=some (.b (false)) }),(20,{ tell:=some (.b (decide (¬F4 (byt s i2.toNat)=true∨i2=0∨i2=(↑s.size:Int)-1∨F4 (byt s (i2-1).toNat)=true))) })] [0,12,13,4,45] [] ⟨(V8 h_14),(A85 (byt s i2.toNat)),(by simp only [eq_false h_14,tsl])⟩ ?_
 exact⟨rfl,by kernel_rfl⟩
 refine A6 (i2=0) (fun h_16=>?_) (fun h_16=>?_)
 have hl_17:=(R5 s (i2-1).toNat)
 refine rG cx [0,12,13,4,45] [] (fT (A85 (byt s i2.toNat)) (tT 2 (E8:(AV.b !F4 (byt s i2.toNat))=AV.b (decide ¬F4 (byt s i2.toNat)=true)) (tT 3 (A0 h_14) (tT 5 (A4 h_16) (tT 20 (by first | (simp only [eq_false h_14,eq_true h_16,tsl];done) | simp_all:AV.b true=AV.b (decide (¬F4 (byt s i2.toNat)=true∨i2=0∨i2=(↑s.size:Int)-1∨F4 (byt s (i2-1).toNat)=true))) (oA 1 (.b (F4 (byt s i2.toNat))) z0)))))) ?_
 exact⟨rfl,by kernel_rfl⟩
 refine A6 (i2=(↑s.size:Int)-1) (fun h_18=>?_) (fun h_18=>?_)
 have hl_19:=(R5 s (i2-1).toNat)
 refine rG cx [0,12,13,4,45] [] (fT (A85 (byt s i2.toNat)) (tT 2 (E8:(AV.b !F4 (byt s i2.toNat))=AV.b (decide ¬F4 (byt s i2.toNat)=true)) (tT 3 (A0 h_14) (tT 5 (A0 h_16) (tW 11 ((↑s.size:Int)-1) (tT 12 (A4 h_18) (tT 20 (by first | (simp only [eq_false h_14,eq_false h_16,eq_true h_18,tsl];done) | simp_all:AV.b true=AV.b (decide (¬F4 (byt s i2.toNat)=true∨i2=0∨i2=(↑s.size:Int)-1∨F4 (byt s (i2-1).toNat)=true))) (oA 1 (.b (F4 (byt s i2.toNat))) z0)))))))) ?_
 exact⟨rfl,by kernel_rfl⟩
 have hl_20:=(R5 s (i2-1).toNat)
 refine rG cx [0,12,13,4,45] [] (fT (A85 (byt s i2.toNat)) (tT 2 (E8:(AV.b !F4 (byt s i2.toNat))=AV.b (decide ¬F4 (byt s i2.toNat)=true)) (tT 3 (A0 h_14) (tT 5 (A0 h_16) (tW 11 ((↑s.size:Int)-1) (tT 12 (A0 h_18) (tW 17 (i2-1) (fO (0≤i2-1) (fP (Option.map (fun b ↦ (↑b.toNat:Int)) s[(i2-1).toNat]?=some (byt s (i2-1).toNat)) (by(with_reducible refine A5b ?_;omega)) (fT (A85 (byt s (i2-1).toNat)) (tT 20 (by first | (simp only [eq_false h_14,eq_false h_16,eq_false h_18,tsl];done) | simp_all:AV.b (F4 (byt s (i2-1).toNat))=AV.b (decide (¬F4 (byt s i2.toNat)=true∨i2=0∨i2=(↑s.size:Int)-1∨F4 (byt s (i2-1).toNat)=true))) (oA 1 (.b (F4 (byt s i2.toNat))) (oA 18 (.i .u8 (byt s (i2-1).toNat)) (oA 19 (.b (F4 (byt s (i2-1).toNat))) z0)))))))))))))) ?_
 exact⟨rfl,by kernel_rfl⟩
 refine sn<|dC (¬F4 (byt s i2.toNat)=true∨i2=0∨i2=(↑s.size:Int)-1∨F4 (byt s (i2-1).toNat)=true) (fun h_21=>?_) fun h_21=>?_
 refine sq<|rG cx [2,3] [] z0<|sn<|rT<|bR<|nR<|nR<|bR<|nR<|qR (.tup [.i .i64 (i2),.i .i64 ((22:Int))]) (A7.tup (ZLe.cons A7.dead (ZLe.cons (A7.eq (show AV.i .i64 22=AV.i .i64 (A2x s)from ?g4)) ZLe.nil)));rotate_left
 refine sK<|bN<|sn<|rG cx [0,12,13] [] (tW 0 (i2+1) z0)<|sn<|nX (i2+1) (show((↑s.size:Int)-(i2+1)).toNat <((↑s.size:Int)-i2).toNat from(by omega)) (show B3g s (i2+1)from ?g5);rotate_left
 refine eX 0<|nE<|nE<|bH<|sn<|sq<|rG cx [2,3] [] z0<|sn<|rT<|qR (.tup [.i .i64 ((0:Int)),.i .i64 ((0:Int))]) (A7.tup (ZLe.cons A7.dead (ZLe.cons (A7.eq (show AV.i .i64 0=AV.i .i64 (A2x s)from ?g6)) ZLe.nil)));rotate_left
 revert hh0;rotate_left
 revert hh0 hh1;rotate_left
 revert hh0 hh1;rotate_left
 clear hl_9;revert hh0 hh1 i2 hh4 hh5 h6 h7 h_12;rotate_left
 clear hl_9;revert hh0 hh1 i2 hh4 hh5 h6 h7 h_12 h_21;rotate_left
 clear hl_9;revert hh0 hh1 i2 hh4 hh5 h6 h7 h_12 h_21;rotate_left
 revert hh0 hh1 i2 hh4 hh5 h6 h7;rotate_left
 case g2=>exact(fun h k=>⟨by omega,by omega,fun j hj=>by omega⟩)
 case' g6=>refine(fun h k i h0 h1 h2 h3=>?_)
 case' g5=>refine(fun h k i h0 h1 h2 h3 h4 h5=>?_)
 case' g4=>refine(fun h k i h0 h1 h2 h3 h4 h5=>?_)
 case' g3=>refine(fun h k i h0 h1 h2 h3 h4=>?_)
 case' g1=>refine(fun h k=>?_)
 case' g0=>refine(fun h=>?_)
 ·rw[A2x,if_pos ((A0f s).2 h)]
 ·rw[A2x,if_neg (fun e=>h ((A0f s).1 e)),if_pos (by omega)]
 ·exact A2y h0 h3 h2 ((J1 _ _).2 (h4.elim .inl fun h=>.inr (.inl h)))
 ·rw[Ae4 (fun e=>h ((A0f s).1 e)) (by omega) (i:=i.toNat) (by omega) (Q3 _)]
  have e:(i-1).toNat=i.toNat-1:=by omega
  rw[e]at h5
  rw[J1];rintro(a | a | a)
  ·exact h4 (.inl a)
  ·exact h4 (.inr a)
  ·rcases h5 with h5 | h5 | h5 | h5
   ·exact h5 a.1
   ·omega
   ·omega
   ·exact a.2.2.2 h5
 ·have e:(i-1).toNat=i.toNat-1:=by omega
  rw[e]at h5
  refine A2y h0 h3 h2 ((J1 _ _).2 (.inr (.inr ⟨Classical.byContradiction fun a=>h5 (.inl a),?_,?_,fun a=>h5 (.inr (.inr (.inr a)))⟩)))
  ·intro a;exact h5 (.inr (.inl (by omega)))
  ·intro a;exact h5 (.inr (.inr (.inl (by omega))))
 ·rw[Au0 (fun e=>h ((A0f s).1 e)) (by omega) fun j hj=>h2 j (by omega)]
theorem B3l(s:ByteArray):Con Tryz.prog 175 [.s s] (.tup [.dead,.i .i64 (A2x s)]) :=
 by
 refine sC B3 [.tmp 2,.tmp 3] 22 Tryz.func175 ?_
 intro e0 cx
 refine sq<|rG cx [0] [] z0<|sn<|sq<|rD cx [0,7] [] (zB 2 ((↑s.size:Int)=0)) (fun hh0=>?_) fun hh0=>?_
 refine sq<|rG cx [2,3] [] z0<|sn<|rT<|nR<|qR (.tup [.i .i64 ((0:Int)),.i .i64 ((20:Int))]) (A7.tup (ZLe.cons A7.dead (ZLe.cons (A7.eq (show AV.i .i64 20=AV.i .i64 (A2x s)from ?g0)) ZLe.nil)));rotate_left
 refine sK<|sn<|sq<|rD cx [0,10] [] (zB 2 ((24:Int) <(↑s.size:Int))) (fun hh1=>?_) fun hh1=>?_
 refine sq<|rG cx [2,3] [] z0<|sn<|rT<|nR<|qR (.tup [.i .i64 ((0:Int)),.i .i64 ((21:Int))]) (A7.tup (ZLe.cons A7.dead (ZLe.cons (A7.eq (show AV.i .i64 21=AV.i .i64 (A2x s)from ?g1)) ZLe.nil)));rotate_left
 refine sK<|sn<|sq<|sq<|rG cx [0,4] [] z0<|sn<|bL 0<|sL (X:=Int) (fun x=>⟨[(0,.s (s)),(4,.i .i64 (x))],[]⟩) (fun x ↦ decG s x) (fun x ↦ B3g s x) [0,4] [] ((0:Int)) (show B3g s (0:Int)from ?g2) ?_;rotate_left
 intro i2 h_3
 obtain⟨hh4,h5,h6⟩:0≤i2∧i2≤(↑s.size:Int)∧∀(j:Nat),(↑j:Int) < i2→H4 s j=true:=h_3
 refine sq<|rD cx [0,4,14] [] (zB 3 (i2 <(↑s.size:Int))) (fun h7=>?_) fun h7=>?_
 refine sK<|sn<|sq<|bL 1<|sq<|rG cx [0,4,20] [] (fT (con217 (s) (i2) (by(with_reducible assumption)) (by(with_reducible assumption)) (by omega)) (tT 3 (E8:(AV.b !H4 s i2.toNat)=AV.b (decide ¬H4 s i2.toNat=true)) (oA 2 (.b (H4 s i2.toNat)) z0)))<|sn<|dC (¬H4 s i2.toNat=true) (fun h8=>?_) fun h8=>?_
 refine sq<|rG cx [2,3] [] z0<|sn<|rT<|bR<|nR<|nR<|bR<|nR<|qR (.tup [.i .i64 (i2),.i .i64 ((22:Int))]) (A7.tup (ZLe.cons A7.dead (ZLe.cons (A7.eq (show AV.i .i64 22=AV.i .i64 (A2x s)from ?g3)) ZLe.nil)));rotate_left
 refine sK<|bN<|sn<|rG cx [0,4] [] (tW 1 (i2+1) z0)<|sn<|nX (i2+1) (show((↑s.size:Int)-(i2+1)).toNat <((↑s.size:Int)-i2).toNat from(by omega)) (show B3g s (i2+1)from ?g4);rotate_left
 refine eX 0<|nE<|nE<|bH<|sn<|sq<|rG cx [2,3] [] z0<|sn<|rT<|qR (.tup [.i .i64 ((0:Int)),.i .i64 ((0:Int))]) (A7.tup (ZLe.cons A7.dead (ZLe.cons (A7.eq (show AV.i .i64 0=AV.i .i64 (A2x s)from ?g5)) ZLe.nil)));rotate_left
 revert hh0;rotate_left
 revert hh0 hh1;rotate_left
 revert hh0 hh1;rotate_left
 revert hh0 hh1 i2 hh4 h5 h6 h7 h8;rotate_left
 revert hh0 hh1 i2 hh4 h5 h6 h7 h8;rotate_left
 revert hh0 hh1 i2 hh4 h5 h6 h7;rotate_left
 case g2=>exact(fun h k=>⟨by omega,by omega,fun j hj=>by omega⟩)
 case' g5=>refine(fun h k i h0 h1 h2 h3=>?_)
 case' g4=>refine(fun h k i h0 h1 h2 h3 h4=>?_)
 case' g3=>refine(fun h k i h0 h1 h2 h3 h4=>?_)
 case' g1=>refine(fun h k=>?_)
 case' g0=>refine(fun h=>?_)
 ·rw[A2x,if_pos (by omega)]
 ·rw[A2x,if_neg (by omega),if_pos (by omega)]
 ·rw[Ae4 (by omega) (by omega) (i:=i.toNat) (by omega) (Q3 h4)]
 ·exact A2y h0 h3 h2 (Classical.not_not.1 h4)
 ·rw[Au0 (by omega) (by omega) fun j hj=>h2 j (by omega)]
theorem A86(s:ByteArray):Con Tryz.prog 102 [.s s] (.b (F5 s)) :=
 by
 refine sC B3 [.tmp 2] 12 Tryz.func102 ?_
 intro e0 cx
 refine sq<|rG cx [0] [] z0<|sn<|sq<|rG cx [4] [] (fT (B3k (s)) (oA 1 (Ab3 (B3k (s))) z0))<|sn<|sq<|rG cx [2] [] (tB 1 (A2x s=0) z0)<|sn<|rT<|qR (.b (decide (A2x s=0))) (.eq ?g0);rotate_left
 case g0=>exact rfl
theorem A4j(s:ByteArray):Con Tryz.prog 106 [.s s] (.b (F5 s)) :=
 by
 refine sC B3 [.tmp 2] 12 Tryz.func106 ?_
 intro e0 cx
 refine sq<|rG cx [0] [] z0<|sn<|sq<|rG cx [4] [] (fT (B3l (s)) (oA 1 (Ab3 (B3l (s))) z0))<|sn<|sq<|rG cx [2] [] (tB 1 (A2x s=0) z0)<|sn<|rT<|qR (.b (decide (A2x s=0))) (.eq ?g0);rotate_left
 case g0=>exact rfl
end Go.Proofs.YtphcaholhacnpaaGreat
namespace Go.Proofs.YtphcaholhacnpaaGreat
open Go.E
set_option maxRecDepth 100000
set_option maxHeartbeats 4000000
theorem ordSt:Ord3 X2:=by
 refine⟨fun x y=>?_,fun x y=>?_,fun x y z h1 h2=>?_,fun x y z h1 h2=>?_⟩
 ·rw[K3];split <;>(try split) <;> simp
 ·rw[K3,K3]
  by_cases a:sLt x y=true
  ·have b:¬ sLt y x=true:=fun b=>L3 _ (Q2 a b)
   rw[if_pos a,if_neg b,if_pos a];rfl
  ·by_cases b:sLt y x=true
   ·rw[if_pos b,if_neg a,if_pos b]
   ·rw[if_neg b,if_neg a,if_neg a,if_neg b];rfl
 ·rw[K3]at *
  by_cases c:sLt x z=true
  ·rw[if_pos c];omega
  ·rw[if_neg c]
   by_cases d:sLt z x=true
   ·exfalso
    by_cases a:sLt x y=true
    ·have e:sLt z y=true:=Q2 d a
     have f:¬ sLt y z=true:=fun f=>L3 _ (Q2 e f)
     rw[if_neg f,if_pos e]at h2
     omega
    ·by_cases b:sLt y x=true
     ·rw[if_neg a,if_pos b]at h1;omega
     ·have:=V0 a b
      subst this
      rw[if_neg c,if_pos d]at h2
      omega
   ·rw[if_neg d];omega
 ·rw[K3]at *
  have eq:∀ u v:ByteArray,(if sLt u v=true then(-1:Int)else if sLt v u=true then 1 else 0)=0→u=v:=by
   intro u v h
   by_cases a:sLt u v=true
   ·rw[if_pos a]at h;omega
   ·by_cases b:sLt v u=true
    ·rw[if_neg a,if_pos b]at h;omega
    ·exact V0 a b
  have e1:=eq _ _ h1
  have e2:=eq _ _ h2
  subst e1 e2
  rw[if_neg (L3 x),if_neg (L3 x)]
theorem A4k{a b:ByteArray}:X2 a b=0↔a=b:=by
 rw[K3]
 constructor
 ·intro h
  by_cases c:sLt a b=true
  ·rw[if_pos c]at h;omega
  ·by_cases d:sLt b a=true
   ·rw[if_neg c,if_pos d]at h;omega
   ·exact V0 c d
 ·rintro rfl
  rw[if_neg (L3 _),if_neg (L3 _)]
def J2(r s:Record):Int:=if X2 r.sku s.sku≠0 then X2 r.sku s.sku else A2w r.past s.past
theorem ordRec:Ord3 J2:=A0e ordSt ordP (fun r:Record=>r.sku) (fun r=>r.past)
def E3:ByteArray:=⟨#[]⟩
noncomputable def ckR(r:Record):Int:=if ¬ r.sku=E3∧F5 r.sku=false then 5 else if ¬ r.past=A5 r.past∨C5 r.past=0 then 1 else 0
noncomputable def Ay6(rs:List Record)(i:Nat):Bool:=decide (ckR rs[i]! = 0) && (decide (i=0) || decide (J2 rs[i-1]! rs[i]! < 0))
noncomputable def okLR(rs:List Record):Bool:=A9j (Ay6 rs) rs.length
noncomputable def W6(rs:List Record):Int:=if okLR rs=true then 0 else 1
def upR(rs:List Record):Prop:=rs.Pairwise fun r s=>J2 r s < 0
def formR(rs:List Record):Prop:=(∀ r∈rs,ckR r=0)∧upR rs
theorem ck_ok{r:Record}:ckR r=0↔(r.sku=E3∨F5 r.sku=true)∧r.past=A5 r.past∧¬ C5 r.past=0:=by
 unfold ckR
 by_cases a:¬ r.sku=E3∧F5 r.sku=false
 ·rw[if_pos a]
  constructor
  ·intro h;omega
  ·rintro⟨k | k,_⟩
   ·exact absurd k a.1
   ·rw[a.2]at k;cases k
 ·rw[if_neg a]
  by_cases b:¬ r.past=A5 r.past∨C5 r.past=0
  ·rw[if_pos b]
   constructor
   ·intro h;omega
   ·rintro⟨_,h1,h2⟩
    rcases b with b | b
    ·exact absurd h1 b
    ·exact absurd b h2
  ·rw[if_neg b]
   refine⟨fun _=>⟨?_,Classical.byContradiction fun k=>b (.inl k),fun k=>b (.inr k)⟩,fun _=>rfl⟩
   by_cases c:r.sku=E3
   ·exact .inl c
   ·right
    cases e:F5 r.sku with
    | true=>rfl
    | false=>exact absurd ⟨c,e⟩ a
theorem M2(rs:List Record)(i:Nat):Ay6 rs i=true↔ckR rs[i]! = 0∧(i=0∨J2 rs[i-1]! rs[i]! < 0):=by
 unfold Ay6
 rw[Bool.and_eq_true,Bool.or_eq_true,decide_eq_true_iff,decide_eq_true_iff,decide_eq_true_iff]
theorem Au1{rs:List Record}(h:∀ i:Nat,0 < i→i < rs.length→J2 rs[i-1]! rs[i]! < 0):upR rs:=by
 have key:∀ d i:Nat,i+d+1 < rs.length→J2 rs[i]! rs[i+d+1]! < 0:=by
  intro d
  induction d with
  | zero=>intro i hi;exact h (i+1) (by omega) hi
  | succ d ih =>
   intro i hi
   have h1:=ih i (by omega)
   have h2:=h (i+d+2) (by omega) (by omega)
   rw[show i+d+2-1=i+d+1 by omega]at h2
   rw[show i+(d+1)+1=i+d+2 by omega]
   exact ordRec.lt h1 (by omega)
 unfold upR
 rw[List.pairwise_iff_getElem]
 intro i j hi hj hij
 have:=key (j-i-1) i (by omega)
 rw[show i+(j-i-1)+1=j by omega,getElem!_pos rs i hi,getElem!_pos rs j hj]at this
 exact this
theorem B1r(rs:List Record):okLR rs=true↔formR rs:=by
 unfold okLR
 rw[I0]
 constructor
 ·intro h
  refine⟨fun r hr=>?_,Au1 fun i h0 hi=>?_⟩
  ·obtain⟨i,hi,rfl⟩:=List.mem_iff_getElem.1 hr
   have:=((M2 _ _).1 (h i hi)).1
   rwa [getElem!_pos rs i hi]at this
  ·rcases((M2 _ _).1 (h i hi)).2 with k | k
   ·omega
   ·exact k
 ·intro h i hi
  rw[M2]
  refine⟨h.1 _ (E1 hi),?_⟩
  by_cases e:i=0
  ·exact .inl e
  ·right
   have:=List.pairwise_iff_getElem.1 h.2 (i-1) i (by omega) hi (by omega)
   rw[← getElem!_pos rs (i-1) (by omega),← getElem!_pos rs i hi]at this
   exact this
theorem B1s(rs:List Record):W6 rs=0↔formR rs:=by
 rw[← B1r]
 unfold W6
 split
 ·rename_i h;simp [h]
 ·rename_i h;simp [h]
theorem A62{rs:List Record}{i:Nat}(hi:i < rs.length)(h:¬ Ay6 rs i=true):W6 rs=1:=by
 unfold W6 okLR
 rw[if_neg]
 intro k
 exact h ((I0 _ _).1 k i hi)
theorem Au2{rs:List Record}(h:∀ j:Nat,j < rs.length→Ay6 rs j=true):W6 rs=0:=by
 unfold W6 okLR
 rw[if_pos ((I0 _ _).2 h)]
end Go.Proofs.YtphcaholhacnpaaGreat
namespace Go.Proofs.YtphcaholhacnpaaGreat
open Go.E
set_option maxRecDepth 100000
set_option maxHeartbeats 4000000
def szR(r:Record):Prop:=r.past.cloud.length*16≤140737488350000
def szRs(rs:List Record):Prop:=∀ r∈rs,szR r
theorem A63{rs:List Record}(h:szRs rs){i:Int}(h0:0≤i)(hi:i < rs.length):szR rs[i.toNat]!:=h _ (E1 (by omega))
theorem B1t{rs:List Record}(h:szRs rs){i:Int}(h0:0 < i)(hi:i < rs.length):szR rs[(i-1).toNat]!:=h _ (E1 (by omega))
def A87(rs:List Record)(i:Int):Prop:=0≤i∧i≤rs.length∧∀ j:Nat,(j:Int) < i→Ay6 rs j=true
def decKc(rs:List Record)(i:Int):Nat:=(rs.length-i).toNat
theorem A0x{rs:List Record}{i:Int}(h0:0≤i)(h1:i < rs.length)(h2:∀ j:Nat,(j:Int) < i→Ay6 rs j=true)(h:Ay6 rs i.toNat=true):A87 rs (i+1) :=
 ⟨by omega,by omega,fun j hj=>by
  by_cases e:j=i.toNat
  ·rw[e];exact h
  ·exact h2 j (by omega)⟩
theorem Au3(r:Record)(hb:szR r):Con Tryz.prog 204 [.agg (c54 r)] (.i .i64 (ckR r)) :=
 by
 have g:∀ {b:Bool},¬ b=true→b=false:=fun {b} h=>by cases b <;> simp_all
 refine sC B3 [.tmp 2] 21 Tryz.func204 ?_
 intro e0 cx
 refine sq<|rG cx [1] [1] z0<|sn<|sq<|sq<|A9 (σ':=⟨[(1,.ptr (1) (0) (0) (0)),(11,.b (decide (¬r.sku={ data:=#[]:ByteArray }∧¬F5 r.sku=true)))],[(1,⟨0,54,.var [.s (r.sku),.sl (List.map c3 r.past.vec),.sl (List.map B1 r.past.cloud)]⟩)]⟩) ?_ ?_
 refine A6 (¬r.sku={ data:=#[]:ByteArray }) (fun h_1=>?_) (fun h_1=>?_)
 refine rG cx [1,11] [1] (tT 2 (A7i h_1:(AV.b !r.sku.toList == { data:=#[]:ByteArray }.toList)=AV.b true) (fT (A86 (r.sku)) (tT 7 (E8:(AV.b !F5 r.sku)=AV.b (decide ¬F5 r.sku=true)) (tD 8 (decide ¬F5 r.sku=true) (¬r.sku={ data:=#[]:ByteArray }∧¬F5 r.sku=true) (by simp only [eq_false h_1,tsl]) (oA 6 (.b (F5 r.sku)) z0))))) ?_
 exact⟨rfl,by kernel_rfl⟩
 refine rG cx [1,11] [1] (tT 2 (Ab1:(AV.b !r.sku.toList == { data:=#[]:ByteArray }.toList)=AV.b (decide ¬r.sku={ data:=#[]:ByteArray })) (tT 3 (A0 h_1) (tT 8 (by first | (simp only [eq_false h_1,tsl];done) | simp_all:AV.b false=AV.b (decide (¬r.sku={ data:=#[]:ByteArray }∧¬F5 r.sku=true))) z0))) ?_
 exact⟨rfl,by kernel_rfl⟩
 refine sn<|dC (¬r.sku={ data:=#[]:ByteArray }∧¬F5 r.sku=true) (fun h2=>?_) fun h2=>?_
 refine sq<|rG cx [2] [] z0<|sn<|rT<|nR<|qR (.i .i64 ((5:Int))) (.eq (by unfold ckR;rw[if_pos ⟨h2.1,g h2.2⟩]))
 refine sK<|sn<|sq<|sq<|A9 (σ':=⟨[(20,.b (decide (¬r.past=A5 r.past∨C5 r.past=0)))],[]⟩) ?_ ?_
 refine A6 (¬r.past=A5 r.past) (fun h4=>?_) (fun h4=>?_)
 refine rg (A:=_∧_∧(AV.b true=AV.b (decide (¬r.past=A5 r.past∨C5 r.past=0)))) cx [(2,{ val:=some (.b (decide (r.past=A5 r.past))),tell:=some (.b (false)) }),(8,{ tell:=some (.b (decide (¬r.past=A5 r.past∨C5 r.past=0))) })] [20] [] ⟨(A0 h4),(A08 (r.past) (by exact hb)),(by simp only [eq_false h4,tsl])⟩ ?_
 exact⟨rfl,by kernel_rfl⟩
 refine rG cx [20] [] (fT (A08 (r.past) (by exact hb)) (tQ 3 (r.past=A5 r.past) (tT 4 (A0 h4) (fT (B5j (r.past) (by exact hb)) (tT 8 (by first | (simp only [eq_false h4,tsl];done) | simp_all:AV.b (decide (C5 r.past=0))=AV.b (decide (¬r.past=A5 r.past∨C5 r.past=0))) (oA 2 (.b (decide (r.past=A5 r.past))) (oA 7 (.b (decide (C5 r.past=0))) z0))))))) ?_
 exact⟨rfl,by kernel_rfl⟩
 refine sn<|dC (¬r.past=A5 r.past∨C5 r.past=0) (fun h5=>?_) fun h5=>?_
 refine sq<|rG cx [2] [] z0<|sn<|rT<|nR<|qR (.i .i64 ((1:Int))) (.eq (by unfold ckR;rw[if_neg (fun c=>h2 ⟨c.1,by rw[c.2];simp⟩),if_pos h5]))
 refine sK<|sn<|sq<|rG cx [2] [] z0<|sn<|rT<|qR (.i .i64 ((0:Int))) (.eq (by unfold ckR;rw[if_neg (fun c=>h2 ⟨c.1,by rw[c.2];simp⟩),if_neg h5]))
theorem con141(r s:Record)(hr:szR r)(hs:szR s):Con Tryz.prog 141 [.agg (c54 r),.agg (c54 s)] (.i .i64 (J2 r s)) :=
 by
 refine sC B3 [.tmp 4] 19 Tryz.func141 ?_
 intro e0 cx
 refine sq<|rG cx [2,3] [2,3] z0<|sn<|sq<|sq<|rG cx [2,3,5] [2,3] (fT (con194 (r.sku) (s.sku)) (oA 4 (.i .i64 (X2 r.sku s.sku)) z0))<|sn<|sq<|rG cx [2,3,5,12] [2,3] (tN 1 (X2 r.sku s.sku) (0:Int) z0)<|sn<|dC (¬X2 r.sku s.sku=0) (fun h0=>?_) fun h0=>?_
 refine sq<|rG cx [4] [] z0<|sn<|rT<|nR<|qR (.i .i64 (X2 r.sku s.sku)) (.eq (by unfold J2;rw[if_pos h0]))
 refine sK<|sn<|sq<|rG cx [4] [] (fT (con195 (r.past) (s.past) (by exact hr) (by exact hs)) (oA 4 (.i .i64 (A2w r.past s.past)) z0)) ?_
 refine sn<|rT<|qR (.i .i64 (A2w r.past s.past)) (.eq (by unfold J2;rw[if_neg h0]))
theorem con160(rs:List Record)(hb:szRs rs):Con Tryz.prog 160 [.sl (rs.map c54)] (.i .i64 (W6 rs)) :=
 by
 have e:∀ {i:Int},0≤i→(i-1).toNat=i.toNat-1:=fun {i} h=>by omega
 refine lN 0 c54 (rs) Tryz.func160 fun hl_0=>sC B3 [.tmp 2] 30 Tryz.func160 ?_
 intro e0 cx
 refine sq<|rG cx [0] [] z0<|sn<|sq<|sq<|rG cx [0,5,6,7] [] (tL 1 c54 rs z0)<|sn<|bL 0<|sL (X:=Int) (fun x=>⟨[(0,.sl (List.map c54 rs)),(5,.sl (List.map c54 rs)),(6,.i .i64 ((↑rs.length:Int))),(7,.i .i64 (x))],[]⟩) (fun x ↦ decKc rs x) (fun x ↦ A87 rs x) [0,5,6,7] [] ((0:Int)) (show A87 rs (0:Int)from(by exact⟨by omega,by omega,fun j hj=>by omega⟩)) ?_
 intro i0 h_1
 obtain⟨hh2,hh3,hh4⟩:0≤i0∧i0≤(↑rs.length:Int)∧∀(j:Nat),(↑j:Int) < i0→Ay6 rs j=true:=h_1
 refine rE cx [0,5,6,7,8] [] (zB 0 (i0 <(↑rs.length:Int))) (fun hh5=>?_) fun hh5=>?_
 refine sK<|sn<|sq<|bL 1<|sq<|rG cx [0,5,6,7,4,3] [4] (fA (0≤i0) (fG c54 rs i0.toNat (fR 3 (fN 3 3 (oR 1 (c54 rs[i0.toNat]!) z0)))))<|sn<|sq<|A9 (σ':=⟨[(0,.sl (List.map c54 rs)),(5,.sl (List.map c54 rs)),(6,.i .i64 ((↑rs.length:Int))),(7,.i .i64 (i0)),(28,.b (decide (¬ckR rs[i0.toNat]! =(0:Int)∨(0:Int) < i0∧0≤J2 rs[(i0-1).toNat]! rs[i0.toNat]!)))],[]⟩) ?_ ?_
 refine A6 (¬ckR rs[i0.toNat]! =(0:Int)) (fun h7=>?_) (fun h7=>?_)
 refine rA cx [0,5,6,7,28] [] (fT (Au3 (rs[i0.toNat]!) (by exact A63 hb hh2 hh5)) (tT 2 (G2 h7:AV.b (ckR rs[i0.toNat]! !=0)=AV.b true) (tD 16 true (¬ckR rs[i0.toNat]! =(0:Int)∨(0:Int) < i0∧0≤J2 rs[(i0-1).toNat]! rs[i0.toNat]!) (by simp only [eq_false h7,tsl]) (oA 1 (.i .i64 (ckR rs[i0.toNat]!)) z0)))) ?_
 exact⟨rfl,by kernel_rfl⟩
 refine A6 ((0:Int) < i0) (fun h8=>?_) (fun h8=>?_)
 refine rA cx [0,5,6,7,28] [] (fT (Au3 (rs[i0.toNat]!) (by exact A63 hb hh2 hh5)) (tN 2 (ckR rs[i0.toNat]!) (0:Int) (tT 3 (A0 h7) (tT 5 (A4 h8) (tW 9 (i0-1) (fO (0≤i0-1) (fG c54 rs ((i0-1).toNat) (fR 3 (fN 3 3 (fT (con141 (rs[(i0-1).toNat]!) (rs[i0.toNat]!) (by exact B1t hb h8 hh5) (by exact A63 hb hh2 hh5)) (tB 14 (0≤J2 rs[(i0-1).toNat]! rs[i0.toNat]!) (tT 16 (by first | (simp only [eq_false h7,eq_true h8,tsl];done) | simp_all:AV.b (decide (0≤J2 rs[(i0-1).toNat]! rs[i0.toNat]!))=AV.b (decide (¬ckR rs[i0.toNat]! =(0:Int)∨(0:Int) < i0∧0≤J2 rs[(i0-1).toNat]! rs[i0.toNat]!))) (oA 1 (.i .i64 (ckR rs[i0.toNat]!)) (oR 10 (c54 rs[(i0-1).toNat]!) (oA 13 (.i .i64 (J2 rs[(i0-1).toNat]! rs[i0.toNat]!)) z0))))))))))))))) ?_
 exact⟨rfl,by kernel_rfl⟩
 refine rA cx [0,5,6,7,28] [] (fT (Au3 (rs[i0.toNat]!) (by exact A63 hb hh2 hh5)) (tN 2 (ckR rs[i0.toNat]!) (0:Int) (tT 3 (A0 h7) (tT 5 (A0 h8) (tT 16 (by first | (simp only [eq_false h7,eq_false h8,tsl];done) | simp_all:AV.b false=AV.b (decide (¬ckR rs[i0.toNat]! =(0:Int)∨(0:Int) < i0∧0≤J2 rs[(i0-1).toNat]! rs[i0.toNat]!))) (oA 1 (.i .i64 (ckR rs[i0.toNat]!)) z0)))))) ?_
 exact⟨rfl,by kernel_rfl⟩
 refine sn<|dC (¬ckR rs[i0.toNat]! =(0:Int)∨(0:Int) < i0∧0≤J2 rs[(i0-1).toNat]! rs[i0.toNat]!) (fun h9=>?_) fun h9=>?_
 refine sq<|rG cx [2] [] z0<|sn<|rT<|bR<|nR<|nR<|bR<|nR<|qR (.i .i64 ((1:Int))) (.eq ?g6);rotate_left
 refine sK<|bN<|sn<|rG cx [0,5,6,7] [] (tW 0 (i0+1) z0)<|sn<|nX (i0+1) (show((↑rs.length:Int)-(i0+1)).toNat <((↑rs.length:Int)-i0).toNat from(by omega)) (show A87 rs (i0+1)from ?g7);rotate_left
 refine eX 0<|nE<|nE<|bH<|sn<|sq<|rG cx [2] [] z0<|sn<|rT<|qR (.i .i64 ((0:Int))) (.eq (by rw[Au2 fun j hj=>hh4 j (by omega)]))
 case g6 =>
  revert i0 hh2 hh3 hh4 hh5 h9
  intro i h0 h1 h2 h3 h4
  rw[A62 (i:=i.toNat) (by omega)]
  rw[e h0]at h4
  rw[M2]
  rintro⟨a,b⟩
  rcases h4 with h4 | ⟨h4,h5⟩
  ·exact h4 a
  ·omega
 case g7 =>
  rw[e hh2]at h9
  refine A0x hh2 hh5 hh4 ((M2 _ _).2 ⟨Classical.byContradiction fun a=>h9 (.inl a),?_⟩)
  by_cases c:i0.toNat=0
  ·exact .inl c
  ·exact .inr (Classical.byContradiction fun a=>h9 (.inr ⟨by omega,by omega⟩))
end Go.Proofs.YtphcaholhacnpaaGreat
namespace Go.Proofs.YtphcaholhacnpaaGreat
open Go.E
set_option maxRecDepth 100000
set_option maxHeartbeats 4000000
def A9k(x y:Past)(r:Int)(u:List Int)(c:List Span)(v:List Int)(d:List Span):Prop:=u=x.vec∧c=x.cloud∧v=y.vec∧d=y.cloud∧0≤r∧r≤16∧A8k x.vec y.vec r
def decRc(r:Int)(u:List Int)(c:List Span)(v:List Int)(d:List Span):Nat:=(16-r).toNat
def B5o(x y:Past)(i:Int)(u:List Int)(c:List Span)(v:List Int)(d:List Span):Prop:=c=x.cloud∧d=y.cloud∧0≤i∧i≤x.cloud.length∧i≤y.cloud.length∧M4 x.cloud y.cloud=M4 (x.cloud.drop i.toNat) (y.cloud.drop i.toNat)
def decRd2(x:Past)(i:Int)(u:List Int)(c:List Span)(v:List Int)(d:List Span):Nat:=(x.cloud.length-i).toNat
theorem A2z(a b:Int):Con Tryz.prog 225 [.i .i64 a,.i .i64 b] (.i .i64 (H1 a b)) :=
 by
 refine sC B3 [.tmp 4] 11 Tryz.func225 ?_
 intro e0 cx
 refine sq<|rG cx [0,1] [] z0<|sn<|sq<|rD cx [0,1,7] [] (zB 2 (a < b)) (fun h0=>?_) fun h0=>?_
 refine sq<|rG cx [4] [] z0<|sn<|rT<|nR<|qR (.i .i64 ((-1:Int))) (.eq (by unfold H1;rw[if_pos h0]))
 refine sK<|sn<|sq<|rD cx [10] [] (zB 2 (b < a)) (fun h1=>?_) fun h1=>?_
 refine sq<|rG cx [4] [] z0<|sn<|rT<|nR<|qR (.i .i64 ((1:Int))) (.eq (by unfold H1;rw[if_neg h0,if_pos h1]))
 refine sK<|sn<|sq<|rG cx [4] [] z0<|sn<|rT<|qR (.i .i64 ((0:Int))) (.eq (by unfold H1;rw[if_neg h0,if_neg h1]))
theorem con185(p q:Past)(hb:p.cloud.length*16≤140737488350000)(hq:q.cloud.length*16≤140737488350000):Con Tryz.prog 185 [.agg (c26 p),.agg (c26 q)] (.i .i64 (A2w p q)) :=
 by
 have D:∀ {r:Int} {u v:List Int},u=(A5 p).vec→v=(A5 q).vec→0≤r→r < 16→∀ {a b:Int},u[r.toNat]! = a→v[r.toNat]! = b→¬ a=b→A8k (A5 p).vec (A5 q).vec r→H1 a b=A2w p q:=by
  intro r u v e1 e3 h0 h1 a b ha hb hn h
  rw[e1]at ha
  rw[e3]at hb
  have e:=At8 h0 h1 (by rw[ha,hb];exact hn) h
  rw[ha,hb]at e
  exact(B3d e (Y6 hn)).symm
 have N:∀ {r:Int} {u v:List Int} {c d:List Span},u=(A5 p).vec→c=(A5 p).cloud→v=(A5 q).vec→d=(A5 q).cloud→0≤r→r < 16→∀ {a b:Int},u[r.toNat]! = a→v[r.toNat]! = b→¬ ¬ a=b→A8k (A5 p).vec (A5 q).vec r→A9k (A5 p) (A5 q) (r+1) u c v d:=by
  intro r u v c d e1 e2 e3 e4 h0 h1 a b ha hb hn h
  have e:=At9 h0 h1 (by rw[← e1,← e3,ha,hb];exact Classical.not_not.1 hn) h
  exact⟨e1,e2,e3,e4,e.1,e.2.1,e.2.2⟩
 have S1:∀ {s t:Span},¬ s.rep=t.rep→H1 s.rep t.rep=A0w s t:=fun {s t} h=>by unfold A0w;rw[if_pos (Y6 h)]
 have S2:∀ {s t:Span},s.rep=t.rep→¬ s.lo=t.lo→H1 s.lo t.lo=A0w s t:=fun {s t} h0 h=>by unfold A0w;rw[if_neg (fun k=>k (N3.2 h0)),if_pos (Y6 h)]
 have S3:∀ {s t:Span},s.rep=t.rep→s.lo=t.lo→H1 s.hi t.hi=A0w s t:=fun {s t} h0 h=>by unfold A0w;rw[if_neg (fun k=>k (N3.2 h0)),if_neg (fun k=>k (N3.2 h))]
 have E:∀ {i z:Int} {c d:List Span},c=(A5 p).cloud→d=(A5 q).cloud→0≤i→(i < c.length∧i < d.length)→M4 (A5 p).cloud (A5 q).cloud=M4 ((A5 p).cloud.drop i.toNat) ((A5 q).cloud.drop i.toNat)→A82 (A5 p).vec (A5 q).vec 0 16=0→¬ z=0→z=A0w c[i.toNat]! d[i.toNat]!→z=A2w p q:=by
  intro i z c d e1 e2 h0 hl h hf hz e
  rw[e1,e2]at hl e
  rw[A60 hf,At5 h0 hl.1 hl.2 (by rw[← e];exact hz) h]
  exact e
 refine sC B3 [.tmp 4] 106 Tryz.func185 ?_
 intro e0 cx
 refine sq<|rG cx [2,3] [2,3] z0<|sn<|sq<|rG cx [2,3] [2,3] (fT (B5g (p) (by(with_reducible assumption))) (oA 1 (.agg [.sl (List.map c3 (A5 p).vec),.sl (List.map B1 (A5 p).cloud)]) z0))<|sn<|sq<|rG cx [2,3] [2,3] (fT (B5g (q) (by(with_reducible assumption))) (oA 1 (.agg [.sl (List.map c3 (A5 q).vec),.sl (List.map B1 (A5 q).cloud)]) z0))<|sn<|sq<|sq<|rG cx [2,3,5] [2,3] z0<|sn<|bL 0<|sL (X:=Int×List Int×List Span×List Int×List Span) (fun x=>⟨[(2,.ptr (2) (0) (0) (0)),(3,.ptr (3) (0) (0) (0)),(5,.i .i64 (x.1))],[(2,⟨0,26,.var [.sl (List.map c3 x.2.1),.sl (List.map B1 x.2.2.1)]⟩),(3,⟨0,26,.var [.sl (List.map c3 x.2.2.2.1),.sl (List.map B1 x.2.2.2.2)]⟩)]⟩) (fun x ↦ decRc x.1 x.2.1 x.2.2.1 x.2.2.2.1 x.2.2.2.2) (fun x ↦ A9k (A5 p) (A5 q) x.1 x.2.1 x.2.2.1 x.2.2.2.1 x.2.2.2.2) [2,3,5] [2,3] (((0:Int),(A5 p).vec,(A5 p).cloud,(A5 q).vec,(A5 q).cloud)) (show A9k (A5 p) (A5 q) (0:Int) (A5 p).vec (A5 p).cloud (A5 q).vec (A5 q).cloud from(by exact⟨Eq.refl _,Eq.refl _,Eq.refl _,Eq.refl _,by omega,by omega,Eq.refl _⟩)) ?_
 rintro⟨r0,u1,c2,v3,d4⟩ h_5
 obtain⟨h6,h7,h8,h9,h10,h11,h12⟩:u1=(A5 p).vec∧c2=(A5 p).cloud∧v3=(A5 q).vec∧d4=(A5 q).cloud∧0≤r0∧r0≤16∧A8k (A5 p).vec (A5 q).vec r0:=h_5
 refine sq<|rD cx [2,3,5,16] [2,3] (zB 1 (r0 <(16:Int))) (fun h13=>?_) fun h13=>?_
 refine sK<|sn<|sq<|bL 1<|sq<|rG cx [2,3,5,6,7] [2,3] z0<|sn<|sq<|rD cx [2,3,5,6,7,23] [2,3] (tL 3 c3 u1 (zB 4 (r0 <(↑u1.length:Int)))) (fun h14=>?_) fun h14=>?_
 refine rG cx [2,3,5,6,7] [2,3] (fA (0≤r0) (fG c3 u1 r0.toNat (fR 1 (oR 3 (c3 u1[r0.toNat]!) z0))))<|sn<|sq<|rD cx [2,3,5,6,7,33] [2,3] (tL 3 c3 v3 (zB 4 (r0 <(↑v3.length:Int)))) (fun h15=>?_) fun h15=>?_
 refine rG cx [2,3,5,6,7] [2,3] (fA (0≤r0) (fG c3 v3 r0.toNat (fR 1 (oR 3 (c3 v3[r0.toNat]!) z0))))<|sn<|sq<|rG cx [2,3,5,6,7,41] [2,3] (tN 2 u1[r0.toNat]! v3[r0.toNat]! z0)<|sn<|dC (¬u1[r0.toNat]! = v3[r0.toNat]!) (fun h16=>?_) fun h16=>?_
 refine sq<|rG cx [4] [] (fT (A2z (u1[r0.toNat]!) (v3[r0.toNat]!)) (oA 2 (.i .i64 (H1 u1[r0.toNat]! v3[r0.toNat]!)) z0))<|sn<|rT<|bR<|nR<|nR<|bR<|nR<|qR (.i .i64 (H1 u1[r0.toNat]! v3[r0.toNat]!)) (.eq (by exact congrArg (AV.i .i64) (D h6 h8 h10 h13 (Eq.refl _) (Eq.refl _) h16 h12)))
 refine sK<|bN<|sn<|rG cx [2,3,5] [2,3] (tW 1 (r0+1) z0)<|sn<|nX ((r0+1,u1,c2,v3,d4)) (show(16-(r0+1)).toNat <(16-r0).toNat from(by omega)) (show A9k (A5 p) (A5 q) (r0+1) u1 c2 v3 d4 from(by exact N h6 h7 h8 h9 h10 h13 (Eq.refl _) (Eq.refl _) h16 h12))
 refine sK<|sn<|sq<|rG cx [2,3,5,6,7,41] [2,3] (tN 2 u1[r0.toNat]! (0:Int) z0)<|sn<|dC (¬u1[r0.toNat]! =(0:Int)) (fun h17=>?_) fun h17=>?_
 refine sq<|rG cx [4] [] (fT (A2z (u1[r0.toNat]!) ((0:Int))) (oA 2 (.i .i64 (H1 u1[r0.toNat]! (0:Int))) z0))<|sn<|rT<|bR<|nR<|nR<|bR<|nR<|qR (.i .i64 (H1 u1[r0.toNat]! (0:Int))) (.eq (by exact congrArg (AV.i .i64) (D h6 h8 h10 h13 (Eq.refl _) (L2 h10 h15) h17 h12)))
 refine sK<|bN<|sn<|rG cx [2,3,5] [2,3] (tW 1 (r0+1) z0)<|sn<|nX ((r0+1,u1,c2,v3,d4)) (show(16-(r0+1)).toNat <(16-r0).toNat from(by omega)) (show A9k (A5 p) (A5 q) (r0+1) u1 c2 v3 d4 from(by exact N h6 h7 h8 h9 h10 h13 (Eq.refl _) (L2 h10 h15) h17 h12))
 refine sK<|sn<|sq<|rD cx [2,3,5,6,7,33] [2,3] (tL 3 c3 v3 (zB 4 (r0 <(↑v3.length:Int)))) (fun h18=>?_) fun h18=>?_
 refine rG cx [2,3,5,6,7] [2,3] (fA (0≤r0) (fG c3 v3 r0.toNat (fR 1 (oR 3 (c3 v3[r0.toNat]!) z0))))<|sn<|sq<|rG cx [2,3,5,6,7,41] [2,3] (tN 2 (0:Int) v3[r0.toNat]! z0)<|sn<|dC (¬0=v3[r0.toNat]!) (fun h19=>?_) fun h19=>?_
 refine sq<|rG cx [4] [] (fT (A2z ((0:Int)) (v3[r0.toNat]!)) (oA 2 (.i .i64 (H1 (0:Int) v3[r0.toNat]!)) z0))<|sn<|rT<|bR<|nR<|nR<|bR<|nR<|qR (.i .i64 (H1 (0:Int) v3[r0.toNat]!)) (.eq (by exact congrArg (AV.i .i64) (D h6 h8 h10 h13 (L2 h10 h14) (Eq.refl _) h19 h12)))
 refine sK<|bN<|sn<|rG cx [2,3,5] [2,3] (tW 1 (r0+1) z0)<|sn<|nX ((r0+1,u1,c2,v3,d4)) (show(16-(r0+1)).toNat <(16-r0).toNat from(by omega)) (show A9k (A5 p) (A5 q) (r0+1) u1 c2 v3 d4 from(by exact N h6 h7 h8 h9 h10 h13 (L2 h10 h14) (Eq.refl _) h19 h12))
 refine sK<|sn<|sq<|rG cx [2,3,5,6,7,41] [2,3] z0<|sn<|R6 (by kernel_rfl) (by kernel_rfl)<|sK<|bN<|sn<|rG cx [2,3,5] [2,3] (tW 1 (r0+1) z0)<|sn<|nX ((r0+1,u1,c2,v3,d4)) (show(16-(r0+1)).toNat <(16-r0).toNat from(by omega)) (show A9k (A5 p) (A5 q) (r0+1) u1 c2 v3 d4 from(by exact N h6 h7 h8 h9 h10 h13 (L2 h10 h14) (L2 h10 h18) (fun k=>k (Eq.refl _)) h12))
 refine eX 0<|nE<|nE<|bH<|sn<|sq<|sq<|rG cx [2,3,8] [2,3] z0<|sn<|bL 2<|sL (X:=Int×List Int×List Span×List Int×List Span) (fun x=>⟨[(2,.ptr (2) (0) (0) (0)),(3,.ptr (3) (0) (0) (0)),(8,.i .i64 (x.1))],[(2,⟨0,26,.var [.sl (List.map c3 x.2.1),.sl (List.map B1 x.2.2.1)]⟩),(3,⟨0,26,.var [.sl (List.map c3 x.2.2.2.1),.sl (List.map B1 x.2.2.2.2)]⟩)]⟩) (fun x ↦ decRd2 (A5 p) x.1 x.2.1 x.2.2.1 x.2.2.2.1 x.2.2.2.2) (fun x ↦ B5o (A5 p) (A5 q) x.1 x.2.1 x.2.2.1 x.2.2.2.1 x.2.2.2.2) [2,3,8] [2,3] (((0:Int),u1,c2,v3,d4)) (show B5o (A5 p) (A5 q) (0:Int) u1 c2 v3 d4 from(by exact⟨h7,h9,by omega,by omega,by omega,Eq.refl _⟩)) ?_
 rintro⟨i20,u21,c22,v23,d24⟩ h_25
 obtain⟨h26,h27,h28,h29,h30,h31⟩:c22=(A5 p).cloud∧d24=(A5 q).cloud∧0≤i20∧i20≤(↑(A5 p).cloud.length:Int)∧i20≤(↑(A5 q).cloud.length:Int)∧M4 (A5 p).cloud (A5 q).cloud=M4 (List.drop i20.toNat (A5 p).cloud) (List.drop i20.toNat (A5 q).cloud):=h_25
 refine sq<|sq<|A9 (σ':=⟨[(2,.ptr (2) (0) (0) (0)),(3,.ptr (3) (0) (0) (0)),(8,.i .i64 (i20)),(56,.b (decide (i20 <(↑c22.length:Int)∧i20 <(↑d24.length:Int))))],[(2,⟨0,26,.var [.sl (List.map c3 u21),.sl (List.map B1 c22)]⟩),(3,⟨0,26,.var [.sl (List.map c3 v23),.sl (List.map B1 d24)]⟩)]⟩) ?_ ?_
 refine A6 (i20 <(↑c22.length:Int)) (fun h_33=>?_) (fun h_33=>?_)
 refine rG cx [2,3,8,56] [2,3] (tL 3 B1 c22 (tT 4 (A4 h_33) (tL 9 B1 d24 (tB 10 (i20 <(↑d24.length:Int)) (tD 11 (decide (i20 <(↑d24.length:Int))) (i20 <(↑c22.length:Int)∧i20 <(↑d24.length:Int)) (by simp only [eq_true h_33,tsl]) z0))))) ?_
 exact⟨rfl,by kernel_rfl⟩
 refine rG cx [2,3,8,56] [2,3] (tL 3 B1 c22 (tT 4 (A0 h_33) (tD 11 false (i20 <(↑c22.length:Int)∧i20 <(↑d24.length:Int)) (by simp only [eq_false h_33,tsl]) z0))) ?_
 exact⟨rfl,by kernel_rfl⟩
 refine sn<|dC (i20 <(↑c22.length:Int)∧i20 <(↑d24.length:Int)) (fun h34=>?_) fun h34=>?_
 refine sK<|sn<|sq<|bL 3<|sq<|rA cx [2,3,8,9,10] [2,3,9,10] (fA (0≤i20) (fG B1 c22 i20.toNat (fR 3 (fN 3 3 (fA (0≤i20) (fG B1 d24 i20.toNat (fR 3 (fN 3 3 (oR 3 (B1 c22[i20.toNat]!) (oR 8 (B1 d24[i20.toNat]!) z0))))))))))<|sn<|sq<|sq<|rG cx [2,3,8,9,10,73] [2,3,9,10] (tN 4 c22[i20.toNat]!.rep d24[i20.toNat]!.rep z0)<|sn<|dC (¬c22[i20.toNat]!.rep=d24[i20.toNat]!.rep) (fun h35=>?_) fun h35=>?_
 refine sq<|rG cx [4] [] (fT (A2z (c22[i20.toNat]!.rep) (d24[i20.toNat]!.rep)) (oA 4 (.i .i64 (H1 c22[i20.toNat]!.rep d24[i20.toNat]!.rep)) z0))<|sn<|rT<|nR<|bR<|nR<|nR<|bR<|nR<|qR (.i .i64 (H1 c22[i20.toNat]!.rep d24[i20.toNat]!.rep)) (.eq ?g9);rotate_left
 refine sK<|sn<|sq<|sq<|rG cx [2,3,8,9,10,83] [2,3,9,10] (tN 4 c22[i20.toNat]!.lo d24[i20.toNat]!.lo z0)<|sn<|dC (¬c22[i20.toNat]!.lo=d24[i20.toNat]!.lo) (fun h36=>?_) fun h36=>?_
 refine sq<|rG cx [4] [] (fT (A2z (c22[i20.toNat]!.lo) (d24[i20.toNat]!.lo)) (oA 4 (.i .i64 (H1 c22[i20.toNat]!.lo d24[i20.toNat]!.lo)) z0))<|sn<|rT<|nR<|bR<|nR<|nR<|bR<|nR<|qR (.i .i64 (H1 c22[i20.toNat]!.lo d24[i20.toNat]!.lo)) (.eq ?g10);rotate_left
 refine sK<|sn<|sq<|rG cx [2,3,8,9,10,93] [2,3,9,10] (tN 4 c22[i20.toNat]!.hi d24[i20.toNat]!.hi z0)<|sn<|dC (¬c22[i20.toNat]!.hi=d24[i20.toNat]!.hi) (fun h37=>?_) fun h37=>?_
 refine sq<|rG cx [4] [] (fT (A2z (c22[i20.toNat]!.hi) (d24[i20.toNat]!.hi)) (oA 4 (.i .i64 (H1 c22[i20.toNat]!.hi d24[i20.toNat]!.hi)) z0))<|sn<|rT<|bR<|nR<|nR<|bR<|nR<|qR (.i .i64 (H1 c22[i20.toNat]!.hi d24[i20.toNat]!.hi)) (.eq ?g11);rotate_left
 refine sK<|bN<|sn<|rG cx [2,3,8] [2,3] (tT 1 (B4 (by omega) (by have:=(A0a (A3 [p])).1;have h29:i20≤((H9 (A3 [p])).cloud.length:Int):=h29;omega):AV.i .i64 (IntKind.i64.wrap (i20+1))=AV.i .i64 (i20+1)) z0) ?_
 refine sn<|nX ((i20+1,u21,c22,v23,d24)) (show((↑(A5 p).cloud.length:Int)-(i20+1)).toNat <((↑(A5 p).cloud.length:Int)-i20).toNat from ?g13) (show B5o (A5 p) (A5 q) (i20+1) u21 c22 v23 d24 from ?g14);rotate_left 2
 refine eX 2<|nE<|nE<|bH<|sn<|sq<|rG cx [4] [] (tL 2 B1 c22 (tL 5 B1 d24 (fT (A2z ((↑c22.length:Int)) ((↑d24.length:Int))) (oA 6 (.i .i64 (H1 (↑c22.length:Int) (↑d24.length:Int))) z0))))<|sn<|rT<|qR (.i .i64 (H1 (↑c22.length:Int) (↑d24.length:Int))) (.eq ?g15);rotate_left
 case g9 =>
  exact congrArg (AV.i .i64) (E h26 h27 h28 h34 h31 (A83 h11 h13 h12) (Y6 h35) (S1 h35))
 case g10 =>
  exact congrArg (AV.i .i64) (E h26 h27 h28 h34 h31 (A83 h11 h13 h12) (Y6 h36) (S2 (Classical.not_not.1 h35) h36))
 case g11 =>
  exact congrArg (AV.i .i64) (E h26 h27 h28 h34 h31 (A83 h11 h13 h12) (Y6 h37) (S3 (Classical.not_not.1 h35) (Classical.not_not.1 h36)))
 case g13 =>
  rw[h26]at h34
  generalize (A5 p).cloud.length=L at *
  omega
 case g14 =>
  have k6':=h34
  rw[h26,h27]at k6'
  have e:A0w c22[i20.toNat]! d24[i20.toNat]! = 0:=by rw[← S3 (Classical.not_not.1 h35) (Classical.not_not.1 h36)];exact N3.2 (Classical.not_not.1 h37)
  rw[h26,h27]at e
  have:=At6 h28 k6'.1 k6'.2 e h31
  exact⟨h26,h27,this.1,this.2.1,this.2.2.1,this.2.2.2⟩
 case g15 =>
  rw[h26,h27]at h34 ⊢
  refine congrArg (AV.i .i64) ?_
  rw[A60 (A83 h11 h13 h12)]
  by_cases a:i20 <((A5 p).cloud.length:Int)
  ·have b:¬ i20 <((A5 q).cloud.length:Int):=fun b=>h34 ⟨a,b⟩
   rw[At2 h28 a b h31]
   unfold H1
   rw[if_neg (by omega),if_pos (by omega)]
  ·by_cases b:i20 <((A5 q).cloud.length:Int)
   ·rw[At3 h28 a b h31]
    unfold H1
    rw[if_pos (by omega)]
   ·rw[At4 a b h31]
    unfold H1
    rw[if_neg (by omega),if_neg (by omega)]
end Go.Proofs.YtphcaholhacnpaaGreat
namespace Go.Proofs.YtphcaholhacnpaaGreat
open Go.E
set_option maxRecDepth 100000
set_option maxHeartbeats 4000000
def dLt(a b:Dot):Bool:=decide (a.rep < b.rep∨a.rep=b.rep∧a.num < b.num)
def S5(e:Entry):Int:=if e.dot.rep < 0∨16≤e.dot.rep then 3 else if e.dot.num < 1∨1000000000 < e.dot.num then 2 else if F5 e.sku=false then 5 else if e.qty < 1∨1000000 < e.qty then 6 else 0
def Am0(es:List Entry)(i:Nat):Bool:=decide (S5 es[i]! = 0) && (decide (i=0) || dLt es[i-1]!.dot es[i]!.dot)
def okL(es:List Entry):Bool:=A9j (Am0 es) es.length
def C3(es:List Entry):Int:=if okL es=true then 0 else 1
def B5p(es:List Entry)(i:Int):Prop:=0≤i∧i≤es.length∧∀ j:Nat,(j:Int) < i→Am0 es j=true
def decL(es:List Entry)(i:Int):Nat:=(es.length-i).toNat
theorem Ae5{es:List Entry}{i:Nat}(hi:i < es.length)(h:Am0 es i=false):C3 es=1:=by
 unfold C3 okL
 rw[if_neg]
 intro k
 have:=(I0 _ _).1 k i hi
 rw[h]at this;cases this
theorem Au4{es:List Entry}(h:∀ j:Nat,j < es.length→Am0 es j=true):C3 es=0:=by
 unfold C3 okL
 rw[if_pos ((I0 _ _).2 h)]
theorem W7(es:List Entry)(i:Nat):Am0 es i=true↔S5 es[i]! = 0∧(i=0∨dLt es[i-1]!.dot es[i]!.dot=true):=by
 unfold Am0
 rw[Bool.and_eq_true,Bool.or_eq_true,decide_eq_true_iff,decide_eq_true_iff]
theorem A88{es:List Entry}{i:Int}(h0:0≤i)(h1:i < es.length)(h2:∀ j:Nat,(j:Int) < i→Am0 es j=true)(h:Am0 es i.toNat=true):B5p es (i+1) :=
 ⟨by omega,by omega,fun j hj=>by
  by_cases e:j=i.toNat
  ·rw[e];exact h
  ·exact h2 j (by omega)⟩
theorem Ae6{es:List Entry}{i:Nat}(h:¬ Am0 es i=true):Am0 es i=false:=by simpa using h
theorem B5q(e:Entry):Con Tryz.prog 98 [.agg (c46 e)] (.i .i64 (S5 e)) :=
 by
 refine sC B3 [.tmp 2] 39 Tryz.func98 ?_
 intro e0 cx
 refine sq<|rG cx [1] [1] z0<|sn<|sq<|bL 0<|sq<|A9 (σ':=⟨[(1,.ptr (1) (0) (0) (0)),(3,.b (decide (e.dot.rep <(0:Int)∨16≤e.dot.rep)))],[(1,⟨0,46,.var [.i .i64 (e.dot.rep),.i .i64 (e.dot.num),.s (e.sku),.i .i64 (e.qty)]⟩)]⟩) ?_ ?_
 refine A6 (e.dot.rep <(0:Int)) (fun h_1=>?_) (fun h_1=>?_)
 refine rG cx [1,3] [1] (tT 3 (A4 h_1) (tD 10 true (e.dot.rep <(0:Int)∨16≤e.dot.rep) (by simp only [eq_true h_1,tsl]) z0)) ?_
 exact⟨rfl,by kernel_rfl⟩
 refine rG cx [1,3] [1] (tT 3 (A0 h_1) (tB 8 (16≤e.dot.rep) (tD 10 (decide (16≤e.dot.rep)) (e.dot.rep <(0:Int)∨16≤e.dot.rep) (by simp only [eq_false h_1,tsl]) z0))) ?_
 exact⟨rfl,by kernel_rfl⟩
 refine sn<|dC (e.dot.rep <(0:Int)∨16≤e.dot.rep) (fun h2=>?_) fun h2=>?_
 refine sq<|rG cx [2] [] z0<|sn<|rT<|bR<|nR<|qR (.i .i64 ((3:Int))) (.eq ?g0);rotate_left
 refine sq<|A9 (σ':=⟨[(1,.ptr (1) (0) (0) (0)),(14,.b (decide (e.dot.num <(1:Int)∨(1000000000:Int) < e.dot.num)))],[(1,⟨0,46,.var [.i .i64 (e.dot.rep),.i .i64 (e.dot.num),.s (e.sku),.i .i64 (e.qty)]⟩)]⟩) ?_ ?_
 refine A6 (e.dot.num <(1:Int)) (fun h_4=>?_) (fun h_4=>?_)
 refine rG cx [1,14] [1] (tT 3 (A4 h_4) (tD 10 true (e.dot.num <(1:Int)∨(1000000000:Int) < e.dot.num) (by simp only [eq_true h_4,tsl]) z0)) ?_
 exact⟨rfl,by kernel_rfl⟩
 refine rG cx [1,14] [1] (tT 3 (A0 h_4) (tB 8 ((1000000000:Int) < e.dot.num) (tD 10 (decide ((1000000000:Int) < e.dot.num)) (e.dot.num <(1:Int)∨(1000000000:Int) < e.dot.num) (by simp only [eq_false h_4,tsl]) z0))) ?_
 exact⟨rfl,by kernel_rfl⟩
 refine sn<|dC (e.dot.num <(1:Int)∨(1000000000:Int) < e.dot.num) (fun h5=>?_) fun h5=>?_
 refine sq<|rG cx [2] [] z0<|sn<|rT<|bR<|nR<|qR (.i .i64 ((2:Int))) (.eq ?g1);rotate_left
 refine sq<|rG cx [1,25] [1] (fT (A86 (e.sku)) (tT 3 (E8:(AV.b !F5 e.sku)=AV.b (decide ¬F5 e.sku=true)) (oA 2 (.b (F5 e.sku)) z0)))<|sn<|dC (¬F5 e.sku=true) (fun h6=>?_) fun h6=>?_
 refine sq<|rG cx [2] [] z0<|sn<|rT<|bR<|nR<|qR (.i .i64 ((5:Int))) (.eq ?g2);rotate_left
 refine sq<|A9 (σ':=⟨[(30,.b (decide (e.qty <(1:Int)∨(1000000:Int) < e.qty)))],[]⟩) ?_ ?_
 refine A6 (e.qty <(1:Int)) (fun h_8=>?_) (fun h_8=>?_)
 refine rG cx [30] [] (tT 2 (A4 h_8) (tD 8 true (e.qty <(1:Int)∨(1000000:Int) < e.qty) (by simp only [eq_true h_8,tsl]) z0)) ?_
 exact⟨rfl,by kernel_rfl⟩
 refine rG cx [30] [] (tT 2 (A0 h_8) (tB 6 ((1000000:Int) < e.qty) (tD 8 (decide ((1000000:Int) < e.qty)) (e.qty <(1:Int)∨(1000000:Int) < e.qty) (by simp only [eq_false h_8,tsl]) z0))) ?_
 exact⟨rfl,by kernel_rfl⟩
 refine sn<|dC (e.qty <(1:Int)∨(1000000:Int) < e.qty) (fun h9=>?_) fun h9=>?_
 refine sq<|rG cx [2] [] z0<|sn<|rT<|bR<|nR<|qR (.i .i64 ((6:Int))) (.eq ?g3);rotate_left
 refine sK<|bN<|sn<|sq<|rG cx [2] [] z0<|sn<|rT<|qR (.i .i64 ((0:Int))) (.eq ?g4);rotate_left
 revert h2;rotate_left
 revert h2 h5;rotate_left
 revert h2 h5 h6;rotate_left
 revert h2 h5 h6 h9;rotate_left
 revert h2 h5 h6 h9;rotate_left
 case' g4=>refine(fun h k l m=>?_)
 case' g3=>refine(fun h k l m=>?_)
 case' g2=>refine(fun h k l=>?_)
 case' g1=>refine(fun h k=>?_)
 case' g0=>refine(fun h=>?_)
 all_goals (unfold S5)
 ·rw[if_pos h]
 ·rw[if_neg h,if_pos k]
 ·rw[if_neg h,if_neg k,if_pos (by simpa using l)]
 ·rw[if_neg h,if_neg k,if_neg (by simpa using l),if_pos m]
 ·rw[if_neg h,if_neg k,if_neg (by simpa using l),if_neg m]
theorem con99(a b:Dot):Con Tryz.prog 99 [.agg (c44 a),.agg (c44 b)] (.b (dLt a b)) :=
 by
 refine sC B3 [.tmp 4] 24 Tryz.func99 ?_
 intro e0 cx
 refine sq<|rG cx [2,3] [2,3] z0<|sn<|sq<|A9 (σ':=⟨[(4,.b (decide (a.rep < b.rep∨a.rep=b.rep∧a.num < b.num)))],[]⟩) ?_ ?_
 refine A6 (a.rep < b.rep) (fun h_1=>?_) (fun h_1=>?_)
 refine rG cx [4] [] (tT 4 (A4 h_1) (tD 19 true (a.rep < b.rep∨a.rep=b.rep∧a.num < b.num) (by simp only [eq_true h_1,tsl]) z0)) ?_
 exact⟨rfl,by kernel_rfl⟩
 refine A6 (a.rep=b.rep) (fun h_2=>?_) (fun h_2=>?_)
 refine rG cx [4] [] (tT 4 (A0 h_1) (tT 10 (A4 h_2) (tB 16 (a.num < b.num) (tD 19 (decide (a.num < b.num)) (a.rep < b.rep∨a.rep=b.rep∧a.num < b.num) (by simp only [eq_false h_1,eq_true h_2,tsl]) z0)))) ?_
 exact⟨rfl,by kernel_rfl⟩
 refine rG cx [4] [] (tT 4 (A0 h_1) (tT 10 (A0 h_2) (tD 19 false (a.rep < b.rep∨a.rep=b.rep∧a.num < b.num) (by simp only [eq_false h_1,eq_false h_2,tsl]) z0))) ?_
 exact⟨rfl,by kernel_rfl⟩
 refine sn<|rT<|qR (.b (decide (a.rep < b.rep∨a.rep=b.rep∧a.num < b.num))) (.eq ?g0);rotate_left
 case g0=>exact rfl
theorem M3(es:List Entry):Con Tryz.prog 24 [.sl (es.map c46)] (.i .i64 (C3 es)) :=
 by
 have e:∀ {i:Int},0≤i→(i-1).toNat=i.toNat-1:=fun {i} h=>by omega
 refine lN 0 c46 (es) Tryz.func24 fun hl_0=>sC B3 [.tmp 2] 32 Tryz.func24 ?_
 intro e0 cx
 refine sq<|rG cx [0] [] z0<|sn<|sq<|sq<|rG cx [0,5,6,7] [] (tL 1 c46 es z0)<|sn<|bL 0<|sL (X:=Int) (fun x=>⟨[(0,.sl (List.map c46 es)),(5,.sl (List.map c46 es)),(6,.i .i64 ((↑es.length:Int))),(7,.i .i64 (x))],[]⟩) (fun x ↦ decL es x) (fun x ↦ B5p es x) [0,5,6,7] [] ((0:Int)) (show B5p es (0:Int)from ?g0) ?_;rotate_left
 intro i0 h_1
 obtain⟨hh2,hh3,hh4⟩:0≤i0∧i0≤(↑es.length:Int)∧∀(j:Nat),(↑j:Int) < i0→Am0 es j=true:=h_1
 refine rE cx [0,5,6,7,8] [] (zB 0 (i0 <(↑es.length:Int))) (fun hh5=>?_) fun hh5=>?_
 refine sK<|sn<|sq<|bL 1<|sq<|rG cx [0,5,6,7,4,3] [4] (fA (0≤i0) (fG c46 es i0.toNat (fR 4 (fN 4 4 (oR 1 (c46 es[i0.toNat]!) z0)))))<|sn<|sq<|A9 (σ':=⟨[(0,.sl (List.map c46 es)),(5,.sl (List.map c46 es)),(6,.i .i64 ((↑es.length:Int))),(7,.i .i64 (i0)),(30,.b (decide (¬S5 es[i0.toNat]! =(0:Int)∨(0:Int) < i0∧¬dLt es[(i0-1).toNat]!.dot es[i0.toNat]!.dot=true)))],[]⟩) ?_ ?_
 refine A6 (¬S5 es[i0.toNat]! =(0:Int)) (fun h_7=>?_) (fun h_7=>?_)
 refine rA cx [0,5,6,7,30] [] (fT (B5q (es[i0.toNat]!)) (tT 2 (G2 h_7:AV.b (S5 es[i0.toNat]! !=0)=AV.b true) (tD 18 true (¬S5 es[i0.toNat]! =(0:Int)∨(0:Int) < i0∧¬dLt es[(i0-1).toNat]!.dot es[i0.toNat]!.dot=true) (by simp only [eq_false h_7,tsl]) (oA 1 (.i .i64 (S5 es[i0.toNat]!)) z0)))) ?_
 exact⟨rfl,by kernel_rfl⟩
 refine A6 ((0:Int) < i0) (fun h_8=>?_) (fun h_8=>?_)
 refine rA cx [0,5,6,7,30] [] (fT (B5q (es[i0.toNat]!)) (tN 2 (S5 es[i0.toNat]!) (0:Int) (tT 3 (A0 h_7) (tT 5 (A4 h_8) (tW 9 (i0-1) (fO (0≤i0-1) (fG c46 es ((i0-1).toNat) (fR 4 (fN 2 4 (fT (con99 (es[(i0-1).toNat]!.dot) (es[i0.toNat]!.dot)) (tT 16 (E8:(AV.b !dLt es[(i0-1).toNat]!.dot es[i0.toNat]!.dot)=AV.b (decide ¬dLt es[(i0-1).toNat]!.dot es[i0.toNat]!.dot=true)) (tT 18 (by first | (simp only [eq_false h_7,eq_true h_8,tsl];done) | simp_all:AV.b (decide ¬dLt es[(i0-1).toNat]!.dot es[i0.toNat]!.dot=true)=AV.b (decide (¬S5 es[i0.toNat]! =(0:Int)∨(0:Int) < i0∧¬dLt es[(i0-1).toNat]!.dot es[i0.toNat]!.dot=true))) (oA 1 (.i .i64 (S5 es[i0.toNat]!)) (oR 10 (c46 es[(i0-1).toNat]!) (oA 15 (.b (dLt es[(i0-1).toNat]!.dot es[i0.toNat]!.dot)) z0))))))))))))))) ?_
 exact⟨rfl,by kernel_rfl⟩
 refine rA cx [0,5,6,7,30] [] (fT (B5q (es[i0.toNat]!)) (tN 2 (S5 es[i0.toNat]!) (0:Int) (tT 3 (A0 h_7) (tT 5 (A0 h_8) (tT 18 (by first | (simp only [eq_false h_7,eq_false h_8,tsl];done) | simp_all:AV.b false=AV.b (decide (¬S5 es[i0.toNat]! =(0:Int)∨(0:Int) < i0∧¬dLt es[(i0-1).toNat]!.dot es[i0.toNat]!.dot=true))) (oA 1 (.i .i64 (S5 es[i0.toNat]!)) z0)))))) ?_
 exact⟨rfl,by kernel_rfl⟩
 refine sn<|dC (¬S5 es[i0.toNat]! =(0:Int)∨(0:Int) < i0∧¬dLt es[(i0-1).toNat]!.dot es[i0.toNat]!.dot=true) (fun h9=>?_) fun h9=>?_
 refine sq<|rG cx [2] [] z0<|sn<|rT<|bR<|nR<|nR<|bR<|nR<|qR (.i .i64 ((1:Int))) (.eq ?g1);rotate_left
 refine sK<|bN<|sn<|rG cx [0,5,6,7] [] (tW 0 (i0+1) z0)<|sn<|nX (i0+1) (show((↑es.length:Int)-(i0+1)).toNat <((↑es.length:Int)-i0).toNat from(by omega)) (show B5p es (i0+1)from ?g2);rotate_left
 refine eX 0<|nE<|nE<|bH<|sn<|sq<|rG cx [2] [] z0<|sn<|rT<|qR (.i .i64 ((0:Int))) (.eq ?g3);rotate_left
 rotate_left
 revert i0 hh2 hh3 hh4 hh5 h9;rotate_left
 revert i0 hh2 hh3 hh4 hh5 h9;rotate_left
 revert i0 hh2 hh3 hh4 hh5;rotate_left
 case g0=>exact⟨by omega,by omega,fun j hj=>by omega⟩
 case' g3=>refine(fun i h0 h1 h2 h3=>?_)
 case' g2=>refine(fun i h0 h1 h2 h3 h4=>?_)
 case' g1=>refine(fun i h0 h1 h2 h3 h4=>?_)
 ·rw[Ae5 (i:=i.toNat) (by omega) (Ae6 _)]
  rw[e h0]at h4
  rw[W7];rintro⟨a,b⟩
  rcases h4 with h4 | ⟨h4,h5⟩
  ·exact h4 a
  ·rcases b with b | b
   ·omega
   ·exact h5 b
 ·rw[e h0]at h4
  refine A88 h0 h3 h2 ((W7 _ _).2 ⟨Classical.byContradiction fun a=>h4 (.inl a),?_⟩)
  by_cases c:i.toNat=0
  ·exact .inl c
  ·exact .inr (Classical.byContradiction fun a=>h4 (.inr ⟨by omega,a⟩))
 ·rw[Au4 fun j hj=>h2 j (by omega)]
end Go.Proofs.YtphcaholhacnpaaGreat
namespace Go.Proofs.YtphcaholhacnpaaGreat
open Go.E
set_option maxRecDepth 100000
set_option maxHeartbeats 4000000
def szP(p:Past):Prop:=p.cloud.length*16≤140737488350000∧p.vec.length≤9223372036854775807
def szQ(rs:List Record):Prop:=∀ r∈rs,szP r.past
theorem szQ_s{rs:List Record}(h:szQ rs):szRs rs:=fun r hr=>(h r hr).1
theorem Ae7{rs:List Record}(h:szQ rs){i:Int}(h0:0≤i)(hi:i < rs.length):szP rs[i.toNat]!.past:=h _ (E1 (by omega))
theorem B5r{rs:List Record}(h:szQ rs){i:Int}(h0:0 < i)(hi:i < rs.length):szP rs[(i-1).toNat]!.past:=h _ (E1 (by omega))
end Go.Proofs.YtphcaholhacnpaaGreat
namespace Go.Proofs.YtphcaholhacnpaaGreat
open Go.E
set_option maxRecDepth 100000
set_option maxHeartbeats 4000000
theorem Q4{e:Entry}:S5 e=0↔J4 e.dot=true∧F5 e.sku=true∧1≤e.qty∧e.qty≤1000000:=by
 unfold S5 J4
 rw[decide_eq_true_iff]
 by_cases a:e.dot.rep < 0∨16≤e.dot.rep
 ·rw[if_pos a];omega
 ·rw[if_neg a]
  by_cases b:e.dot.num < 1∨1000000000 < e.dot.num
  ·rw[if_pos b];omega
  ·rw[if_neg b]
   cases c:F5 e.sku with
   | false=>simp
   | true =>
    rw[if_neg (by simp)]
    by_cases d:e.qty < 1∨1000000 < e.qty
    ·rw[if_pos d]
     exact⟨fun h=>by omega,fun h=>by have:=h.2.2.1;have:=h.2.2.2;omega⟩
    ·rw[if_neg d]
     exact⟨fun _=>⟨by omega,rfl,by omega,by omega⟩,fun _=>rfl⟩
theorem rec_lt{r s:Record}:J2 r s < 0↔sLt r.sku s.sku=true∨r.sku=s.sku∧A2w r.past s.past < 0:=by
 unfold J2
 by_cases e:X2 r.sku s.sku=0
 ·rw[if_neg (by simpa using e)]
  have e2:=A4k.1 e
  constructor
  ·exact fun h=>.inr ⟨e2,h⟩
  ·rintro(h | h)
   ·rw[e2]at h;exact absurd h (L3 _)
   ·exact h.2
 ·rw[if_pos e,K3]
  by_cases a:sLt r.sku s.sku=true
  ·rw[if_pos a];exact⟨fun _=>.inl a,fun _=>by omega⟩
  ·rw[if_neg a]
   constructor
   ·intro h
    split at h <;> omega
   ·rintro(h | h)
    ·exact absurd h a
    ·exact absurd (A4k.2 h.1) e
theorem B3m(f:Facts):∃ b:Bool,b=decide (C3 f.adds=0∧f.gone=A5 f.gone∧W6 f.recs=0):=⟨_,rfl⟩
noncomputable def okF(f:Facts):Bool:=Classical.choose (B3m f)
theorem Ae8(f:Facts):okF f=decide (C3 f.adds=0∧f.gone=A5 f.gone∧W6 f.recs=0):=Classical.choose_spec (B3m f)
def szF(f:Facts):Prop:=szP f.gone∧szQ f.recs
theorem A89(e:Entry):Con Tryz.prog 148 [.agg (c46 e)] (.b (decide (S5 e=0))) :=
 by
 refine sC B3 [.tmp 2] 21 Tryz.func148 ?_
 intro e0 cx
 refine sq<|rG cx [1] [1] z0<|sn<|sq<|A9 (σ':=⟨[(2,.b (decide (J4 e.dot=true∧F5 e.sku=true∧1≤e.qty∧e.qty≤1000000)))],[]⟩) ?_ ?_
 refine A6 (J4 e.dot=true) (fun h_1=>?_) (fun h_1=>?_)
 refine A6 (F5 e.sku=true) (fun h_2=>?_) (fun h_2=>?_)
 refine A6 (1≤e.qty) (fun h_3=>?_) (fun h_3=>?_)
 refine rg (A:=_∧_∧_∧_∧_∧(AV.b (decide (e.qty≤1000000))=AV.b (decide (e.qty≤1000000)))∧(AV.b (decide (e.qty≤1000000))=AV.b (decide (J4 e.dot=true∧F5 e.sku=true∧1≤e.qty∧e.qty≤1000000)))) cx [(2,{ val:=some (.b (J4 e.dot)),tell:=some (.b (true)) }),(6,{ val:=some (.b (F5 e.sku)),tell:=some (.b (true)) }),(11,{ tell:=some (.b (true)) }),(16,{ tell:=some (.b (decide (e.qty≤1000000))) }),(18,{ tell:=some (.b (decide (J4 e.dot=true∧F5 e.sku=true∧1≤e.qty∧e.qty≤1000000))) })] [2] [] ⟨(L9 h_1),(B13 (e.dot)),(L9 h_2),(A4j (e.sku)),(A4 h_3),(by kernel_rfl),(by simp only [eq_true h_1,eq_true h_2,eq_true h_3,tsl])⟩ ?_
 exact⟨rfl,by kernel_rfl⟩
 refine rg (A:=_∧_∧_∧_∧_∧(AV.b false=AV.b (decide (J4 e.dot=true∧F5 e.sku=true∧1≤e.qty∧e.qty≤1000000)))) cx [(2,{ val:=some (.b (J4 e.dot)),tell:=some (.b (true)) }),(6,{ val:=some (.b (F5 e.sku)),tell:=some (.b (true)) }),(11,{ tell:=some (.b (false)) }),(18,{ tell:=some (.b (decide (J4 e.dot=true∧F5 e.sku=true∧1≤e.qty∧e.qty≤1000000))) })] [2] [] ⟨(L9 h_1),(B13 (e.dot)),(L9 h_2),(A4j (e.sku)),(A0 h_3),(by simp only [eq_true h_1,eq_true h_2,eq_false h_3,tsl])⟩ ?_
 exact⟨rfl,by kernel_rfl⟩
 refine rg (A:=_∧_∧_∧_∧(AV.b false=AV.b (decide (J4 e.dot=true∧F5 e.sku=true∧1≤e.qty∧e.qty≤1000000)))) cx [(2,{ val:=some (.b (J4 e.dot)),tell:=some (.b (true)) }),(6,{ val:=some (.b (F5 e.sku)),tell:=some (.b (false)) }),(18,{ tell:=some (.b (decide (J4 e.dot=true∧F5 e.sku=true∧1≤e.qty∧e.qty≤1000000))) })] [2] [] ⟨(L9 h_1),(B13 (e.dot)),(V8 h_2),(A4j (e.sku)),(by simp only [eq_true h_1,eq_false h_2,tsl])⟩ ?_
 exact⟨rfl,by kernel_rfl⟩
 refine rg (A:=_∧_∧(AV.b false=AV.b (decide (J4 e.dot=true∧F5 e.sku=true∧1≤e.qty∧e.qty≤1000000)))) cx [(2,{ val:=some (.b (J4 e.dot)),tell:=some (.b (false)) }),(18,{ tell:=some (.b (decide (J4 e.dot=true∧F5 e.sku=true∧1≤e.qty∧e.qty≤1000000))) })] [2] [] ⟨(V8 h_1),(B13 (e.dot)),(by simp only [eq_false h_1,tsl])⟩ ?_
 exact⟨rfl,by kernel_rfl⟩
 refine sn<|rT<|qR (.b (decide (J4 e.dot=true∧F5 e.sku=true∧1≤e.qty∧e.qty≤1000000))) (.eq ?g0);rotate_left
 case g0=>rw[decide_eq_decide.2 Q4]
theorem con149(a b:Dot):Con Tryz.prog 149 [.agg (c44 a),.agg (c44 b)] (.b (dLt a b)) :=
 by
 refine sC B3 [.tmp 4] 24 Tryz.func149 ?_
 intro e0 cx
 refine sq<|rG cx [2,3] [2,3] z0<|sn<|sq<|A9 (σ':=⟨[(4,.b (decide (a.rep < b.rep∨a.rep=b.rep∧a.num < b.num)))],[]⟩) ?_ ?_
 refine A6 (a.rep < b.rep) (fun h_1=>?_) (fun h_1=>?_)
 refine rG cx [4] [] (tT 4 (A4 h_1) (tD 19 true (a.rep < b.rep∨a.rep=b.rep∧a.num < b.num) (by simp only [eq_true h_1,tsl]) z0)) ?_
 exact⟨rfl,by kernel_rfl⟩
 refine A6 (a.rep=b.rep) (fun h_2=>?_) (fun h_2=>?_)
 refine rG cx [4] [] (tT 4 (A0 h_1) (tT 10 (A4 h_2) (tB 16 (a.num < b.num) (tD 19 (decide (a.num < b.num)) (a.rep < b.rep∨a.rep=b.rep∧a.num < b.num) (by simp only [eq_false h_1,eq_true h_2,tsl]) z0)))) ?_
 exact⟨rfl,by kernel_rfl⟩
 refine rG cx [4] [] (tT 4 (A0 h_1) (tT 10 (A0 h_2) (tD 19 false (a.rep < b.rep∨a.rep=b.rep∧a.num < b.num) (by simp only [eq_false h_1,eq_false h_2,tsl]) z0))) ?_
 exact⟨rfl,by kernel_rfl⟩
 refine sn<|rT<|qR (.b (decide (a.rep < b.rep∨a.rep=b.rep∧a.num < b.num))) (.eq ?g0);rotate_left
 case g0=>exact rfl
theorem B5s(es:List Entry):Con Tryz.prog 73 [.sl (es.map c46)] (.b (decide (C3 es=0))) :=
 by
 have e:∀ {i:Int},0≤i→(i-1).toNat=i.toNat-1:=fun {i} h=>by omega
 refine lN 0 c46 (es) Tryz.func73 fun hl_0=>sC B3 [.tmp 2] 35 Tryz.func73 ?_
 intro e0 cx
 refine sq<|rG cx [0] [] z0<|sn<|sq<|sq<|rG cx [0,3] [] z0<|sn<|bL 0<|sL (X:=Int) (fun x=>⟨[(0,.sl (List.map c46 es)),(3,.i .i64 (x))],[]⟩) (fun x ↦ decL es x) (fun x ↦ B5p es x) [0,3] [] ((0:Int)) (show B5p es (0:Int)from(by exact⟨by omega,by omega,fun j hj=>by omega⟩)) ?_
 intro i0 h_1
 obtain⟨hh2,hh3,hh4⟩:0≤i0∧i0≤(↑es.length:Int)∧∀(j:Nat),(↑j:Int) < i0→Am0 es j=true:=h_1
 refine sq<|rD cx [0,3,7] [] (tL 2 c46 es (zB 3 (i0 <(↑es.length:Int)))) (fun hh5=>?_) fun hh5=>?_
 refine sK<|sn<|sq<|bL 1<|sq<|A9 (σ':=⟨[(0,.sl (List.map c46 es)),(3,.i .i64 (i0)),(34,.b (decide (¬S5 es[i0.toNat]! =(0:Int)∨(0:Int) < i0∧¬dLt es[(i0-1).toNat]!.dot es[i0.toNat]!.dot=true)))],[]⟩) ?_ ?_
 refine A6 (¬S5 es[i0.toNat]! =(0:Int)) (fun h_7=>?_) (fun h_7=>?_)
 refine ra (A:=(0≤i0)∧((List.map c46 es)[i0.toNat]?=some (c46 es[i0.toNat]!))∧((c46 es[i0.toNat]!).length=(4:Nat))∧((4:Nat)≤[AV.i .i64 es[i0.toNat]!.dot.rep,AV.i .i64 es[i0.toNat]!.dot.num,AV.s es[i0.toNat]!.sku,AV.i .i64 es[i0.toNat]!.qty].length)∧_∧_∧(AV.b true=AV.b (decide (¬S5 es[i0.toNat]! =(0:Int)∨(0:Int) < i0∧¬dLt es[(i0-1).toNat]!.dot es[i0.toNat]!.dot=true)))) cx [(2,{ row:=(c46 es[i0.toNat]!) }),(4,{ val:=some (.b (decide (S5 es[i0.toNat]! =(0:Int)))),tell:=some (.b (false)) }),(24,{ tell:=some (.b (decide (¬S5 es[i0.toNat]! =(0:Int)∨(0:Int) < i0∧¬dLt es[(i0-1).toNat]!.dot es[i0.toNat]!.dot=true))) })] [0,3,34] [] ⟨(by(with_reducible assumption)),(by(with_reducible refine G6 ?_;omega)),(by kernel_rfl),(by(simp only [List.length_append,List.length_cons,List.length_nil];omega)),(A0 h_7),(A89 (es[i0.toNat]!)),(by simp only [eq_false h_7,tsl])⟩ ?_
 exact⟨rfl,by kernel_rfl⟩
 refine A6 ((0:Int) < i0) (fun h_8=>?_) (fun h_8=>?_)
 refine rA cx [0,3,34] [] (fA (0≤i0) (fG c46 es i0.toNat (fR 4 (fN 4 4 (fT (A89 (es[i0.toNat]!)) (tQ 5 (S5 es[i0.toNat]! =(0:Int)) (tT 6 (A0 h_7) (tT 8 (A4 h_8) (tW 12 (i0-1) (fO (0≤i0-1) (fG c46 es ((i0-1).toNat) (fR 4 (fN 2 4 (fA (0≤i0) (fG c46 es i0.toNat (fR 4 (fN 2 4 (fT (con149 (es[(i0-1).toNat]!.dot) (es[i0.toNat]!.dot)) (tT 22 (E8:(AV.b !dLt es[(i0-1).toNat]!.dot es[i0.toNat]!.dot)=AV.b (decide ¬dLt es[(i0-1).toNat]!.dot es[i0.toNat]!.dot=true)) (tT 24 (by first | (simp only [eq_false h_7,eq_true h_8,tsl];done) | simp_all:AV.b (decide ¬dLt es[(i0-1).toNat]!.dot es[i0.toNat]!.dot=true)=AV.b (decide (¬S5 es[i0.toNat]! =(0:Int)∨(0:Int) < i0∧¬dLt es[(i0-1).toNat]!.dot es[i0.toNat]!.dot=true))) (oR 2 (c46 es[i0.toNat]!) (oA 4 (Ab3 (A89 (es[i0.toNat]!))) (oR 13 (c46 es[(i0-1).toNat]!) (oR 18 (c46 es[i0.toNat]!) (oA 21 (.b (dLt es[(i0-1).toNat]!.dot es[i0.toNat]!.dot)) z0))))))))))))))))))))))))) ?_
 exact⟨rfl,by kernel_rfl⟩
 refine rA cx [0,3,34] [] (fA (0≤i0) (fG c46 es i0.toNat (fR 4 (fN 4 4 (fT (A89 (es[i0.toNat]!)) (tQ 5 (S5 es[i0.toNat]! =(0:Int)) (tT 6 (A0 h_7) (tT 8 (A0 h_8) (tT 24 (by first | (simp only [eq_false h_7,eq_false h_8,tsl];done) | simp_all:AV.b false=AV.b (decide (¬S5 es[i0.toNat]! =(0:Int)∨(0:Int) < i0∧¬dLt es[(i0-1).toNat]!.dot es[i0.toNat]!.dot=true))) (oR 2 (c46 es[i0.toNat]!) (oA 4 (Ab3 (A89 (es[i0.toNat]!))) z0))))))))))) ?_
 exact⟨rfl,by kernel_rfl⟩
 refine sn<|dC (¬S5 es[i0.toNat]! =(0:Int)∨(0:Int) < i0∧¬dLt es[(i0-1).toNat]!.dot es[i0.toNat]!.dot=true) (fun h9=>?_) fun h9=>?_
 refine sq<|rG cx [2] [] z0<|sn<|rT<|bR<|nR<|nR<|bR<|nR<|qR (.b (false)) (.eq ?g1);rotate_left
 refine sK<|bN<|sn<|rG cx [0,3] [] (tW 1 (i0+1) z0)<|sn<|nX (i0+1) (show((↑es.length:Int)-(i0+1)).toNat <((↑es.length:Int)-i0).toNat from(by omega)) (show B5p es (i0+1)from ?g2);rotate_left
 refine eX 0<|nE<|nE<|bH<|sn<|sq<|rG cx [2] [] z0<|sn<|rT<|qR (.b (true)) (.eq (by rw[Au4 fun j hj=>hh4 j (by omega)];rfl))
 case g1 =>
  revert i0 hh2 hh3 hh4 hh5 h9
  intro i h0 h1 h2 h3 h4
  rw[Ae5 (i:=i.toNat) (by omega) (Ae6 _)]
  ·rfl
  rw[e h0]at h4
  rw[W7];rintro⟨a,b⟩
  rcases h4 with h4 | ⟨h4,h5⟩
  ·exact h4 a
  ·rcases b with b | b
   ·omega
   ·exact h5 b
 case g2 =>
  rw[e hh2]at h9
  refine A88 hh2 hh5 hh4 ((W7 _ _).2 ⟨Classical.byContradiction fun a=>h9 (.inl a),?_⟩)
  by_cases c:i0.toNat=0
  ·exact .inl c
  ·exact .inr (Classical.byContradiction fun a=>h9 (.inr ⟨by omega,a⟩))
theorem con184(r:Record)(hb:szP r.past):Con Tryz.prog 184 [.agg (c54 r)] (.b (decide (ckR r=0))) :=
 by
 refine sC B3 [.tmp 2] 22 Tryz.func184 ?_
 intro e0 cx
 refine sq<|rG cx [1] [1] z0<|sn<|sq<|A9 (σ':=⟨[(2,.b (decide (r.sku={ data:=#[]:ByteArray }∧r.past=A5 r.past∧¬C5 r.past=0∨¬r.sku={ data:=#[]:ByteArray }∧F5 r.sku=true∧r.past=A5 r.past∧¬C5 r.past=0)))],[]⟩) ?_ ?_
 refine A6 (r.sku={ data:=#[]:ByteArray }) (fun h1=>?_) (fun h1=>?_)
 refine A6 (r.past=A5 r.past) (fun h2=>?_) (fun h2=>?_)
 refine rg (A:=(AV.b (r.sku.toList == { data:=#[]:ByteArray }.toList)=AV.b true)∧_∧_∧_∧((AV.b !decide (C5 r.past=0))=AV.b (decide ¬C5 r.past=0))∧(AV.b (decide ¬C5 r.past=0)=AV.b (decide (r.sku={ data:=#[]:ByteArray }∧r.past=A5 r.past∧¬C5 r.past=0∨¬r.sku={ data:=#[]:ByteArray }∧F5 r.sku=true∧r.past=A5 r.past∧¬C5 r.past=0)))) cx [(2,{ tell:=some (.b (true)) }),(11,{ val:=some (.b (decide (r.past=A5 r.past))),tell:=some (.b (true)) }),(16,{ val:=some (.b (decide (C5 r.past=0))) }),(17,{ tell:=some (.b (decide ¬C5 r.past=0)) }),(19,{ tell:=some (.b (decide (r.sku={ data:=#[]:ByteArray }∧r.past=A5 r.past∧¬C5 r.past=0∨¬r.sku={ data:=#[]:ByteArray }∧F5 r.sku=true∧r.past=A5 r.past∧¬C5 r.past=0))) })] [2] [] ⟨(A02 h1),(A4 h2),(Ak1 (r.past) ?g0 ?g1),(B5m (r.past) ?g2),(U2),(by simp only [eq_true h1,eq_true h2,tsl])⟩ ?_;rotate_left 3
 exact⟨rfl,by kernel_rfl⟩
 refine rg (A:=(AV.b (r.sku.toList == { data:=#[]:ByteArray }.toList)=AV.b true)∧_∧_∧(AV.b false=AV.b (decide (r.sku={ data:=#[]:ByteArray }∧r.past=A5 r.past∧¬C5 r.past=0∨¬r.sku={ data:=#[]:ByteArray }∧F5 r.sku=true∧r.past=A5 r.past∧¬C5 r.past=0)))) cx [(2,{ tell:=some (.b (true)) }),(11,{ val:=some (.b (decide (r.past=A5 r.past))),tell:=some (.b (false)) }),(19,{ tell:=some (.b (decide (r.sku={ data:=#[]:ByteArray }∧r.past=A5 r.past∧¬C5 r.past=0∨¬r.sku={ data:=#[]:ByteArray }∧F5 r.sku=true∧r.past=A5 r.past∧¬C5 r.past=0))) })] [2] [] ⟨(A02 h1),(A0 h2),(Ak1 (r.past) ?g3 ?g4),(by simp only [eq_true h1,eq_false h2,tsl])⟩ ?_;rotate_left 2
 exact⟨rfl,by kernel_rfl⟩
 refine A6 (F5 r.sku=true) (fun h3=>?_) (fun h3=>?_)
 refine A6 (r.past=A5 r.past) (fun h4=>?_) (fun h4=>?_)
 refine rg (A:=(AV.b (r.sku.toList == { data:=#[]:ByteArray }.toList)=AV.b false)∧_∧_∧_∧_∧_∧((AV.b !decide (C5 r.past=0))=AV.b (decide ¬C5 r.past=0))∧(AV.b (decide ¬C5 r.past=0)=AV.b (decide (r.sku={ data:=#[]:ByteArray }∧r.past=A5 r.past∧¬C5 r.past=0∨¬r.sku={ data:=#[]:ByteArray }∧F5 r.sku=true∧r.past=A5 r.past∧¬C5 r.past=0)))) cx [(2,{ tell:=some (.b (false)) }),(6,{ val:=some (.b (F5 r.sku)),tell:=some (.b (true)) }),(11,{ val:=some (.b (decide (r.past=A5 r.past))),tell:=some (.b (true)) }),(16,{ val:=some (.b (decide (C5 r.past=0))) }),(17,{ tell:=some (.b (decide ¬C5 r.past=0)) }),(19,{ tell:=some (.b (decide (r.sku={ data:=#[]:ByteArray }∧r.past=A5 r.past∧¬C5 r.past=0∨¬r.sku={ data:=#[]:ByteArray }∧F5 r.sku=true∧r.past=A5 r.past∧¬C5 r.past=0))) })] [2] [] ⟨(U3 h1),(L9 h3),(A4j (r.sku)),(A4 h4),(Ak1 (r.past) ?g5 ?g6),(B5m (r.past) ?g7),(U2),(by simp only [eq_false h1,eq_true h3,eq_true h4,tsl])⟩ ?_;rotate_left 3
 exact⟨rfl,by kernel_rfl⟩
 refine rg (A:=(AV.b (r.sku.toList == { data:=#[]:ByteArray }.toList)=AV.b false)∧_∧_∧_∧_∧(AV.b false=AV.b (decide (r.sku={ data:=#[]:ByteArray }∧r.past=A5 r.past∧¬C5 r.past=0∨¬r.sku={ data:=#[]:ByteArray }∧F5 r.sku=true∧r.past=A5 r.past∧¬C5 r.past=0)))) cx [(2,{ tell:=some (.b (false)) }),(6,{ val:=some (.b (F5 r.sku)),tell:=some (.b (true)) }),(11,{ val:=some (.b (decide (r.past=A5 r.past))),tell:=some (.b (false)) }),(19,{ tell:=some (.b (decide (r.sku={ data:=#[]:ByteArray }∧r.past=A5 r.past∧¬C5 r.past=0∨¬r.sku={ data:=#[]:ByteArray }∧F5 r.sku=true∧r.past=A5 r.past∧¬C5 r.past=0))) })] [2] [] ⟨(U3 h1),(L9 h3),(A4j (r.sku)),(A0 h4),(Ak1 (r.past) ?g8 ?g9),(by simp only [eq_false h1,eq_true h3,eq_false h4,tsl])⟩ ?_;rotate_left 2
 exact⟨rfl,by kernel_rfl⟩
 refine rg (A:=(AV.b (r.sku.toList == { data:=#[]:ByteArray }.toList)=AV.b false)∧(AV.b (F5 r.sku)=AV.b false)∧_∧(AV.b false=AV.b (decide (r.sku={ data:=#[]:ByteArray }∧r.past=A5 r.past∧¬C5 r.past=0∨¬r.sku={ data:=#[]:ByteArray }∧F5 r.sku=true∧r.past=A5 r.past∧¬C5 r.past=0)))) cx [(2,{ tell:=some (.b (false)) }),(6,{ val:=some (.b (F5 r.sku)),tell:=some (.b (false)) }),(19,{ tell:=some (.b (decide (r.sku={ data:=#[]:ByteArray }∧r.past=A5 r.past∧¬C5 r.past=0∨¬r.sku={ data:=#[]:ByteArray }∧F5 r.sku=true∧r.past=A5 r.past∧¬C5 r.past=0))) })] [2] [] ⟨(U3 h1),(V8 h3),(A4j (r.sku)),(by simp only [eq_false h1,eq_false h3,tsl])⟩ ?_
 exact⟨rfl,by kernel_rfl⟩
 refine sn<|rT<|qR (.b (decide (r.sku={ data:=#[]:ByteArray }∧r.past=A5 r.past∧¬C5 r.past=0∨¬r.sku={ data:=#[]:ByteArray }∧F5 r.sku=true∧r.past=A5 r.past∧¬C5 r.past=0))) (.eq ?g10);rotate_left
 revert h1 h2;rotate_left
 revert h1 h2;rotate_left
 revert h1 h2;rotate_left
 revert h1 h2;rotate_left
 revert h1 h2;rotate_left
 revert h1 h3 h4;rotate_left
 revert h1 h3 h4;rotate_left
 revert h1 h3 h4;rotate_left
 revert h1 h3 h4;rotate_left
 revert h1 h3 h4;rotate_left
 rotate_left
 case g10 =>
  refine congrArg AV.b (decide_eq_decide.2 (Iff.trans ?_ ck_ok.symm))
  show(r.sku=E3∧_∨¬ r.sku=E3∧_)↔_
  by_cases c:r.sku=E3
  ·simp [c]
  ·simp [c]
 all_goals (intros;first | exact hb.1 | exact hb.2)
theorem con120(rs:List Record)(hb:szQ rs):Con Tryz.prog 120 [.sl (rs.map c54)] (.b (decide (W6 rs=0))) :=
 by
 have e:∀ {i:Int},0≤i→(i-1).toNat=i.toNat-1:=fun {i} h=>by omega
 have L:∀ {r s:Record},(¬(sLt r.sku s.sku=true∨r.sku=s.sku)∨r.sku=s.sku∧0≤A2w r.past s.past)↔¬ J2 r s < 0:=by
  intro r s
  rw[rec_lt]
  constructor
  ·rintro(h | ⟨h1,h2⟩) (k | ⟨k1,k2⟩)
   ·exact h (.inl k)
   ·exact h (.inr k1)
   ·rw[h1]at k;exact L3 _ k
   ·omega
  ·intro h
   by_cases c:r.sku=s.sku
   ·exact .inr ⟨c,Int.not_lt.1 fun k=>h (.inr ⟨c,k⟩)⟩
   ·exact .inl fun k=>by
     rcases k with k | k
     ·exact h (.inl k)
     ·exact c k
 refine lN 0 c54 (rs) Tryz.func120 fun hl_0=>sC B3 [.tmp 2] 49 Tryz.func120 ?_
 intro e0 cx
 refine sq<|rG cx [0] [] z0<|sn<|sq<|sq<|rG cx [0,3] [] z0<|sn<|bL 0<|sL (X:=Int) (fun x=>⟨[(0,.sl (List.map c54 rs)),(3,.i .i64 (x))],[]⟩) (fun x ↦ decKc rs x) (fun x ↦ A87 rs x) [0,3] [] ((0:Int)) (show A87 rs (0:Int)from(by exact⟨by omega,by omega,fun j hj=>by omega⟩)) ?_
 intro i0 h_1
 obtain⟨hh2,hh3,hh4⟩:0≤i0∧i0≤(↑rs.length:Int)∧∀(j:Nat),(↑j:Int) < i0→Ay6 rs j=true:=h_1
 refine sq<|rD cx [0,3,9] [] (tL 2 c54 rs (zB 3 (i0 <(↑rs.length:Int)))) (fun hh5=>?_) fun hh5=>?_
 refine sK<|sn<|sq<|bL 1<|sq<|sq<|rG cx [0,3,17] [] (fA (0≤i0) (fG c54 rs i0.toNat (fR 3 (fN 3 3 (fT (con184 (rs[i0.toNat]!) (by exact Ae7 hb hh2 hh5)) (tQ 5 (ckR rs[i0.toNat]! =(0:Int)) (oR 2 (c54 rs[i0.toNat]!) (oA 4 (.b (decide (ckR rs[i0.toNat]! =(0:Int)))) z0)))))))) ?_
 refine sn<|dC (¬ckR rs[i0.toNat]! =(0:Int)) (fun hh6=>?_) fun hh6=>?_
 refine sq<|rG cx [2] [] z0<|sn<|rT<|nR<|bR<|nR<|nR<|bR<|nR<|qR (.b (false)) (.eq ?g2);rotate_left
 refine sK<|sn<|rD cx [0,3,19] [] (zB 1 ((0:Int) < i0)) (fun hh7=>?_) fun hh7=>?_
 refine sq<|rA cx [0,3,4,5] [4,5] (tW 2 (i0-1) (fO (0≤i0-1) (fG c54 rs ((i0-1).toNat) (fR 3 (fN 3 3 (fA (0≤i0) (fG c54 rs i0.toNat (fR 3 (fN 3 3 (oR 3 (c54 rs[(i0-1).toNat]!) (oR 7 (c54 rs[i0.toNat]!) z0)))))))))))<|sn<|sq<|A9 (σ':=⟨[(0,.sl (List.map c54 rs)),(3,.i .i64 (i0)),(48,.b (decide (¬(sLt rs[(i0-1).toNat]!.sku rs[i0.toNat]!.sku=true∨rs[(i0-1).toNat]!.sku=rs[i0.toNat]!.sku)∨rs[(i0-1).toNat]!.sku=rs[i0.toNat]!.sku∧0≤A2w rs[(i0-1).toNat]!.past rs[i0.toNat]!.past)))],[]⟩) ?_ ?_
 refine A6 (¬(sLt rs[(i0-1).toNat]!.sku rs[i0.toNat]!.sku=true∨rs[(i0-1).toNat]!.sku=rs[i0.toNat]!.sku)) (fun h9=>?_) (fun h9=>?_)
 refine rG cx [0,3,48] [] (tT 4 (A5a:(AV.b !(Op.bytesLess rs[(i0-1).toNat]!.sku.toList rs[i0.toNat]!.sku.toList || rs[(i0-1).toNat]!.sku.toList == rs[i0.toNat]!.sku.toList))=AV.b (decide ¬(sLt rs[(i0-1).toNat]!.sku rs[i0.toNat]!.sku=true∨rs[(i0-1).toNat]!.sku=rs[i0.toNat]!.sku))) (tT 5 (A4 h9) (tD 19 true (¬(sLt rs[(i0-1).toNat]!.sku rs[i0.toNat]!.sku=true∨rs[(i0-1).toNat]!.sku=rs[i0.toNat]!.sku)∨rs[(i0-1).toNat]!.sku=rs[i0.toNat]!.sku∧0≤A2w rs[(i0-1).toNat]!.past rs[i0.toNat]!.past) (by simp only [eq_false h9,tsl]) z0))) ?_
 exact⟨rfl,by kernel_rfl⟩
 refine A6 (rs[(i0-1).toNat]!.sku=rs[i0.toNat]!.sku) (fun h10=>?_) (fun h10=>?_)
 refine rG cx [0,3,48] [] (tT 4 (A5a:(AV.b !(Op.bytesLess rs[(i0-1).toNat]!.sku.toList rs[i0.toNat]!.sku.toList || rs[(i0-1).toNat]!.sku.toList == rs[i0.toNat]!.sku.toList))=AV.b (decide ¬(sLt rs[(i0-1).toNat]!.sku rs[i0.toNat]!.sku=true∨rs[(i0-1).toNat]!.sku=rs[i0.toNat]!.sku))) (tT 5 (A0 h9) (tT 10 (A02 h10:AV.b (rs[(i0-1).toNat]!.sku.toList == rs[i0.toNat]!.sku.toList)=AV.b true) (fT (con185 (rs[(i0-1).toNat]!.past) (rs[i0.toNat]!.past) (by exact(B5r hb hh7 hh5).1) (by exact(Ae7 hb hh2 hh5).1)) (tB 17 (0≤A2w rs[(i0-1).toNat]!.past rs[i0.toNat]!.past) (tT 19 (by first | (simp only [eq_false h9,eq_true h10,tsl];done) | simp_all:AV.b (decide (0≤A2w rs[(i0-1).toNat]!.past rs[i0.toNat]!.past))=AV.b (decide (¬(sLt rs[(i0-1).toNat]!.sku rs[i0.toNat]!.sku=true∨rs[(i0-1).toNat]!.sku=rs[i0.toNat]!.sku)∨rs[(i0-1).toNat]!.sku=rs[i0.toNat]!.sku∧0≤A2w rs[(i0-1).toNat]!.past rs[i0.toNat]!.past))) (oA 16 (.i .i64 (A2w rs[(i0-1).toNat]!.past rs[i0.toNat]!.past)) z0))))))) ?_
 exact⟨rfl,by kernel_rfl⟩
 refine rG cx [0,3,48] [] (tT 4 (A5a:(AV.b !(Op.bytesLess rs[(i0-1).toNat]!.sku.toList rs[i0.toNat]!.sku.toList || rs[(i0-1).toNat]!.sku.toList == rs[i0.toNat]!.sku.toList))=AV.b (decide ¬(sLt rs[(i0-1).toNat]!.sku rs[i0.toNat]!.sku=true∨rs[(i0-1).toNat]!.sku=rs[i0.toNat]!.sku))) (tT 5 (A0 h9) (tT 10 (U3 h10:AV.b (rs[(i0-1).toNat]!.sku.toList == rs[i0.toNat]!.sku.toList)=AV.b false) (tT 19 (by first | (simp only [eq_false h9,eq_false h10,tsl];done) | simp_all:AV.b false=AV.b (decide (¬(sLt rs[(i0-1).toNat]!.sku rs[i0.toNat]!.sku=true∨rs[(i0-1).toNat]!.sku=rs[i0.toNat]!.sku)∨rs[(i0-1).toNat]!.sku=rs[i0.toNat]!.sku∧0≤A2w rs[(i0-1).toNat]!.past rs[i0.toNat]!.past))) z0)))) ?_
 exact⟨rfl,by kernel_rfl⟩
 refine sn<|dC (¬(sLt rs[(i0-1).toNat]!.sku rs[i0.toNat]!.sku=true∨rs[(i0-1).toNat]!.sku=rs[i0.toNat]!.sku)∨rs[(i0-1).toNat]!.sku=rs[i0.toNat]!.sku∧0≤A2w rs[(i0-1).toNat]!.past rs[i0.toNat]!.past) (fun h11=>?_) fun h11=>?_
 refine sq<|rG cx [2] [] z0<|sn<|rT<|bR<|nR<|nR<|bR<|nR<|qR (.b (false)) (.eq ?g5);rotate_left
 refine sK<|bN<|sn<|rG cx [0,3] [] (tW 1 (i0+1) z0)<|sn<|nX (i0+1) (show((↑rs.length:Int)-(i0+1)).toNat <((↑rs.length:Int)-i0).toNat from(by omega)) (show A87 rs (i0+1)from ?g6);rotate_left
 refine sK<|bN<|sn<|rG cx [0,3] [] (tW 1 (i0+1) z0)<|sn<|nX (i0+1) (show((↑rs.length:Int)-(i0+1)).toNat <((↑rs.length:Int)-i0).toNat from(by omega)) (show A87 rs (i0+1)from ?g7);rotate_left
 refine eX 0<|nE<|nE<|bH<|sn<|sq<|rG cx [2] [] z0<|sn<|rT<|qR (.b (true)) (.eq (by rw[Au2 fun j hj=>hh4 j (by omega)];rfl))
 case g2 =>
  revert i0 hh2 hh3 hh4 hh5 hh6
  intro i h0 h1 h2 h3 h4
  rw[A62 (i:=i.toNat) (by omega)]
  ·rfl
  ·rw[M2]
   exact fun c=>h4 c.1
 case g5 =>
  revert i0 hh2 hh3 hh4 hh5 hh6 hh7 h11
  intro i h0 h1 h2 h3 h4 h5 h6
  rw[A62 (i:=i.toNat) (by omega)]
  ·rfl
  ·rw[L,e h0]at h6
   rw[M2]
   rintro⟨a,b⟩
   rcases b with b | b
   ·omega
   ·exact h6 b
 case g6 =>
  rw[L,e hh2]at h11
  exact A0x hh2 hh5 hh4 ((M2 _ _).2 ⟨Classical.not_not.1 hh6,.inr (Classical.not_not.1 h11)⟩)
 case g7 =>
  exact A0x hh2 hh5 hh4 ((M2 _ _).2 ⟨Classical.not_not.1 hh6,.inl (by omega)⟩)
theorem con52(f:Facts)(hb:szF f):Con Tryz.prog 52 [.agg (c36 f)] (.b (okF f)) :=
 by
 refine sC B3 [.tmp 2] 16 Tryz.func52 ?_
 intro e0 cx
 refine sq<|rG cx [1] [1] z0<|sn<|sq<|A9 (σ':=⟨[(2,.b (decide (C3 f.adds=0∧f.gone=A5 f.gone∧W6 f.recs=0)))],[]⟩) ?_ ?_
 refine A6 (C3 f.adds=0) (fun h1=>?_) (fun h1=>?_)
 refine A6 (f.gone=A5 f.gone) (fun h2=>?_) (fun h2=>?_)
 refine rg (A:=_∧_∧_∧_∧_∧(AV.b (decide (W6 f.recs=0))=AV.b (decide (C3 f.adds=0∧f.gone=A5 f.gone∧W6 f.recs=0)))) cx [(2,{ val:=some (.b (decide (C3 f.adds=0))),tell:=some (.b (true)) }),(6,{ val:=some (.b (decide (f.gone=A5 f.gone))),tell:=some (.b (true)) }),(11,{ val:=some (.b (decide (W6 f.recs=0))) }),(13,{ tell:=some (.b (decide (C3 f.adds=0∧f.gone=A5 f.gone∧W6 f.recs=0))) })] [2] [] ⟨(A4 h1),(B5s (f.adds)),(A4 h2),(Ak1 (f.gone) ?g0 ?g1),(con120 (f.recs) ?g2),(by simp only [eq_true h1,eq_true h2,tsl])⟩ ?_;rotate_left 3
 exact⟨rfl,by kernel_rfl⟩
 refine rg (A:=_∧_∧_∧_∧(AV.b false=AV.b (decide (C3 f.adds=0∧f.gone=A5 f.gone∧W6 f.recs=0)))) cx [(2,{ val:=some (.b (decide (C3 f.adds=0))),tell:=some (.b (true)) }),(6,{ val:=some (.b (decide (f.gone=A5 f.gone))),tell:=some (.b (false)) }),(13,{ tell:=some (.b (decide (C3 f.adds=0∧f.gone=A5 f.gone∧W6 f.recs=0))) })] [2] [] ⟨(A4 h1),(B5s (f.adds)),(A0 h2),(Ak1 (f.gone) ?g3 ?g4),(by simp only [eq_true h1,eq_false h2,tsl])⟩ ?_;rotate_left 2
 exact⟨rfl,by kernel_rfl⟩
 refine rg (A:=_∧_∧(AV.b false=AV.b (decide (C3 f.adds=0∧f.gone=A5 f.gone∧W6 f.recs=0)))) cx [(2,{ val:=some (.b (decide (C3 f.adds=0))),tell:=some (.b (false)) }),(13,{ tell:=some (.b (decide (C3 f.adds=0∧f.gone=A5 f.gone∧W6 f.recs=0))) })] [2] [] ⟨(A0 h1),(B5s (f.adds)),(by simp only [eq_false h1,tsl])⟩ ?_
 exact⟨rfl,by kernel_rfl⟩
 refine sn<|rT<|qR (.b (decide (C3 f.adds=0∧f.gone=A5 f.gone∧W6 f.recs=0))) (.eq ?g5);rotate_left
 revert h1 h2;rotate_left
 revert h1 h2;rotate_left
 revert h1 h2;rotate_left
 revert h1 h2;rotate_left
 revert h1 h2;rotate_left
 rotate_left
 case g2=>intros;exact hb.2
 case g5=>rw[Ae8]
 all_goals (intros;first | exact hb.1.1 | exact hb.1.2)
theorem con87(f:Facts)(hb:szF f):Con Tryz.prog 87 [.agg (c36 f)] (.b (okF f)) :=
 by
 refine sC B3 [.tmp 2] 18 Tryz.func87 ?_
 intro e0 cx
 refine sq<|rG cx [1] [1] z0<|sn<|sq<|A9 (σ':=⟨[(2,.b (decide (C3 f.adds=0∧f.gone=A5 f.gone∧W6 f.recs=0)))],[]⟩) ?_ ?_
 refine A6 (C3 f.adds=0) (fun h1=>?_) (fun h1=>?_)
 refine A6 (f.gone=A5 f.gone) (fun h2=>?_) (fun h2=>?_)
 refine rg (A:=_∧_∧_∧_∧_∧(AV.b (W6 f.recs ==(0:Int))=AV.b (decide (W6 f.recs=0)))∧(AV.b (decide (W6 f.recs=0))=AV.b (decide (C3 f.adds=0∧f.gone=A5 f.gone∧W6 f.recs=0)))) cx [(2,{ val:=some (.i .i64 (C3 f.adds)) }),(3,{ tell:=some (.b (true)) }),(7,{ val:=some (.b (decide (f.gone=A5 f.gone))),tell:=some (.b (true)) }),(12,{ val:=some (.i .i64 (W6 f.recs)) }),(13,{ tell:=some (.b (decide (W6 f.recs=0))) }),(15,{ tell:=some (.b (decide (C3 f.adds=0∧f.gone=A5 f.gone∧W6 f.recs=0))) })] [2] [] ⟨(M3 (f.adds)),(A4 h1),(A4 h2),(A08 (f.gone) (by exact hb.1.1)),(con160 (f.recs) (by exact szQ_s hb.2)),(by kernel_rfl),(by simp only [eq_true h1,eq_true h2,tsl])⟩ ?_
 exact⟨rfl,by kernel_rfl⟩
 refine rg (A:=_∧_∧_∧_∧(AV.b false=AV.b (decide (C3 f.adds=0∧f.gone=A5 f.gone∧W6 f.recs=0)))) cx [(2,{ val:=some (.i .i64 (C3 f.adds)) }),(3,{ tell:=some (.b (true)) }),(7,{ val:=some (.b (decide (f.gone=A5 f.gone))),tell:=some (.b (false)) }),(15,{ tell:=some (.b (decide (C3 f.adds=0∧f.gone=A5 f.gone∧W6 f.recs=0))) })] [2] [] ⟨(M3 (f.adds)),(A4 h1),(A0 h2),(A08 (f.gone) (by exact hb.1.1)),(by simp only [eq_true h1,eq_false h2,tsl])⟩ ?_
 exact⟨rfl,by kernel_rfl⟩
 refine rG cx [2] [] (fT (M3 (f.adds)) (tT 3 (A0 h1) (tD 15 false (C3 f.adds=0∧f.gone=A5 f.gone∧W6 f.recs=0) (by simp only [eq_false h1,tsl]) (oA 2 (.i .i64 (C3 f.adds)) z0)))) ?_
 exact⟨rfl,by kernel_rfl⟩
 refine sn<|rT<|qR (.b (decide (C3 f.adds=0∧f.gone=A5 f.gone∧W6 f.recs=0))) (.eq (by rw[Ae8]))
end Go.Proofs.YtphcaholhacnpaaGreat
namespace Go.Proofs.YtphcaholhacnpaaGreat
open Go.E
set_option maxRecDepth 100000
set_option maxHeartbeats 4000000
noncomputable def J5(a:Actn):Int:=if a.kind < 1∨6 < a.kind then 7 else if(a.kind=4∨a.kind=6)∧¬ a.past=A5 a.past then 1 else if a.kind≤4∧F5 a.sku=false then 5 else if a.kind≤2∧(a.qty < 1∨1000000 < a.qty)then 6 else 0
noncomputable def T5(p:Past)(rep count:Int):Dot×Int:=if ¬ p=A5 p then(default,1)else H8 p rep count
noncomputable def evE(f:Facts):Int:=if okF f=false then 1 else if f.adds.length=1∧f.recs.length=0 then(if F0 f.gone f.adds[0]!.dot.rep < f.adds[0]!.dot.num then 0 else 2)
 else if f.adds.length=0∧f.recs.length=0 then 0 else if f.adds.length=0∧f.recs.length=1∧C5 f.gone=0 then 0 else 2
theorem A9l{b:Bool}(h:¬ b=true):b=false:=by cases b <;> simp_all
theorem K5{b:Bool}(h:¬ ¬ b=true):¬ b=false:=by cases b <;> simp_all
theorem A64{es:List Entry}(h:(es.length:Int)=1):(es.map c46)[Int.toNat 0]?=some (c46 es[0]!):=by
 cases es with
 | nil=>simp at h
 | cons e es=>rfl
theorem A9m(a:Actn)(hb:szP a.past):Con Tryz.prog 83 [.agg (c30 a)] (.i .i64 (J5 a)) :=
 by
 refine sC B3 [.tmp 2] 69 Tryz.func83 ?_
 intro e0 cx
 refine sq<|rG cx [1] [1] z0<|sn<|sq<|sq<|A9 (σ':=⟨[(1,.ptr (1) (0) (0) (0)),(13,.b (decide (a.kind <(1:Int)∨(6:Int) < a.kind)))],[(1,⟨0,30,.var [.i .i64 (a.kind),.s (a.sku),.i .i64 (a.qty),.sl (List.map c3 a.past.vec),.sl (List.map B1 a.past.cloud)]⟩)]⟩) ?_ ?_
 refine A6 (a.kind <(1:Int)) (fun h_1=>?_) (fun h_1=>?_)
 refine rG cx [1,13] [1] (tT 2 (A4 h_1) (tD 7 true (a.kind <(1:Int)∨(6:Int) < a.kind) (by simp only [eq_true h_1,tsl]) z0)) ?_
 exact⟨rfl,by kernel_rfl⟩
 refine rG cx [1,13] [1] (tT 2 (A0 h_1) (tB 6 ((6:Int) < a.kind) (tD 7 (decide ((6:Int) < a.kind)) (a.kind <(1:Int)∨(6:Int) < a.kind) (by simp only [eq_false h_1,tsl]) z0))) ?_
 exact⟨rfl,by kernel_rfl⟩
 refine sn<|dC (a.kind <(1:Int)∨(6:Int) < a.kind) (fun hh2=>?_) fun hh2=>?_
 refine sq<|rG cx [2] [] z0<|sn<|rT<|nR<|qR (.i .i64 ((7:Int))) (.eq (by unfold J5;rw[if_pos hh2]))
 refine sK<|sn<|sq<|A9 (σ':=⟨[(1,.ptr (1) (0) (0) (0)),(3,.b (decide (a.kind=4∨a.kind=6)))],[(1,⟨0,30,.var [.i .i64 (a.kind),.s (a.sku),.i .i64 (a.qty),.sl (List.map c3 a.past.vec),.sl (List.map B1 a.past.cloud)]⟩)]⟩) ?_ ?_
 refine A6 (a.kind=4) (fun h_4=>?_) (fun h_4=>?_)
 refine rG cx [1,3] [1] (tT 2 (A4 h_4) (tD 8 true (a.kind=4∨a.kind=6) (by simp only [eq_true h_4,tsl]) z0)) ?_
 exact⟨rfl,by kernel_rfl⟩
 refine rG cx [1,3] [1] (tT 2 (A0 h_4) (tB 6 (a.kind=6) (tD 8 (decide (a.kind=6)) (a.kind=4∨a.kind=6) (by simp only [eq_false h_4,tsl]) z0))) ?_
 exact⟨rfl,by kernel_rfl⟩
 refine sn<|sq<|A9 (σ':=⟨[(1,.ptr (1) (0) (0) (0)),(3,.b (decide (a.kind=4∨a.kind=6))),(4,.b (decide (a.kind=1∨a.kind=2)))],[(1,⟨0,30,.var [.i .i64 (a.kind),.s (a.sku),.i .i64 (a.qty),.sl (List.map c3 a.past.vec),.sl (List.map B1 a.past.cloud)]⟩)]⟩) ?_ ?_
 refine A6 (a.kind=1) (fun h_6=>?_) (fun h_6=>?_)
 refine rG cx [1,3,4] [1] (tT 2 (A4 h_6) (tD 8 true (a.kind=1∨a.kind=2) (by simp only [eq_true h_6,tsl]) z0)) ?_
 exact⟨rfl,by kernel_rfl⟩
 refine rG cx [1,3,4] [1] (tT 2 (A0 h_6) (tB 6 (a.kind=2) (tD 8 (decide (a.kind=2)) (a.kind=1∨a.kind=2) (by simp only [eq_false h_6,tsl]) z0))) ?_
 exact⟨rfl,by kernel_rfl⟩
 refine sn<|sq<|A9 (σ':=⟨[(1,.ptr (1) (0) (0) (0)),(3,.b (decide (a.kind=4∨a.kind=6))),(4,.b (decide (a.kind=1∨a.kind=2))),(5,.b (decide ((a.kind=1∨a.kind=2)∨a.kind=3∨a.kind=4)))],[(1,⟨0,30,.var [.i .i64 (a.kind),.s (a.sku),.i .i64 (a.qty),.sl (List.map c3 a.past.vec),.sl (List.map B1 a.past.cloud)]⟩)]⟩) ?_ ?_
 refine A6 (a.kind=1∨a.kind=2) (fun h_8=>?_) (fun h_8=>?_)
 refine rG cx [1,3,4,5] [1] (tT 0 (A4 h_8) (tD 11 true ((a.kind=1∨a.kind=2)∨a.kind=3∨a.kind=4) (by simp only [eq_true h_8,tsl]) z0)) ?_
 exact⟨rfl,by kernel_rfl⟩
 refine A6 (a.kind=3) (fun h_9=>?_) (fun h_9=>?_)
 refine rG cx [1,3,4,5] [1] (tT 0 (A0 h_8) (tT 4 (A4 h_9) (tD 11 true ((a.kind=1∨a.kind=2)∨a.kind=3∨a.kind=4) (by simp only [eq_false h_8,eq_true h_9,tsl]) z0))) ?_
 exact⟨rfl,by kernel_rfl⟩
 refine rG cx [1,3,4,5] [1] (tT 0 (A0 h_8) (tT 4 (A0 h_9) (tB 9 (a.kind=4) (tD 11 (decide (a.kind=4)) ((a.kind=1∨a.kind=2)∨a.kind=3∨a.kind=4) (by simp only [eq_false h_8,eq_false h_9,tsl]) z0)))) ?_
 exact⟨rfl,by kernel_rfl⟩
 refine sn<|sq<|bL 0<|sq<|A9 (σ':=⟨[(1,.ptr (1) (0) (0) (0)),(4,.b (decide (a.kind=1∨a.kind=2))),(5,.b (decide ((a.kind=1∨a.kind=2)∨a.kind=3∨a.kind=4))),(41,.b (decide ((a.kind=4∨a.kind=6)∧¬a.past=A5 a.past)))],[(1,⟨0,30,.var [.i .i64 (a.kind),.s (a.sku),.i .i64 (a.qty),.sl (List.map c3 a.past.vec),.sl (List.map B1 a.past.cloud)]⟩)]⟩) ?_ ?_
 refine A6 (a.kind=4∨a.kind=6) (fun h11=>?_) (fun h11=>?_)
 refine rG cx [1,4,5,41] [1] (tT 0 (A4 h11) (fT (A08 (a.past) (by exact hb.1)) (tQ 5 (a.past=A5 a.past) (tD 7 (decide ¬a.past=A5 a.past) ((a.kind=4∨a.kind=6)∧¬a.past=A5 a.past) (by simp only [eq_true h11,tsl]) (oA 4 (.b (decide (a.past=A5 a.past))) z0))))) ?_
 exact⟨rfl,by kernel_rfl⟩
 refine rG cx [1,4,5,41] [1] (tT 0 (A0 h11) (tD 7 false ((a.kind=4∨a.kind=6)∧¬a.past=A5 a.past) (by simp only [eq_false h11,tsl]) z0)) ?_
 exact⟨rfl,by kernel_rfl⟩
 refine sn<|dC ((a.kind=4∨a.kind=6)∧¬a.past=A5 a.past) (fun h12=>?_) fun h12=>?_
 refine sq<|rG cx [2] [] z0<|sn<|rT<|bR<|nR<|qR (.i .i64 ((1:Int))) (.eq (by unfold J5;rw[if_neg hh2,if_pos h12]))
 refine sq<|A9 (σ':=⟨[(1,.ptr (1) (0) (0) (0)),(4,.b (decide (a.kind=1∨a.kind=2))),(49,.b (decide (((a.kind=1∨a.kind=2)∨a.kind=3∨a.kind=4)∧¬F5 a.sku=true)))],[(1,⟨0,30,.var [.i .i64 (a.kind),.s (a.sku),.i .i64 (a.qty),.sl (List.map c3 a.past.vec),.sl (List.map B1 a.past.cloud)]⟩)]⟩) ?_ ?_
 refine A6 ((a.kind=1∨a.kind=2)∨a.kind=3∨a.kind=4) (fun h_14=>?_) (fun h_14=>?_)
 refine rG cx [1,4,49] [1] (tT 0 (A4 h_14) (fT (A86 (a.sku)) (tT 5 (E8:(AV.b !F5 a.sku)=AV.b (decide ¬F5 a.sku=true)) (tD 7 (decide ¬F5 a.sku=true) (((a.kind=1∨a.kind=2)∨a.kind=3∨a.kind=4)∧¬F5 a.sku=true) (by simp only [eq_true h_14,tsl]) (oA 4 (.b (F5 a.sku)) z0))))) ?_
 exact⟨rfl,by kernel_rfl⟩
 refine rG cx [1,4,49] [1] (tT 0 (A0 h_14) (tD 7 false (((a.kind=1∨a.kind=2)∨a.kind=3∨a.kind=4)∧¬F5 a.sku=true) (by simp only [eq_false h_14,tsl]) z0)) ?_
 exact⟨rfl,by kernel_rfl⟩
 refine sn<|dC (((a.kind=1∨a.kind=2)∨a.kind=3∨a.kind=4)∧¬F5 a.sku=true) (fun h15=>?_) fun h15=>?_
 refine sq<|rG cx [2] [] z0<|sn<|rT<|bR<|nR<|qR (.i .i64 ((5:Int))) (.eq (by unfold J5;rw[if_neg hh2,if_neg h12,if_pos ⟨by omega,A9l h15.2⟩]))
 refine sq<|A9 (σ':=⟨[(57,.b (decide ((a.kind=1∨a.kind=2)∧(a.qty <(1:Int)∨(1000000:Int) < a.qty))))],[]⟩) ?_ ?_
 refine A6 (a.kind=1∨a.kind=2) (fun h_17=>?_) (fun h_17=>?_)
 refine A6 (a.qty <(1:Int)) (fun h_18=>?_) (fun h_18=>?_)
 refine rG cx [57] [] (tT 0 (A4 h_17) (tT 4 (A4 h_18) (tD 11 true ((a.kind=1∨a.kind=2)∧(a.qty <(1:Int)∨(1000000:Int) < a.qty)) (by simp only [eq_true h_17,eq_true h_18,tsl]) z0))) ?_
 exact⟨rfl,by kernel_rfl⟩
 refine rG cx [57] [] (tT 0 (A4 h_17) (tT 4 (A0 h_18) (tB 8 ((1000000:Int) < a.qty) (tD 11 (decide ((1000000:Int) < a.qty)) ((a.kind=1∨a.kind=2)∧(a.qty <(1:Int)∨(1000000:Int) < a.qty)) (by simp only [eq_true h_17,eq_false h_18,tsl]) z0)))) ?_
 exact⟨rfl,by kernel_rfl⟩
 refine rG cx [57] [] (tT 0 (A0 h_17) (tD 11 false ((a.kind=1∨a.kind=2)∧(a.qty <(1:Int)∨(1000000:Int) < a.qty)) (by simp only [eq_false h_17,tsl]) z0)) ?_
 exact⟨rfl,by kernel_rfl⟩
 refine sn<|dC ((a.kind=1∨a.kind=2)∧(a.qty <(1:Int)∨(1000000:Int) < a.qty)) (fun h19=>?_) fun h19=>?_
 refine sq<|rG cx [2] [] z0<|sn<|rT<|bR<|nR<|qR (.i .i64 ((6:Int))) (.eq (by unfold J5;rw[if_neg hh2,if_neg h12,if_neg (fun c=>h15 ⟨by omega,by rw[c.2];simp⟩),if_pos ⟨by omega,h19.2⟩]))
 refine sK<|bN<|sn<|sq<|rG cx [2] [] z0<|sn<|rT<|qR (.i .i64 ((0:Int))) (.eq (by unfold J5;rw[if_neg hh2,if_neg h12,if_neg (fun c=>h15 ⟨by omega,by rw[c.2];simp⟩),if_neg (fun c=>h19 ⟨by omega,c.2⟩)]))
theorem con237(p:Past)(rep count:Int)(hb:szP p):Con Tryz.prog 237 [.agg (c26 p),.i .i64 rep,.i .i64 count] (.tup [.agg (c44 (T5 p rep count).1),.i .i64 (T5 p rep count).2]) :=
 by
 refine sC B3 [.cell 6 44,.tmp 7] 18 Tryz.func237 ?_
 intro e0 cx
 refine sq<|rG cx [1,2,3,6] [3,6] z0<|sn<|sq<|sq<|rG cx [1,2,3,6,10] [3,6] (fT (A08 (p) (by exact hb.1)) (tQ 2 (p=A5 p) (oA 1 (.b (decide (p=A5 p))) z0))) ?_
 refine sn<|dC (¬p=A5 p) (fun h0=>?_) fun h0=>?_
 refine sq<|rG cx [6,7] [6] z0<|sn<|rT<|nR<|qR (.tup [.agg [.i .i64 ((0:Int)),.i .i64 ((0:Int))],.i .i64 ((1:Int))]) (A7.tup (ZLe.cons (A7.eq (show AV.agg [AV.i .i64 (0:Int),AV.i .i64 (0:Int)]=AV.agg [AV.i .i64 (T5 p rep count).1.rep,AV.i .i64 (T5 p rep count).1.num]from(by unfold T5;rw[if_pos h0];rfl))) (ZLe.cons (A7.eq (show AV.i .i64 1=AV.i .i64 (T5 p rep count).2 from(by unfold T5;rw[if_pos h0]))) ZLe.nil)))
 refine sK<|sn<|sq<|rG cx [6,7] [6] (fT (con273 (p) (rep) (count) (by exact hb.1)) (oA 3 (.tup [.agg [.i .i64 ((H8 p rep count).1.rep),.i .i64 ((H8 p rep count).1.num)],.i .i64 ((H8 p rep count).2)]) z0)) ?_
 refine sn<|rT<|qR (.tup [.agg [.i .i64 ((H8 p rep count).1.rep),.i .i64 ((H8 p rep count).1.num)],.i .i64 ((H8 p rep count).2)]) (A7.tup (ZLe.cons (A7.eq (show AV.agg [AV.i .i64 (H8 p rep count).1.rep,AV.i .i64 (H8 p rep count).1.num]=AV.agg [AV.i .i64 (T5 p rep count).1.rep,AV.i .i64 (T5 p rep count).1.num]from(by unfold T5;rw[if_neg h0]))) (ZLe.cons (A7.eq (show AV.i .i64 (H8 p rep count).2=AV.i .i64 (T5 p rep count).2 from(by unfold T5;rw[if_neg h0]))) ZLe.nil)))
theorem con17(f:Facts)(hb:szF f):Con Tryz.prog 17 [.agg (c36 f)] (.i .i64 (evE f)) :=
 by
 refine sC B3 [.tmp 2] 60 Tryz.func17 ?_
 intro e0 cx
 refine sq<|rG cx [1] [1] z0<|sn<|sq<|sq<|rG cx [1,7] [1] (fT (con87 (f) (by(with_reducible assumption))) (tT 2 (E8:(AV.b !okF f)=AV.b (decide ¬okF f=true)) (oA 1 (.b (okF f)) z0)))<|sn<|dC (¬okF f=true) (fun h0=>?_) fun h0=>?_
 refine sq<|rG cx [2] [] z0<|sn<|rT<|nR<|qR (.i .i64 ((1:Int))) (.eq (by unfold evE;rw[if_pos (A9l h0)]))
 refine sK<|sn<|sq<|rG cx [1,3] [1] (fT (B5j (f.gone) (by exact hb.1.1)) (oA 2 (.b (decide (C5 f.gone=0))) z0)) ?_
 refine sn<|sq<|bL 0<|sq<|A9 (σ':=⟨[(1,.ptr (1) (0) (0) (0)),(3,.b (decide (C5 f.gone=0))),(11,.b (decide ((↑f.adds.length:Int)=1∧(↑f.recs.length:Int)=0)))],[(1,⟨0,36,.var [.sl (List.map c46 f.adds),.sl (List.map c3 f.gone.vec),.sl (List.map B1 f.gone.cloud),.sl (List.map c54 f.recs)]⟩)]⟩) ?_ ?_
 refine A6 ((↑f.adds.length:Int)=1) (fun h_2=>?_) (fun h_2=>?_)
 refine rG cx [1,3,11] [1] (tL 2 c46 f.adds (tT 3 (A4 h_2) (tL 7 c54 f.recs (tB 8 ((↑f.recs.length:Int)=0) (tD 10 (decide ((↑f.recs.length:Int)=0)) ((↑f.adds.length:Int)=1∧(↑f.recs.length:Int)=0) (by simp only [eq_true h_2,tsl]) z0))))) ?_
 exact⟨rfl,by kernel_rfl⟩
 refine rG cx [1,3,11] [1] (tL 2 c46 f.adds (tT 3 (A0 h_2) (tD 10 false ((↑f.adds.length:Int)=1∧(↑f.recs.length:Int)=0) (by simp only [eq_false h_2,tsl]) z0))) ?_
 exact⟨rfl,by kernel_rfl⟩
 refine sn<|dC ((↑f.adds.length:Int)=1∧(↑f.recs.length:Int)=0) (fun h3=>?_) fun h3=>?_
 refine sq<|rG cx [1,4] [1,4] (fO ((0:Int)≤(0:Int)) (fP ((List.map c46 f.adds)[Int.toNat (0:Int)]?=some (c46 f.adds[(0:Nat)]!)) (by exact A64 h3.1) (fR 4 (fN 2 4 (oR 2 (c46 f.adds[(0:Nat)]!) z0))))) ?_
 refine sn<|sq<|rA cx [34] [] (fT (con88 (f.gone) (f.adds[(0:Nat)]!.dot.rep) (by exact hb.1.1)) (tB 7 (F0 f.gone f.adds[(0:Nat)]!.dot.rep < f.adds[(0:Nat)]!.dot.num) (oA 4 (.i .i64 (F0 f.gone f.adds[(0:Nat)]!.dot.rep)) z0))) ?_
 refine sn<|dC (F0 f.gone f.adds[(0:Nat)]!.dot.rep < f.adds[(0:Nat)]!.dot.num) (fun h4=>?_) fun h4=>?_
 refine sq<|rG cx [2] [] z0<|sn<|rT<|bR<|nR<|qR (.i .i64 ((0:Int))) (.eq (by unfold evE;rw[if_neg (K5 h0),if_pos (by omega),if_pos h4]))
 refine sK<|bN<|sn<|sq<|rG cx [2] [] z0<|sn<|rT<|qR (.i .i64 ((2:Int))) (.eq (by unfold evE;rw[if_neg (K5 h0),if_pos (by omega),if_neg h4]))
 refine sq<|A9 (σ':=⟨[(1,.ptr (1) (0) (0) (0)),(3,.b (decide (C5 f.gone=0))),(35,.b (decide ((↑f.adds.length:Int)=0∧(↑f.recs.length:Int)=0)))],[(1,⟨0,36,.var [.sl (List.map c46 f.adds),.sl (List.map c3 f.gone.vec),.sl (List.map B1 f.gone.cloud),.sl (List.map c54 f.recs)]⟩)]⟩) ?_ ?_
 refine A6 ((↑f.adds.length:Int)=0) (fun h_6=>?_) (fun h_6=>?_)
 refine rG cx [1,3,35] [1] (tL 2 c46 f.adds (tT 3 (A4 h_6) (tL 7 c54 f.recs (tB 8 ((↑f.recs.length:Int)=0) (tD 10 (decide ((↑f.recs.length:Int)=0)) ((↑f.adds.length:Int)=0∧(↑f.recs.length:Int)=0) (by simp only [eq_true h_6,tsl]) z0))))) ?_
 exact⟨rfl,by kernel_rfl⟩
 refine rG cx [1,3,35] [1] (tL 2 c46 f.adds (tT 3 (A0 h_6) (tD 10 false ((↑f.adds.length:Int)=0∧(↑f.recs.length:Int)=0) (by simp only [eq_false h_6,tsl]) z0))) ?_
 exact⟨rfl,by kernel_rfl⟩
 refine sn<|dC ((↑f.adds.length:Int)=0∧(↑f.recs.length:Int)=0) (fun h7=>?_) fun h7=>?_
 refine sq<|rG cx [2] [] z0<|sn<|rT<|bR<|nR<|qR (.i .i64 ((0:Int))) (.eq (by unfold evE;rw[if_neg (K5 h0),if_neg (by omega),if_pos (by omega)]))
 refine sq<|A9 (σ':=⟨[(46,.b (decide ((↑f.adds.length:Int)=0∧(↑f.recs.length:Int)=1∧C5 f.gone=0)))],[]⟩) ?_ ?_
 refine A6 ((↑f.adds.length:Int)=0) (fun h_9=>?_) (fun h_9=>?_)
 refine A6 ((↑f.recs.length:Int)=1) (fun h_10=>?_) (fun h_10=>?_)
 refine rG cx [46] [] (tL 2 c46 f.adds (tT 3 (A4 h_9) (tL 7 c54 f.recs (tT 8 (A4 h_10) (tD 13 (decide (C5 f.gone=0)) ((↑f.adds.length:Int)=0∧(↑f.recs.length:Int)=1∧C5 f.gone=0) (by simp only [eq_true h_9,eq_true h_10,tsl]) z0))))) ?_
 exact⟨rfl,by kernel_rfl⟩
 refine rG cx [46] [] (tL 2 c46 f.adds (tT 3 (A4 h_9) (tL 7 c54 f.recs (tT 8 (A0 h_10) (tD 13 false ((↑f.adds.length:Int)=0∧(↑f.recs.length:Int)=1∧C5 f.gone=0) (by simp only [eq_true h_9,eq_false h_10,tsl]) z0))))) ?_
 exact⟨rfl,by kernel_rfl⟩
 refine rG cx [46] [] (tL 2 c46 f.adds (tT 3 (A0 h_9) (tD 13 false ((↑f.adds.length:Int)=0∧(↑f.recs.length:Int)=1∧C5 f.gone=0) (by simp only [eq_false h_9,tsl]) z0))) ?_
 exact⟨rfl,by kernel_rfl⟩
 refine sn<|dC ((↑f.adds.length:Int)=0∧(↑f.recs.length:Int)=1∧C5 f.gone=0) (fun h11=>?_) fun h11=>?_
 refine sq<|rG cx [2] [] z0<|sn<|rT<|bR<|nR<|qR (.i .i64 ((0:Int))) (.eq (by unfold evE;rw[if_neg (K5 h0),if_neg (by omega),if_neg (by omega),if_pos (by omega)]))
 refine sK<|bN<|sn<|sq<|rG cx [2] [] z0<|sn<|rT<|qR (.i .i64 ((2:Int))) (.eq (by unfold evE;rw[if_neg (K5 h0),if_neg (by omega),if_neg (by omega),if_neg (by omega)]))
theorem con20(f:Facts)(hb:szF f):Con Tryz.prog 20 [.agg (c36 f)] (.i .i64 (evE f)) :=
 by
 refine sC B3 [.tmp 2] 64 Tryz.func20 ?_
 intro e0 cx
 refine sq<|rG cx [1] [1] z0<|sn<|sq<|sq<|rG cx [1,6] [1] (fT (con52 (f) (by(with_reducible assumption))) (tT 2 (E8:(AV.b !okF f)=AV.b (decide ¬okF f=true)) (oA 1 (.b (okF f)) z0)))<|sn<|dC (¬okF f=true) (fun h0=>?_) fun h0=>?_
 refine sq<|rG cx [2] [] z0<|sn<|rT<|nR<|qR (.i .i64 ((1:Int))) (.eq (by unfold evE;rw[if_pos (A9l h0)]))
 refine sK<|sn<|sq<|rG cx [1,3] [1] (fT (B5m (f.gone) (by exact hb.1.1)) (tQ 3 (C5 f.gone=0) (oA 2 (.b (decide (C5 f.gone=0))) z0))) ?_
 refine sn<|sq<|bL 0<|sq<|A9 (σ':=⟨[(1,.ptr (1) (0) (0) (0)),(3,.b (decide ¬C5 f.gone=0)),(11,.b (decide ((↑f.adds.length:Int)=1∧(↑f.recs.length:Int)=0)))],[(1,⟨0,36,.var [.sl (List.map c46 f.adds),.sl (List.map c3 f.gone.vec),.sl (List.map B1 f.gone.cloud),.sl (List.map c54 f.recs)]⟩)]⟩) ?_ ?_
 refine A6 ((↑f.adds.length:Int)=1) (fun h_2=>?_) (fun h_2=>?_)
 refine rG cx [1,3,11] [1] (tL 2 c46 f.adds (tT 3 (A4 h_2) (tL 7 c54 f.recs (tB 8 ((↑f.recs.length:Int)=0) (tD 10 (decide ((↑f.recs.length:Int)=0)) ((↑f.adds.length:Int)=1∧(↑f.recs.length:Int)=0) (by simp only [eq_true h_2,tsl]) z0))))) ?_
 exact⟨rfl,by kernel_rfl⟩
 refine rG cx [1,3,11] [1] (tL 2 c46 f.adds (tT 3 (A0 h_2) (tD 10 false ((↑f.adds.length:Int)=1∧(↑f.recs.length:Int)=0) (by simp only [eq_false h_2,tsl]) z0))) ?_
 exact⟨rfl,by kernel_rfl⟩
 refine sn<|dC ((↑f.adds.length:Int)=1∧(↑f.recs.length:Int)=0) (fun h3=>?_) fun h3=>?_
 refine sq<|sq<|rA cx [37] [] (fO ((0:Int)≤(0:Int)) (fP ((List.map c46 f.adds)[Int.toNat (0:Int)]?=some (c46 f.adds[(0:Nat)]!)) (by exact A64 h3.1) (fR 4 (fT (con91 (f.gone) (f.adds[(0:Nat)]!.dot.rep) (by exact hb.1.1)) (fO ((0:Int)≤(0:Int)) (fP ((List.map c46 f.adds)[Int.toNat (0:Int)]?=some (c46 f.adds[(0:Nat)]!)) (by exact A64 h3.1) (fR 4 (tB 15 (f.adds[(0:Nat)]!.dot.num≤F0 f.gone f.adds[(0:Nat)]!.dot.rep) (oR 4 (c46 f.adds[(0:Nat)]!) (oA 8 (.i .i64 (F0 f.gone f.adds[(0:Nat)]!.dot.rep)) (oR 11 (c46 f.adds[(0:Nat)]!) z0))))))))))) ?_
 refine sn<|dC (f.adds[(0:Nat)]!.dot.num≤F0 f.gone f.adds[(0:Nat)]!.dot.rep) (fun h4=>?_) fun h4=>?_
 refine sq<|rG cx [2] [] z0<|sn<|rT<|nR<|bR<|nR<|qR (.i .i64 ((2:Int))) (.eq (by unfold evE;rw[if_neg (K5 h0),if_pos (by omega),if_neg (by omega)]))
 refine sK<|sn<|sq<|rG cx [2] [] z0<|sn<|rT<|bR<|nR<|qR (.i .i64 ((0:Int))) (.eq (by unfold evE;rw[if_neg (K5 h0),if_pos (by omega),if_pos (by omega)]))
 refine sq<|A9 (σ':=⟨[(1,.ptr (1) (0) (0) (0)),(3,.b (decide ¬C5 f.gone=0)),(38,.b (decide ((↑f.adds.length:Int)=0∧(↑f.recs.length:Int)=0)))],[(1,⟨0,36,.var [.sl (List.map c46 f.adds),.sl (List.map c3 f.gone.vec),.sl (List.map B1 f.gone.cloud),.sl (List.map c54 f.recs)]⟩)]⟩) ?_ ?_
 refine A6 ((↑f.adds.length:Int)=0) (fun h_6=>?_) (fun h_6=>?_)
 refine rG cx [1,3,38] [1] (tL 2 c46 f.adds (tT 3 (A4 h_6) (tL 7 c54 f.recs (tB 8 ((↑f.recs.length:Int)=0) (tD 10 (decide ((↑f.recs.length:Int)=0)) ((↑f.adds.length:Int)=0∧(↑f.recs.length:Int)=0) (by simp only [eq_true h_6,tsl]) z0))))) ?_
 exact⟨rfl,by kernel_rfl⟩
 refine rG cx [1,3,38] [1] (tL 2 c46 f.adds (tT 3 (A0 h_6) (tD 10 false ((↑f.adds.length:Int)=0∧(↑f.recs.length:Int)=0) (by simp only [eq_false h_6,tsl]) z0))) ?_
 exact⟨rfl,by kernel_rfl⟩
 refine sn<|dC ((↑f.adds.length:Int)=0∧(↑f.recs.length:Int)=0) (fun h7=>?_) fun h7=>?_
 refine sq<|rG cx [2] [] z0<|sn<|rT<|bR<|nR<|qR (.i .i64 ((0:Int))) (.eq (by unfold evE;rw[if_neg (K5 h0),if_neg (by omega),if_pos (by omega)]))
 refine sq<|A9 (σ':=⟨[(49,.b (decide ((↑f.adds.length:Int)=0∧(↑f.recs.length:Int)=1∧¬¬C5 f.gone=0)))],[]⟩) ?_ ?_
 refine A6 ((↑f.adds.length:Int)=0) (fun h_9=>?_) (fun h_9=>?_)
 refine A6 ((↑f.recs.length:Int)=1) (fun h_10=>?_) (fun h_10=>?_)
 refine rG cx [49] [] (tL 2 c46 f.adds (tT 3 (A4 h_9) (tL 7 c54 f.recs (tT 8 (A4 h_10) (tT 12 (U2:(AV.b !decide ¬C5 f.gone=0)=AV.b (decide ¬¬C5 f.gone=0)) (tD 14 (decide ¬¬C5 f.gone=0) ((↑f.adds.length:Int)=0∧(↑f.recs.length:Int)=1∧¬¬C5 f.gone=0) (by simp only [eq_true h_9,eq_true h_10,tsl]) z0)))))) ?_
 exact⟨rfl,by kernel_rfl⟩
 refine rG cx [49] [] (tL 2 c46 f.adds (tT 3 (A4 h_9) (tL 7 c54 f.recs (tT 8 (A0 h_10) (tD 14 false ((↑f.adds.length:Int)=0∧(↑f.recs.length:Int)=1∧¬¬C5 f.gone=0) (by simp only [eq_true h_9,eq_false h_10,tsl]) z0))))) ?_
 exact⟨rfl,by kernel_rfl⟩
 refine rG cx [49] [] (tL 2 c46 f.adds (tT 3 (A0 h_9) (tD 14 false ((↑f.adds.length:Int)=0∧(↑f.recs.length:Int)=1∧¬¬C5 f.gone=0) (by simp only [eq_false h_9,tsl]) z0))) ?_
 exact⟨rfl,by kernel_rfl⟩
 refine sn<|dC ((↑f.adds.length:Int)=0∧(↑f.recs.length:Int)=1∧¬¬C5 f.gone=0) (fun h11=>?_) fun h11=>?_
 refine sq<|rG cx [2] [] z0<|sn<|rT<|bR<|nR<|qR (.i .i64 ((0:Int))) (.eq (by unfold evE;rw[if_neg (K5 h0),if_neg (by omega),if_neg (by omega),if_pos (by omega)]))
 refine sK<|bN<|sn<|sq<|rG cx [2] [] z0<|sn<|rT<|qR (.i .i64 ((2:Int))) (.eq (by unfold evE;rw[if_neg (K5 h0),if_neg (by omega),if_neg (by omega),if_neg (by omega)]))
end Go.Proofs.YtphcaholhacnpaaGreat
namespace Go.Proofs.YtphcaholhacnpaaGreat
open Go.E
set_option maxRecDepth 100000
set_option maxHeartbeats 4000000
open Go Go.Sort Go.RowKit Go.Lib Go.Shelf Go.Proofs
def B1u:Go.Shelf.Ren:=⟨fun | 6=>176 | 10=>218 | 11=>219 | 12=>220 | 13=>221 | 14=>222 | 24=>253 | 25=>254 | 26=>255 | 27=>256 | 28=>257 | 29=>258 | 30=>259 | 31=>260 | 32=>261 | 33=>262 | 34=>278 | 35=>279 | 36=>280 | 37=>281 | 38=>282 | 39=>290 | n=>n,
 fun | 0=>0 | 3=>3 | 4=>4 | 5=>5 | 9=>9 | 12=>12 | 17=>17 | 20=>20 | 26=>219 | 32=>246 | 33=>247 | 35=>249 | 37=>251 | 41=>255 | 44=>258 | 49=>270 | 51=>51 | 53=>273 | 54=>274 | 58=>278 | 60=>292 | 64=>296 | 66=>302 | 67=>127 | 75=>320 | 76=>321 | 77=>322 | 78=>323 | 79=>324 | 80=>325 | 82=>327 | n=>n,fun n=>n⟩
theorem Au5:Go.Proofs.LaysGg.n6 Tryz.prog B1u:={
 mixed:=(by kernel_rfl),
 f6:=Tryz.func176.trans (congrArg some (by kernel_rfl)),
 f10:=Tryz.func218.trans (congrArg some (by kernel_rfl)),
 f11:=Tryz.func219.trans (congrArg some (by kernel_rfl)),
 f12:=Tryz.func220.trans (congrArg some (by kernel_rfl)),
 f13:=Tryz.func221.trans (congrArg some (by kernel_rfl)),
 f14:=Tryz.func222.trans (congrArg some (by kernel_rfl)),
 f24:=Tryz.func253.trans (congrArg some (by kernel_rfl)),
 f25:=Tryz.func254.trans (congrArg some (by kernel_rfl)),
 f26:=Tryz.func255.trans (congrArg some (by kernel_rfl)),
 f27:=Tryz.func256.trans (congrArg some (by kernel_rfl)),
 f28:=Tryz.func257.trans (congrArg some (by kernel_rfl)),
 f29:=Tryz.func258.trans (congrArg some (by kernel_rfl)),
 f30:=Tryz.func259.trans (congrArg some (by kernel_rfl)),
 f31:=Tryz.func260.trans (congrArg some (by kernel_rfl)),
 f32:=Tryz.func261.trans (congrArg some (by kernel_rfl)),
 f33:=Tryz.func262.trans (congrArg some (by kernel_rfl)),
 f34:=Tryz.func278.trans (congrArg some (by kernel_rfl)),
 f35:=Tryz.func279.trans (congrArg some (by kernel_rfl)),
 f36:=Tryz.func280.trans (congrArg some (by kernel_rfl)),
 f37:=Tryz.func281.trans (congrArg some (by kernel_rfl)),
 f38:=Tryz.func282.trans (congrArg some (by kernel_rfl)),
 f39:=Tryz.func290.trans (congrArg some (by kernel_rfl)),
 t0:=Tryz.underlying0,a0:=Tryz.isAgg0,z0:=Tryz.sizeOf0,v0:=Tryz.zeroValue0,i0:=(by kernel_rfl),
 t3:=Tryz.underlying3,a3:=Tryz.isAgg3,z3:=Tryz.sizeOf3,v3:=Tryz.zeroValue3,i3:=(by kernel_rfl),
 t4:=Tryz.underlying4,a4:=Tryz.isAgg4,z4:=Tryz.sizeOf4,v4:=Tryz.zeroValue4,i4:=(by kernel_rfl),
 t5:=Tryz.underlying5,a5:=Tryz.isAgg5,z5:=Tryz.sizeOf5,v5:=Tryz.zeroValue5,i5:=(by kernel_rfl),
 t9:=Tryz.underlying9,a9:=Tryz.isAgg9,z9:=Tryz.sizeOf9,v9:=Tryz.zeroValue9,i9:=(by kernel_rfl),
 t12:=Tryz.underlying12,a12:=Tryz.isAgg12,z12:=Tryz.sizeOf12,v12:=Tryz.zeroValue12,i12:=(by kernel_rfl),
 t17:=Tryz.underlying17,a17:=Tryz.isAgg17,z17:=Tryz.sizeOf17,v17:=Tryz.zeroValue17,i17:=(by kernel_rfl),
 t20:=Tryz.underlying20,a20:=Tryz.isAgg20,z20:=Tryz.sizeOf20,v20:=Tryz.zeroValue20,i20:=(by kernel_rfl),
 t26:=Tryz.underlying219,a26:=Tryz.isAgg219,z26:=Tryz.sizeOf219,v26:=Tryz.zeroValue219,i26:=(by kernel_rfl),
 t32:=Tryz.underlying246,a32:=Tryz.isAgg246,z32:=Tryz.sizeOf246,v32:=Tryz.zeroValue246,i32:=(by kernel_rfl),
 t33:=Tryz.underlying247,a33:=Tryz.isAgg247,z33:=Tryz.sizeOf247,v33:=Tryz.zeroValue247,i33:=(by kernel_rfl),
 t35:=Tryz.underlying249,a35:=Tryz.isAgg249,z35:=Tryz.sizeOf249,v35:=Tryz.zeroValue249,i35:=(by kernel_rfl),
 t37:=Tryz.underlying251,a37:=Tryz.isAgg251,z37:=Tryz.sizeOf251,v37:=Tryz.zeroValue251,i37:=(by kernel_rfl),
 t41:=Tryz.underlying255,a41:=Tryz.isAgg255,z41:=Tryz.sizeOf255,v41:=Tryz.zeroValue255,i41:=(by kernel_rfl),
 t44:=Tryz.underlying258,a44:=Tryz.isAgg258,z44:=Tryz.sizeOf258,v44:=Tryz.zeroValue258,i44:=(by kernel_rfl),
 t49:=Tryz.underlying270,a49:=Tryz.isAgg270,z49:=Tryz.sizeOf270,v49:=Tryz.zeroValue270,i49:=(by kernel_rfl),
 t51:=Tryz.underlying51,a51:=Tryz.isAgg51,z51:=Tryz.sizeOf51,v51:=Tryz.zeroValue51,i51:=(by kernel_rfl),
 t53:=Tryz.underlying273,a53:=Tryz.isAgg273,z53:=Tryz.sizeOf273,v53:=Tryz.zeroValue273,i53:=(by kernel_rfl),
 t54:=Tryz.underlying274,a54:=Tryz.isAgg274,z54:=Tryz.sizeOf274,v54:=Tryz.zeroValue274,i54:=(by kernel_rfl),
 t58:=Tryz.underlying278,a58:=Tryz.isAgg278,z58:=Tryz.sizeOf278,v58:=Tryz.zeroValue278,i58:=(by kernel_rfl),
 t60:=Tryz.underlying292,a60:=Tryz.isAgg292,z60:=Tryz.sizeOf292,v60:=Tryz.zeroValue292,i60:=(by kernel_rfl),
 t64:=Tryz.underlying296,a64:=Tryz.isAgg296,z64:=Tryz.sizeOf296,v64:=Tryz.zeroValue296,i64:=(by kernel_rfl),
 t66:=Tryz.underlying302,a66:=Tryz.isAgg302,z66:=Tryz.sizeOf302,v66:=Tryz.zeroValue302,i66:=(by kernel_rfl),
 t67:=Tryz.underlying127,a67:=Tryz.isAgg127,z67:=Tryz.sizeOf127,v67:=Tryz.zeroValue127,i67:=(by kernel_rfl),
 t75:=Tryz.underlying320,a75:=Tryz.isAgg320,z75:=Tryz.sizeOf320,v75:=Tryz.zeroValue320,i75:=(by kernel_rfl),
 t76:=Tryz.underlying321,a76:=Tryz.isAgg321,z76:=Tryz.sizeOf321,v76:=Tryz.zeroValue321,i76:=(by kernel_rfl),
 t77:=Tryz.underlying322,a77:=Tryz.isAgg322,z77:=Tryz.sizeOf322,v77:=Tryz.zeroValue322,i77:=(by kernel_rfl),
 t78:=Tryz.underlying323,a78:=Tryz.isAgg323,z78:=Tryz.sizeOf323,v78:=Tryz.zeroValue323,i78:=(by kernel_rfl),
 t79:=Tryz.underlying324,a79:=Tryz.isAgg324,z79:=Tryz.sizeOf324,v79:=Tryz.zeroValue324,i79:=(by kernel_rfl),
 t80:=Tryz.underlying325,a80:=Tryz.isAgg325,z80:=Tryz.sizeOf325,v80:=Tryz.zeroValue325,i80:=(by kernel_rfl),
 t82:=Tryz.underlying327,a82:=Tryz.isAgg327,z82:=Tryz.sizeOf327,v82:=Tryz.zeroValue327,i82:=(by kernel_rfl) }
noncomputable def Au6:TypeInfo:=(Tryz.prog.info? 167).get!
noncomputable def tiL:TypeInfo:=(Tryz.prog.info? 61).get!
def swL(n:Nat):Nat:=if n=0 then 244 else if n=1 then 245 else 252
theorem swKL(n:Nat)(h2:2≤n):swapperK n tiL 25=9:=by
 have b:tiL.bytes=32:=by kernel_rfl
 have c:(n == 0)=false:=by simp;omega
 have d:(n == 1)=false:=by simp;omega
 simp [swapperK,b,c,d]
theorem A65(n:Nat):Tryz.prog.funcs.findIdx? (fun g=>g.name == "internal/reflectlite"++".Swapper$"++toString (swapperK n tiL 25))=some (swL n):=by
 match n with
 | 0=>show _=some 244;kernel_rfl
 | 1=>show _=some 245;kernel_rfl
 | n+2 =>
  rw[swKL _ (by omega)]
  simp only [swL]
  rw[if_neg (by omega),if_neg (by omega)]
  show _=some 252
  kernel_rfl
def ltL(a b:Line):Bool:=sLt a.sku b.sku
theorem A9n:SWO ltL:=by
 refine⟨fun x=>?_,fun x y z h1 h2=>?_,fun x y z h1 h2=>?_⟩
 ·exact Bool.eq_false_iff.2 (L3 _)
 ·exact Q2 h1 h2
 ·unfold ltL at *
  rw[Bool.eq_false_iff]at *
  intro h
  by_cases k:sLt z.sku y.sku=true
  ·exact h1 (Q2 h k)
  ·exact h1 (by rw[V0 h2 k];exact h)
def A30(x:Line):List Value:=(c61 x).map valA
theorem A4l(d:List Line):(d.map A30).flatten=((d.map c61).flatten).map valA:=by
 induction d with
 | nil=>rfl
 | cons x d ih=>simp only [List.map_cons,List.flatten_cons,List.map_append,ih,A30]
theorem lessL(W:World)(gv blk n cap:Nat)(i j:Nat)(x y:ByteArray)(hi:i < n)(hj:j < n)
  (hc:W.cell? ⟨gv,0,none⟩=some (.slice (some ⟨blk,0,none⟩) n cap)) (hx:W.cell? ⟨blk,i*3,none⟩=some (.string x)) (hy:W.cell? ⟨blk,j*3,none⟩=some (.string y)) :
  Calls Tryz.prog 177 #[.int .i64 i,.int .i64 j,.pointer (some ⟨gv,0,none⟩)] W fun e w'=>e=.returned (.bool (Go.Op.bytesLess x.toList y.toList))∧∃ q,w'=W.drewN q:=by
 go_enter Tryz.func177,Tryz.ntmps177
 go_wp2
 go_region
 go_wp2
 go_ret
 exact⟨rfl,1,rfl⟩
def A0y(l:List Line):List Line:=(pdq ltL l.toArray 0 l.toArray.size (Lib.bitLen l.toArray.size) true true).toList
theorem A0g(l:List Line):(A0y l).Perm l:=by
 have h:=(pdq_sorts ltL A9n l.toArray 0 l.toArray.size (Lib.bitLen l.toArray.size) true true (Nat.zero_le _) (Nat.le_refl _) (Or.inl rfl)).1
 obtain⟨hsz,_,hp⟩:=h
 unfold A0y
 generalize pdq ltL l.toArray 0 l.toArray.size (Lib.bitLen l.toArray.size) true true=d at hsz hp ⊢
 have e1:d.extract 0 l.toArray.size=d:=by rw[← hsz];exact Array.extract_size
 rw[e1,Array.extract_size]at hp
 exact hp
theorem Ak4(l:List Line):(A0y l).Pairwise fun x y=>ltL y x=false:=by
 have h:=pdq_sorts ltL A9n l.toArray 0 l.toArray.size (Lib.bitLen l.toArray.size) true true (Nat.zero_le _) (Nat.le_refl _) (Or.inl rfl)
 have hs:=h.1.1
 have h2:=h.2
 unfold A0y
 rw[List.pairwise_iff_getElem]
 intro i j hi hj hij
 rw[Array.length_toList]at hi hj
 have:=h2 i j (Nat.zero_le _) hij (by omega)
 rw[getElem!_pos _ j hj,getElem!_pos _ i hi]at this
 rw[Array.getElem_toList,Array.getElem_toList]
 exact this
theorem B1v(l:List Line):(A0y l).length=l.length:=(A0g l).length_eq
theorem A31(x:Line):(A30 x).length=3:=rfl
theorem A4m(x:Line):∀ a∈c61 x,X5 a=true:=by
 intro a ha
 simp only [c61,List.mem_cons,List.not_mem_nil,or_false]at ha
 rcases ha with rfl | rfl | rfl <;> rfl
theorem io176(l:List Line)(hlen:l.length < 4611686018427387904) :
  A14 Tryz.prog 176 177 (some 167) true 61 3 (l.map c61) ((A0y l).map c61):=by
 have hpm:=A0g l
 have hone:∀ x,∀ v∈A30 x,v.oneCell'=true:=by
  intro x v hv
  obtain⟨a,ha,rfl⟩:=List.mem_map.1 hv
  exact Z9 (A4m x a ha)
 have hpl:∀ m:List Line,∀ a∈(m.map c61).flatten,X5 a=true:=by
  intro m a ha
  obtain⟨r,hr,har⟩:=List.mem_flatten.1 ha
  obtain⟨x,_,rfl⟩:=List.mem_map.1 hr
  exact A4m x a har
 have hsz:∀ r∈l.map c61,r.length=3:=fun r hr=>by obtain⟨x,_,rfl⟩:=List.mem_map.1 hr;rfl
 refine⟨⟨_,Tryz.func176,by kernel_rfl,by kernel_rfl⟩,by rw[List.length_map,List.length_map,hpm.length_eq],fun r hr=>by obtain⟨x,_,rfl⟩:=List.mem_map.1 hr;rfl,fun w base v cv S xs hS hb ho hx1 hxr hcap=>?_⟩
 obtain⟨gv,rfl,q1,q2,q3⟩:=hcap rfl
 have hxs:xs=(l.map c61).flatten.map valA:=by
  apply List.ext_getElem?
  intro j
  by_cases hj:j < xs.length
  ·have hj':j <(l.map c61).flatten.length:=by rw[C7 hsz,← ho.1];exact hj
   rw[List.getElem?_eq_getElem hj,List.getElem?_map,List.getElem?_eq_getElem hj',Option.map_some]
   have:=hxr j _ _ (List.getElem?_eq_getElem hj') (List.getElem?_eq_getElem hj)
   rw[A72 (hpl _ _ (List.getElem_mem hj')) this]
  ·rw[List.getElem?_eq_none (by omega),List.getElem?_eq_none (by rw[List.length_map,C7 hsz,← ho.1];omega)]
 rw[hxs,List.length_map]at ho
 rw[List.length_map]
 simp only [if_true,Am3]
 have hout:∀(w':World),∀(j:Nat) (a:AV) (u:Value),((A0y l).map c61).flatten[j]?=some a→(((A0y l).map c61).flatten.map valA)[j]?=some u→RelV0 S w' a u:=by
  intro w' j a u ha hu
  rw[List.getElem?_map,ha,Option.map_some,Option.some.injEq]at hu
  rw[← hu]
  exact A73 (hpl _ a (List.mem_of_getElem? ha))
 have hout1:∀ u∈((A0y l).map c61).flatten.map valA,u.oneCell'=true:=by
  intro u hu
  obtain⟨x,hx,rfl⟩:=List.mem_map.1 hu
  exact Z9 (hpl _ x hx)
 have hfam:∀(b cap:Nat) (w':World) (hbl:b < w.heap.size) (ho':w.ownsRow base 61 3 (.slice (some ⟨b,0,none⟩) l.length cap) l.length ((l.map A30).flatten)),Fam A30 3 b 0 w (A0y l).toArray w' →
   Ending.returned (.tuple #[])=.returned (.tuple #[])∧∃ xs',w'.ownsRow base 61 3 (.slice (some ⟨b,0,none⟩) l.length cap) l.length xs'∧(∀ u∈xs',u.oneCell'=true)∧(∀(j:Nat) (a:AV) (u:Value),((A0y l).map c61).flatten[j]?=some a→xs'[j]?=some u→RelV0 S w' a u) ∧
   (∀ k,k < w.heap.size→blkOf (.slice (some ⟨b,0,none⟩) l.length cap)≠some k→w'.heap[k]?=w.heap[k]?)∧w'.os=w.os∧w'.tape=w.tape∧w'.output=w.output∧w.heap.size≤w'.heap.size:=by
  intro b cap w' hbl ho' hF
  have f:=hF.facts
  have ow:=hF.owns (d:=l.toArray) A31 (by simpa using hpm.length_eq) (by simp) (by simp) ho'
  refine⟨rfl,((A0y l).map c61).flatten.map valA,?_,hout1,hout w',fun j hj hjb=>f.2.2.2 j hj (fun e=>hjb (by rw[e];rfl)),f.1,f.2.1,f.2.2.1,hF.size⟩
  rw[← A4l]
  simpa using ow
 rcases ho.2 with⟨rfl,h0⟩ | ⟨b,cap,cur,rfl,hb',hh,h1,h2,h3,h4⟩
 ·have:l=[]:=List.eq_nil_of_length_eq_zero h0
  subst this
  refine(Any.sort_Slice_tiny (P:=Tryz.prog) (ρ:=B1u) Au5 167 61 Au6 tiL (by kernel_rfl) (by kernel_rfl) (by kernel_rfl) (by kernel_rfl) 25 (fun _=>by kernel_rfl) none 0 0 (by omega) (swL 0) (A65 0) _ _ _ w).mono ?_
  rintro e' w' ⟨rfl,os,rfl⟩
  have e0:A0y []=[]:=List.eq_nil_of_length_eq_zero (by rw[hpm.length_eq];rfl)
  refine⟨rfl,[],⟨by simp,.inl ⟨rfl,rfl⟩⟩,fun u hu=>by simp at hu,fun j a u ha hu=>by simp at hu,fun j hj _=>?_,rfl,rfl,rfl,?_⟩
  ·exact Go.Sort.heap_grow_old w os hj
  ·rw[Go.Sort.size_grow];omega
 ·have hbl:b < w.heap.size:=(Array.getElem?_eq_some_iff.1 hh).1
  have hne:gv≠b:=fun e=>q3 (by rw[e];rfl)
  have hflat:(l.map c61).flatten.map valA=(l.map A30).flatten:=by rw[← A4l]
  rw[hflat]at ho
  have hHd:HoldsK A30 3 w b 0 l.toArray:=R7 A31 ho (by simp) (by simp)
  by_cases hl2:l.length≤1
  ·refine(Any.sort_Slice_tiny (P:=Tryz.prog) (ρ:=B1u) Au5 167 61 Au6 tiL (by kernel_rfl) (by kernel_rfl) (by kernel_rfl) (by kernel_rfl) 25 (fun _=>by kernel_rfl) (some ⟨b,0,none⟩) l.length cap hl2 (swL l.length) (A65 l.length) _ _ _ w).mono ?_
   rintro e' w' ⟨rfl,os,rfl⟩
   refine hfam b cap _ hbl ho ?_
   have e1:A0y l=l:=by
    match l,hl2 with
    | [],_=>exact List.eq_nil_of_length_eq_zero (by rw[hpm.length_eq];rfl)
    | [x],_=>exact List.perm_singleton.1 hpm
   rw[e1]
   exact(Fam.start hHd).grown w.drawn os
  ·have hw:=Any.sort_Slice_cells_eq (P:=Tryz.prog) (ρ:=B1u) Au5 167 61 Au6 tiL (by kernel_rfl) (by kernel_rfl) (by kernel_rfl) (by kernel_rfl) 25 (fun _=>by kernel_rfl)
    A30 3 A31 (by kernel_rfl) (fun _=>by kernel_rfl) hone ltL A9n 177 #[.pointer (some ⟨gv,0,none⟩)] (enters_of Tryz.func177 (by kernel_rfl) rfl) b 0 cap l.toArray (by simp;omega) (by simpa using hlen)
    252 (by have:=A65 l.toArray.size;rw[this];congr 1;unfold swL;rw[if_neg (by rw[List.size_toArray];omega),if_neg (by rw[List.size_toArray];omega)]) false
    (fun args W=>run_callFunc_extern Tryz.func252 (by kernel_rfl) (by kernel_rfl) (by kernel_rfl) (e:=Extern.ReflectliteSwapper.swap false) (by kernel_rfl) args W) w
    (fun m os dk hs i j hi hj=>by
     have hF:Fam A30 3 b 0 w dk (sortWorldK A30 3 w b 0 m dk os):=⟨w.drawn+m,os,rfl⟩
     have hc:=(hF.cell (a:=⟨gv,0,none⟩) q1 hne).trans q2
     have hK:=hF.holds hbl hHd hs
     have hx:=(hK.cell (i:=i) (c:=0) (by omega) (by omega)).1
     have hy:=(hK.cell (i:=j) (c:=0) (by omega) (by omega)).1
     rw[Nat.zero_add,Nat.add_zero]at hx hy
     have hsz':l.toArray.size=l.length:=by simp
     exact lessL _ gv b l.length cap i j dk[i]!.sku dk[j]!.sku (hsz' ▸ hi) (hsz' ▸ hj) hc hx hy) hHd hbl
   have hsize:l.toArray.size=l.length:=by simp
   rw[hsize]at hw
   refine hw.mono ?_
   rintro e' w' ⟨rfl,n,os,hw'⟩
   exact hfam b cap w' hbl ho ⟨w.drawn+n,os,by rw[hw'];unfold A0y;rw[hsize];rfl⟩
end Go.Proofs.YtphcaholhacnpaaGreat
namespace Go.Proofs.YtphcaholhacnpaaGreat
open Go.E
set_option maxRecDepth 100000
set_option maxHeartbeats 4000000
def A32(es:List Entry)(s:ByteArray):List Entry:=es.filter (fun e=>decide (e.sku=s))
def A0o:List Entry→Int
 | []=>0
 | e :: l=>e.qty+A0o l
def lineOf(es:List Entry)(s:ByteArray):Line:=⟨s,A0o (A32 es s),(A32 es s).length⟩
theorem Ae9(a b:List Entry):A0o (a++b)=A0o a+A0o b:=by
 induction a with
 | nil=>simp [A0o]
 | cons e a ih=>simp only [List.cons_append,A0o,ih];omega
theorem A8a(a:List Entry)(e:Entry)(s:ByteArray):A32 (a++[e]) s=if e.sku=s then A32 a s++[e]else A32 a s:=by
 unfold A32
 rw[List.filter_append]
 by_cases h:e.sku=s
 ·rw[if_pos h,List.filter_cons_of_pos (by simpa using h),List.filter_nil]
 ·rw[if_neg h,List.filter_cons_of_neg (by simpa using h),List.filter_nil,List.append_nil]
theorem A9o(a:List Entry)(e:Entry):lineOf (a++[e]) e.sku=⟨e.sku,(lineOf a e.sku).qty+e.qty,(lineOf a e.sku).parts+1⟩:=by
 unfold lineOf
 rw[A8a,if_pos rfl,Ae9,List.length_append]
 simp only [A0o,List.length_cons,List.length_nil]
 congr 1
 omega
theorem A8b{a:List Entry}{e:Entry}{s:ByteArray}(h:¬ e.sku=s):lineOf (a++[e]) s=lineOf a s:=by
 unfold lineOf
 rw[A8a,if_neg h]
theorem Au7{es:List Entry}{s:ByteArray}(h:∀ e∈es,¬ e.sku=s):A32 es s=[]:=by
 unfold A32
 rw[List.filter_eq_nil_iff]
 intro e he
 simpa using h e he
def B1w(e:Entry)(l:Line):Line:=⟨e.sku,l.qty+e.qty,l.parts+1⟩
def J8(es:List Entry):List (ByteArray×Line):=es.foldl (fun m e=>A3q e.sku (B1w e (lkp e.sku m)) m) []
theorem A33(a:List Entry)(e:Entry):J8 (a++[e])=A3q e.sku (B1w e (lkp e.sku (J8 a))) (J8 a):=by
 unfold J8
 rw[List.foldl_append]
 rfl
theorem A35{β:Type}(k:ByteArray)(v:β):∀ m:List (ByteArray×β),(k∈m.map (·.1)∧(A3q k v m).map (·.1)=m.map (·.1))∨(¬ k∈m.map (·.1)∧(A3q k v m).map (·.1)=m.map (·.1)++[k])
 | []=>.inr ⟨by simp,by simp [A3q]⟩
 | p :: m=>by
  have ih:=A35 k v m
  rw[A3q]
  by_cases h:p.1=k
  ·rw[if_pos h]
   exact .inl ⟨by simp [h],by simp⟩
  ·rw[if_neg h,List.map_cons,List.map_cons]
   rcases ih with⟨h1,h2⟩ | ⟨h1,h2⟩
   ·exact .inl ⟨List.mem_cons_of_mem _ h1,by rw[h2]⟩
   ·refine .inr ⟨fun hk=>?_,by rw[h2];rfl⟩
    rcases List.mem_cons.1 hk with a | a
    ·exact h a.symm
    ·exact h1 a
theorem Ak5{β:Type}{k:ByteArray}{v:β}{m:List (ByteArray×β)}(h:(m.map (·.1)).Nodup):((A3q k v m).map (·.1)).Nodup:=by
 rcases A35 k v m with⟨_,h2⟩ | ⟨hk,h2⟩
 ·rw[h2];exact h
 ·rw[h2,List.nodup_append]
  refine⟨h,by simp,fun a ha b hb e=>?_⟩
  have:b=k:=by simpa using hb
  rw[← this,← e]at hk
  exact hk ha
theorem A0h{β:Type}{k:ByteArray}{v:β}:∀ {m:List (ByteArray×β)},(m.map (·.1)).Nodup→∀ p,p∈A3q k v m↔p=(k,v)∨(p∈m∧¬ p.1=k)
 | [],_,p=>by simp [A3q]
 | q :: m,h,p=>by
  rw[List.map_cons,List.nodup_cons]at h
  rw[A3q]
  by_cases hq:q.1=k
  ·rw[if_pos hq,List.mem_cons,hq]
   constructor
   ·rintro(a | a)
    ·exact .inl a
    ·refine .inr ⟨List.mem_cons_of_mem _ a,fun e=>h.1 ?_⟩
     rw[hq,← e]
     exact List.mem_map.2 ⟨p,a,rfl⟩
   ·rintro(a | ⟨a,b⟩)
    ·exact .inl a
    ·rcases List.mem_cons.1 a with c | c
     ·rw[c]at b;exact absurd hq b
     ·exact .inr c
  ·rw[if_neg hq,List.mem_cons,A0h h.2]
   constructor
   ·rintro(a | a | ⟨a,b⟩)
    ·rw[a];exact .inr ⟨List.mem_cons_self,hq⟩
    ·exact .inl a
    ·exact .inr ⟨List.mem_cons_of_mem _ a,b⟩
   ·rintro(a | ⟨a,b⟩)
    ·exact .inr (.inl a)
    ·rcases List.mem_cons.1 a with c | c
     ·exact .inl c
     ·exact .inr (.inr ⟨c,b⟩)
theorem Af0{β:Type}(k:ByteArray)(v:β)(m:List (ByteArray×β)):(A3q k v m).length≤m.length+1:=by
 rcases A35 k v m with⟨_,h2⟩ | ⟨_,h2⟩
 ·have:=congrArg List.length h2
  rw[List.length_map,List.length_map]at this
  omega
 ·have:=congrArg List.length h2
  rw[List.length_append,List.length_map,List.length_map]at this
  simp at this
  omega
theorem A0i(es:List Entry):(J8 es).length≤es.length:=by
 have h:∀ n,n≤es.length→(J8 (es.take n)).length≤n:=by
  intro n
  induction n with
  | zero=>intro _;simp [J8]
  | succ n ih =>
   intro hn
   rw[List.take_succ_eq_append_getElem (by omega),A33]
   have:=ih (by omega)
   have:=Af0 es[n].sku (B1w es[n] (lkp es[n].sku (J8 (es.take n)))) (J8 (es.take n))
   omega
 have:=h es.length (Nat.le_refl _)
 rwa [List.take_length]at this
structure IsFill (l:List Entry) (m:List (ByteArray×Line)):Prop where
 keys:(m.map (·.1)).Nodup
 val:∀ p∈m,p.2=lineOf l p.1∧∃ e∈l,e.sku=p.1
 all:∀ e∈l,∃ p∈m,p.1=e.sku
theorem IsFill.lkp{l:List Entry}{m:List (ByteArray×Line)}(h:IsFill l m)(s:ByteArray):(lkp s m).qty=(lineOf l s).qty∧(lkp s m).parts=(lineOf l s).parts:=by
 unfold E.lkp
 cases hf:m.find? (fun p=>decide (p.1=s))with
 | some p =>
  have h1:=List.find?_some hf
  have h2:=List.mem_of_find?_eq_some hf
  have h3:=(h.val p h2).1
  have h4:p.1=s:=by simpa using h1
  simp only
  rw[h3,h4]
  exact⟨rfl,rfl⟩
 | none =>
  rw[List.find?_eq_none]at hf
  have:A32 l s=[]:=Au7 fun e he hs=>by
   obtain⟨p,hp,hpe⟩:=h.all e he
   have:=hf p hp
   rw[hpe,hs]at this
   simp at this
  unfold lineOf
  rw[this]
  exact⟨rfl,rfl⟩
theorem IsFill.step{l:List Entry}{m:List (ByteArray×Line)}(h:IsFill l m)(e:Entry):IsFill (l++[e]) (A3q e.sku (B1w e (E.lkp e.sku m)) m):=by
 have hv:B1w e (E.lkp e.sku m)=lineOf (l++[e]) e.sku:=by
  rw[A9o]
  unfold B1w
  rw[(h.lkp e.sku).1,(h.lkp e.sku).2]
 refine⟨Ak5 h.keys,fun p hp=>?_,fun x hx=>?_⟩
 ·rw[A0h h.keys]at hp
  rcases hp with rfl | ⟨hp,hne⟩
  ·exact⟨hv,e,by simp,rfl⟩
  ·obtain⟨h1,x,hx,hxe⟩:=h.val p hp
   exact⟨by rw[A8b (fun k=>hne k.symm),h1],x,by simp [hx],hxe⟩
 ·rcases List.mem_append.1 hx with hx | hx
  ·obtain⟨p,hp,hpe⟩:=h.all x hx
   by_cases hk:p.1=e.sku
   ·exact⟨(e.sku,B1w e (E.lkp e.sku m)),(A0h h.keys _).2 (.inl rfl),by rw[← hk,hpe]⟩
   ·exact⟨p,(A0h h.keys _).2 (.inr ⟨hp,hk⟩),hpe⟩
  ·have:x=e:=by simpa using hx
   subst this
   exact⟨_,(A0h h.keys _).2 (.inl rfl),rfl⟩
theorem Au8(es:List Entry):IsFill es (J8 es):=by
 have h:∀ n,n≤es.length→IsFill (es.take n) (J8 (es.take n)):=by
  intro n
  induction n with
  | zero=>intro _;exact⟨by simp [J8],fun p hp=>by simp [J8]at hp,fun e he=>by simp at he⟩
  | succ n ih =>
   intro hn
   rw[List.take_succ_eq_append_getElem (by omega),A33]
   exact(ih (by omega)).step _
 have:=h es.length (Nat.le_refl _)
 rwa [List.take_length]at this
def upL(l:List Line):Prop:=l.Pairwise (fun a b=>sLt a.sku b.sku=true)
structure IsLines (es:List Entry) (l:List Line):Prop where
 up:upL l
 mem:∀ x,x∈l↔(∃ e∈es,e.sku=x.sku)∧x=lineOf es x.sku
theorem A4n:∀ {a b:List Line},upL a→upL b→(∀ e,e∈a↔e∈b)→a=b
 | [],[],_,_,_=>rfl
 | [],y :: b,_,_,h=>by have:=(h y).2 (by simp);cases this
 | x :: a,[],_,_,h=>by have:=(h x).1 (by simp);cases this
 | x :: a,y :: b,ha,hb,h=>by
  have pa:=List.pairwise_cons.1 ha
  have pb:=List.pairwise_cons.1 hb
  have e:x=y:=by
   apply Classical.byContradiction
   intro hne
   have h1:x∈b:=by
    rcases List.mem_cons.1 ((h x).1 (by simp))with k | k
    ·exact absurd k hne
    ·exact k
   have h2:y∈a:=by
    rcases List.mem_cons.1 ((h y).2 (by simp))with k | k
    ·exact absurd k.symm hne
    ·exact k
   exact L3 _ (Q2 (pa.1 y h2) (pb.1 x h1))
  subst e
  rw[A4n pa.2 pb.2 fun e=>?_]
  constructor
  ·intro he
   rcases List.mem_cons.1 ((h e).1 (by simp [he]))with k | k
   ·subst k;exact absurd (pa.1 e he) (L3 _)
   ·exact k
  ·intro he
   rcases List.mem_cons.1 ((h e).2 (by simp [he]))with k | k
   ·subst k;exact absurd (pb.1 e he) (L3 _)
   ·exact k
theorem IsLines.unique{es:List Entry}{a b:List Line}(ha:IsLines es a)(hb:IsLines es b):a=b:=A4n ha.up hb.up fun x=>(ha.mem x).trans (hb.mem x).symm
theorem A8c{es:List Entry}{l:List Line}(h:l.Perm ((J8 es).map (·.2))):IsLines es (A0y l):=by
 have hf:=Au8 es
 have hp:(A0y l).Perm ((J8 es).map (·.2)):=(A0g l).trans h
 have hm:∀ x,x∈A0y l↔(∃ e∈es,e.sku=x.sku)∧x=lineOf es x.sku:=fun x=>by
  rw[hp.mem_iff,List.mem_map]
  constructor
  ·rintro⟨p,hp,rfl⟩
   obtain⟨h1,e,he,h2⟩:=hf.val p hp
   have h3:p.2.sku=p.1:=by rw[h1];rfl
   rw[h3]
   exact⟨⟨e,he,h2⟩,h1⟩
  ·rintro⟨⟨e,he,h1⟩,h2⟩
   obtain⟨p,hp,hpe⟩:=hf.all e he
   refine⟨p,hp,?_⟩
   rw[(hf.val p hp).1,hpe,h1,← h2]
 refine⟨?_,hm⟩
 have hs:((A0y l).map (·.sku)).Nodup:=by
  have e1:((J8 es).map (·.2)).map (·.sku)=(J8 es).map (·.1):=by
   rw[List.map_map]
   refine List.map_congr_left fun p hp=>?_
   show p.2.sku=p.1
   rw[(hf.val p hp).1]
   rfl
  have:=(hp.map (·.sku)).nodup_iff.2
  rw[e1]at this
  exact this hf.keys
 have hr:=Ak4 l
 unfold upL
 rw[List.pairwise_iff_getElem]at hr ⊢
 intro i j hi hj hij
 have h1:=hr i j hi hj hij
 apply Classical.byContradiction
 intro h2
 have h3:¬ sLt (A0y l)[j].sku (A0y l)[i].sku=true:=by
  unfold ltL at h1
  rw[h1]
  simp
 have h4:=V0 h2 h3
 have:=(List.pairwise_iff_getElem.1 hs) i j (by simpa using hi) (by simpa using hj) hij
 simp only [List.getElem_map]at this
 exact this h4
def A4o(es:List Entry):List Line:=A0y ((J8 es).map (·.2))
theorem Au9(es:List Entry):IsLines es (A4o es):=A8c (List.Perm.refl _)
theorem A9p{es:List Entry}{l:List Line}(h:l.Perm ((J8 es).map (·.2))):A0y l=A4o es:=(A8c h).unique (Au9 es)
theorem Ak6(es:List Entry):(A4o es).length≤es.length:=by
 unfold A4o
 rw[(A0g _).length_eq,List.length_map]
 exact A0i es
def K9(es:List Entry):List Line×Int:=if C3 es=0 then(A4o es,0)else([],1)
theorem A36{es:List Entry}(h:C3 es=0):K9 es=(A4o es,0):=by unfold K9;rw[if_pos h]
theorem A8d{es:List Entry}(h:¬ C3 es=0):K9 es=([],1):=by unfold K9;rw[if_neg h]
theorem A66:∀(n:Nat) (seen:List Nat),seen.Nodup→(∀ j∈seen,j < n)→seen.length≤n
 | 0,seen,_,hb=>by
  cases seen with
  | nil=>simp
  | cons j l=>exact absurd (hb j (by simp)) (by omega)
 | n+1,seen,hn,hb=>by
  by_cases h:n∈seen
  ·have h1:=A66 n (seen.erase n) (hn.erase n) fun j hj=>by
    have:=(hn.mem_erase_iff).1 hj
    have:=hb j this.2
    omega
   rw[List.length_erase_of_mem h]at h1
   omega
  ·have:=A66 n seen hn fun j hj=>by
    have:=hb j hj
    have:j≠n:=fun e=>h (e ▸ hj)
    omega
   omega
theorem Av0{n:Nat}{seen:List Nat}(hn:seen.Nodup)(hb:∀ j∈seen,j < n)(ha:∀ j,j < n→j∈seen):seen.Perm (List.range n) :=
 (List.perm_ext_iff_of_nodup hn List.nodup_range).2 fun j=>⟨fun h=>List.mem_range.2 (hb j h),fun h=>ha j (List.mem_range.1 h)⟩
theorem Av1{β:Type}[Inhabited β](m:List β):(List.range m.length).map (fun j=>m[j]!)=m:=by
 apply List.ext_getElem
 ·simp
 ·intro i h1 h2
  rw[List.getElem_map,List.getElem_range,getElem!_pos m i h2]
end Go.Proofs.YtphcaholhacnpaaGreat
namespace Go.Proofs.YtphcaholhacnpaaGreat
open Go.E
set_option maxRecDepth 100000
set_option maxHeartbeats 4000000
def ofV(es:List Entry)(sku:ByteArray):List Entry×Int :=
 if okL es=true then(if F5 sku=true then(es.filter (fun e=>decide (e.sku=sku)),0)else([],5))else([],1)
def I1(es:List Entry)(rep:Int)(sku:ByteArray):List Entry×Int :=
 if okL es=true then(if 0≤rep∧rep < 16 then(if F5 sku=true then(es.filter (fun e=>decide (e.sku=sku∧e.dot.rep=rep)),0)else([],5))else([],3))else([],1)
def A9q(p:Entry→Bool)(es:List Entry)(i:Int)(l:List Entry):Prop:=0≤i∧i≤es.length∧l=(es.take i.toNat).filter p∧(l.length:Int)≤i
def decP(es:List Entry)(i:Int)(l:List Entry):Nat:=(es.length-i).toNat
theorem A37{p:Entry→Bool}{es:List Entry}{i:Int}(h0:0≤i)(h:i < es.length):(es.take (i+1).toNat).filter p=if p es[i.toNat]! = true then(es.take i.toNat).filter p++[es[i.toNat]!]else(es.take i.toNat).filter p:=by
 rw[← D9 h0 h,List.filter_append]
 by_cases hp:p es[i.toNat]! = true
 ·rw[if_pos hp,List.filter_cons_of_pos hp,List.filter_nil]
 ·rw[if_neg hp,List.filter_cons_of_neg hp,List.filter_nil,List.append_nil]
theorem N5(es:List Entry)(sku:ByteArray):(ofV es sku).1.length≤es.length:=by
 unfold ofV
 split
 ·split
  ·exact List.length_filter_le _ _
  ·simp
 ·simp
theorem Ak7(es:List Entry):(okL es=true∧C3 es=0)∨(¬ okL es=true∧C3 es=1):=by
 unfold C3
 by_cases h:okL es=true
 ·rw[if_pos h];exact .inl ⟨h,rfl⟩
 ·rw[if_neg h];exact .inr ⟨h,rfl⟩
theorem Af1{es:List Entry}{sku:ByteArray}(h:¬ C3 es=0):ofV es sku=([],1):=by
 unfold ofV;rw[if_neg];intro k;exact h (by unfold C3;rw[if_pos k])
theorem A8e{es:List Entry}(h:C3 es=0):okL es=true:=by
 rcases Ak7 es with⟨a,b⟩ | ⟨a,b⟩
 ·exact a
 ·omega
theorem Av2{es:List Entry}{sku:ByteArray}(h:C3 es=0)(g:¬ F5 sku=true):ofV es sku=([],5):=by
 unfold ofV;rw[if_pos (A8e h),if_neg g]
theorem Af2{es:List Entry}{sku:ByteArray}(h:C3 es=0)(g:F5 sku=true):ofV es sku=(es.filter (fun e=>decide (e.sku=sku)),0):=by
 unfold ofV;rw[if_pos (A8e h),if_pos g]
theorem A38{es:List Entry}{rep:Int}{sku:ByteArray}(h:¬ C3 es=0):I1 es rep sku=([],1):=by
 unfold I1;rw[if_neg];intro k;exact h (by unfold C3;rw[if_pos k])
theorem A67{es:List Entry}{rep:Int}{sku:ByteArray}(h:C3 es=0)(r:rep < 0∨16≤rep):I1 es rep sku=([],3):=by
 unfold I1;rw[if_pos (A8e h),if_neg (by omega)]
theorem A68{es:List Entry}{rep:Int}{sku:ByteArray}(h:C3 es=0)(r:¬(rep < 0∨16≤rep))(g:¬ F5 sku=true):I1 es rep sku=([],5):=by
 unfold I1;rw[if_pos (A8e h),if_pos (by omega),if_neg g]
theorem A69{es:List Entry}{rep:Int}{sku:ByteArray}(h:C3 es=0)(r:¬(rep < 0∨16≤rep))(g:F5 sku=true):I1 es rep sku=(es.filter (fun e=>decide (e.sku=sku∧e.dot.rep=rep)),0):=by
 unfold I1;rw[if_pos (A8e h),if_pos (by omega),if_pos g]
theorem A39(p:Entry→Bool)(es:List Entry):A9q p es 0 []:=⟨by omega,by omega,by simp,by simp⟩
theorem A6a{p:Entry→Bool}{es l:List Entry}{i:Int}(h0:0≤i)(h2:l=(es.take i.toNat).filter p)(h3:(l.length:Int)≤i)(h4:i < es.length)(h:p es[i.toNat]! = true):A9q p es (i+1) (l++[es[i.toNat]!]) :=
 ⟨by omega,by omega,by rw[A37 h0 h4,if_pos h,h2],by rw[List.length_append,List.length_cons,List.length_nil];omega⟩
theorem A3a{p:Entry→Bool}{es l:List Entry}{i:Int}(h0:0≤i)(h2:l=(es.take i.toNat).filter p)(h3:(l.length:Int)≤i)(h4:i < es.length)(h:¬ p es[i.toNat]! = true):A9q p es (i+1) l :=
 ⟨by omega,by omega,by rw[A37 h0 h4,if_neg h,h2],by omega⟩
theorem A3b{p:Entry→Bool}{es l:List Entry}{i:Int}(h2:l=(es.take i.toNat).filter p)(h4:¬ i < es.length):l=es.filter p:=by
 rw[h2,List.take_of_length_le (by omega)]
theorem B3n(e:Entry)(sku:ByteArray):Con Tryz.prog 170 [.agg (c46 e),.eptr [.s sku]] (.b (decide (e.sku=sku))) :=
 by
 refine sC B3 [.tmp 3] 8 Tryz.func170 ?_
 intro e0 cx
 refine sq<|rG cx [1,2] [2] z0<|sn<|sq<|rG cx [3] [] (tT 3 (A59:AV.b (e.sku.toList == sku.toList)=AV.b (decide (e.sku=sku))) z0)<|sn<|rT ?_
 exact Y2 (r:=.b (decide (e.sku=sku))) (obl:=[]) (by kernel_rfl) trivial (A7.refl _)
theorem B3o(e:Entry)(sku:ByteArray)(rep:Int):Con Tryz.prog 104 [.agg (c46 e),.eptr [.s sku],.eptr [.i .i64 rep]] (.b (decide (e.sku=sku∧e.dot.rep=rep))) :=
 by
 refine sC B3 [.tmp 4] 16 Tryz.func104 ?_
 intro e0 cx
 refine sq<|rG cx [1,2,3] [3] z0<|sn<|sq<|A9 (σ':=⟨[(4,.b (decide (e.sku=sku∧e.dot.rep=rep)))],[]⟩) ?_ ?_
 refine A6 (e.sku=sku) (fun h_1=>?_) (fun h_1=>?_)
 refine rG cx [4] [] (tT 3 (A02 h_1:AV.b (e.sku.toList == sku.toList)=AV.b true) (tB 9 (e.dot.rep=rep) (tD 11 (decide (e.dot.rep=rep)) (e.sku=sku∧e.dot.rep=rep) (by simp only [eq_true h_1,tsl]) z0))) ?_
 exact⟨rfl,by kernel_rfl⟩
 refine rG cx [4] [] (tT 3 (U3 h_1:AV.b (e.sku.toList == sku.toList)=AV.b false) (tD 11 false (e.sku=sku∧e.dot.rep=rep) (by simp only [eq_false h_1,tsl]) z0)) ?_
 exact⟨rfl,by kernel_rfl⟩
 refine sn<|rT ?_
 exact Y2 (r:=.b (decide (e.sku=sku∧e.dot.rep=rep))) (obl:=[]) (by kernel_rfl) trivial (A7.refl _)
theorem B1x(es:List Entry)(sku:ByteArray)(hs:es.length*40≤140737488351232):Con Tryz.prog 103 [.sl (es.map c46),.fn (.func 170) [] [.eptr [.s sku]]] (.sl ((es.filter (fun e=>decide (e.sku=sku))).map c46)) :=
 by
 refine lN 0 c46 (es) Tryz.func103 fun hl_0=>sC B3 [.tmp 4] 23 Tryz.func103 ?_
 intro e0 cx
 refine sq<|rG cx [0,1] [] z0<|sn<|sq<|rG cx [0,1,5] [] z0<|sn<|sq<|sq<|rG cx [1,5,8,9,10] [] (tL 1 c46 es z0)<|sn<|bL 0<|G1 5 1005 46 4 (σ':=⟨[(1,.fn (Fn.func (170:FuncId)) [] [.eptr [.s (sku)]]),(5,.own 1005 0),(8,.sl (List.map c46 es)),(9,.i .i64 ((↑es.length:Int))),(10,.i .i64 ((0:Int)))],[(1005,⟨0,46,.row 4 (List.map c46 [])⟩)]⟩) (by kernel_rfl)<|sL (X:=Int×List Entry) (fun x=>⟨[(1,.fn (Fn.func (170:FuncId)) [] [.eptr [.s (sku)]]),(5,.own 1005 0),(8,.sl (List.map c46 es)),(9,.i .i64 ((↑es.length:Int))),(10,.i .i64 (x.1))],[(1005,⟨0,46,.row 4 (List.map c46 x.2)⟩)]⟩) (fun x ↦ decP es x.1 x.2) (fun x ↦ A9q (fun e ↦ decide (e.sku=sku)) es x.1 x.2) [1,5,8,9,10] [1005] (((0:Int),[])) (show A9q (fun e ↦ decide (e.sku=sku)) es (0:Int) []from(by exact(A39 _ _))) ?_
 rintro⟨i0,l1⟩ h_2
 obtain⟨hh3,hh4,hh5,h6⟩:0≤i0∧i0≤(↑es.length:Int)∧l1=List.filter (fun e ↦ decide (e.sku=sku)) (List.take i0.toNat es)∧(↑l1.length:Int)≤i0:=h_2
 refine rE cx [1,5,8,9,10,11] [1005] (zB 0 (i0 <(↑es.length:Int))) (fun h7=>?_) fun h7=>?_
 refine sK<|sn<|sq<|bL 1<|sq<|rG cx [1,5,8,9,10,7] [1005,7] (fA (0≤i0) (fG c46 es i0.toNat (fR 4 (fN 4 4 (oR 0 (c46 es[i0.toNat]!) z0)))))<|sn<|sq<|rG cx [1,5,8,9,10,7,16] [1005,7] (fT (B3n (es[i0.toNat]!) (sku)) (oA 2 (Ab3 (B3n (es[i0.toNat]!) (sku))) z0))<|sn<|dC (es[i0.toNat]!.sku=sku) (fun h8=>?_) fun h8=>?_
 refine rG cx [1,5,8,9,10] [1005] (fR 46 (fR 4 (fR 4 (fX c46 [es[i0.toNat]!] 4 (fS c46 l1 c46 [es[i0.toNat]!] (fP (((List.map c46 l1).length+(List.map c46 [es[i0.toNat]!]).length)*(40:Nat)≤(140737488355328:Nat)) (by(simp only [Go.maxLen,List.length_map,List.length_append,List.length_cons,List.length_nil];omega)) (fM c46 l1 [es[i0.toNat]!] (oV 3 { rows:=some (List.map c46 (l1++[es[i0.toNat]!])) } z0))))))))<|bN<|sn<|rG cx [1,5,8,9,10] [1005] (tW 0 (i0+1) z0)<|sn<|nX ((i0+1,l1++[es[i0.toNat]!])) (show((↑es.length:Int)-(i0+1)).toNat <((↑es.length:Int)-i0).toNat from(by omega)) (show A9q (fun e ↦ decide (e.sku=sku)) es (i0+1) (l1++[es[i0.toNat]!])from(by exact(A6a hh3 hh5 h6 h7 (decide_eq_true h8))))
 refine sK<|bN<|sn<|rG cx [1,5,8,9,10] [1005] (tW 0 (i0+1) z0)<|sn<|nX ((i0+1,l1)) (show((↑es.length:Int)-(i0+1)).toNat <((↑es.length:Int)-i0).toNat from(by omega)) (show A9q (fun e ↦ decide (e.sku=sku)) es (i0+1) l1 from(by exact(A3a hh3 hh5 h6 h7 (by simpa using h8))))
 refine eX 0<|nE<|nE<|bH<|sn<|sq<|rG cx [4] [1005] z0<|sn<|rT<|qR (.sl (List.map c46 l1)) (.eq (by exact(by rw[A3b hh5 h7])))
theorem B1y(es:List Entry)(sku:ByteArray)(rep:Int)(hs:es.length*40≤140737488351232):Con Tryz.prog 103 [.sl (es.map c46),.fn (.func 104) [] [.eptr [.s sku],.eptr [.i .i64 rep]]] (.sl ((es.filter (fun e=>decide (e.sku=sku∧e.dot.rep=rep))).map c46)) :=
 by
 refine lN 0 c46 (es) Tryz.func103 fun hl_0=>sC B3 [.tmp 4] 23 Tryz.func103 ?_
 intro e0 cx
 refine sq<|rG cx [0,1] [] z0<|sn<|sq<|rG cx [0,1,5] [] z0<|sn<|sq<|sq<|rG cx [1,5,8,9,10] [] (tL 1 c46 es z0)<|sn<|bL 0<|G1 5 1005 46 4 (σ':=⟨[(1,.fn (Fn.func (104:FuncId)) [] [.eptr [.s (sku)],.eptr [.i .i64 (rep)]]),(5,.own 1005 0),(8,.sl (List.map c46 es)),(9,.i .i64 ((↑es.length:Int))),(10,.i .i64 ((0:Int)))],[(1005,⟨0,46,.row 4 (List.map c46 [])⟩)]⟩) (by kernel_rfl)<|sL (X:=Int×List Entry) (fun x=>⟨[(1,.fn (Fn.func (104:FuncId)) [] [.eptr [.s (sku)],.eptr [.i .i64 (rep)]]),(5,.own 1005 0),(8,.sl (List.map c46 es)),(9,.i .i64 ((↑es.length:Int))),(10,.i .i64 (x.1))],[(1005,⟨0,46,.row 4 (List.map c46 x.2)⟩)]⟩) (fun x ↦ decP es x.1 x.2) (fun x ↦ A9q (fun e ↦ decide (e.sku=sku∧e.dot.rep=rep)) es x.1 x.2) [1,5,8,9,10] [1005] (((0:Int),[])) (show A9q (fun e ↦ decide (e.sku=sku∧e.dot.rep=rep)) es (0:Int) []from(by exact(A39 _ _))) ?_
 rintro⟨i0,l1⟩ h_2
 obtain⟨hh3,hh4,hh5,h6⟩:0≤i0∧i0≤(↑es.length:Int)∧l1=List.filter (fun e ↦ decide (e.sku=sku∧e.dot.rep=rep)) (List.take i0.toNat es)∧(↑l1.length:Int)≤i0:=h_2
 refine rE cx [1,5,8,9,10,11] [1005] (zB 0 (i0 <(↑es.length:Int))) (fun h7=>?_) fun h7=>?_
 refine sK<|sn<|sq<|bL 1<|sq<|rG cx [1,5,8,9,10,7] [1005,7] (fA (0≤i0) (fG c46 es i0.toNat (fR 4 (fN 4 4 (oR 0 (c46 es[i0.toNat]!) z0)))))<|sn<|sq<|rG cx [1,5,8,9,10,7,16] [1005,7] (fT (B3o (es[i0.toNat]!) (sku) (rep)) (oA 2 (Ab3 (B3o (es[i0.toNat]!) (sku) (rep))) z0))<|sn<|dC (es[i0.toNat]!.sku=sku∧es[i0.toNat]!.dot.rep=rep) (fun h8=>?_) fun h8=>?_
 refine rG cx [1,5,8,9,10] [1005] (fR 46 (fR 4 (fR 4 (fX c46 [es[i0.toNat]!] 4 (fS c46 l1 c46 [es[i0.toNat]!] (fP (((List.map c46 l1).length+(List.map c46 [es[i0.toNat]!]).length)*(40:Nat)≤(140737488355328:Nat)) (by(simp only [Go.maxLen,List.length_map,List.length_append,List.length_cons,List.length_nil];omega)) (fM c46 l1 [es[i0.toNat]!] (oV 3 { rows:=some (List.map c46 (l1++[es[i0.toNat]!])) } z0))))))))<|bN<|sn<|rG cx [1,5,8,9,10] [1005] (tW 0 (i0+1) z0)<|sn<|nX ((i0+1,l1++[es[i0.toNat]!])) (show((↑es.length:Int)-(i0+1)).toNat <((↑es.length:Int)-i0).toNat from(by omega)) (show A9q (fun e ↦ decide (e.sku=sku∧e.dot.rep=rep)) es (i0+1) (l1++[es[i0.toNat]!])from(by exact(A6a hh3 hh5 h6 h7 (decide_eq_true h8))))
 refine sK<|bN<|sn<|rG cx [1,5,8,9,10] [1005] (tW 0 (i0+1) z0)<|sn<|nX ((i0+1,l1)) (show((↑es.length:Int)-(i0+1)).toNat <((↑es.length:Int)-i0).toNat from(by omega)) (show A9q (fun e ↦ decide (e.sku=sku∧e.dot.rep=rep)) es (i0+1) l1 from(by exact(A3a hh3 hh5 h6 h7 (by simpa using h8))))
 refine eX 0<|nE<|nE<|bH<|sn<|sq<|rG cx [4] [1005] z0<|sn<|rT<|qR (.sl (List.map c46 l1)) (.eq (by exact(by rw[A3b hh5 h7])))
theorem con100(es:List Entry)(sku:ByteArray)(hs:es.length*40≤140737488351232):Con Tryz.prog 100 [.sl (es.map c46),.s sku] (.tup [.sl ((ofV es sku).1.map c46),.i .i64 (ofV es sku).2]) :=
 by
 refine lN 0 c46 (es) Tryz.func100 fun hl_0=>sC B3 [.tmp 4,.tmp 5] 15 Tryz.func100 ?_
 intro e0 cx
 refine sq<|rG cx [0,3] [3] z0<|sn<|sq<|sq<|rG cx [0,3,8] [3] (fT (M3 (es)) (tN 2 (C3 es) (0:Int) (oA 1 (.i .i64 (C3 es)) z0)))<|sn<|dC (¬C3 es=0) (fun h0=>?_) fun h0=>?_
 refine sq<|rG cx [4,5] [] z0<|sn<|rT<|nR<|qR (.tup [.nl,.i .i64 ((1:Int))]) (A7.tup (ZLe.cons (A7.nl' (show List.map c46 (ofV es sku).1=[]from(by exact(by rw[Af1 h0];rfl)))) (ZLe.cons (A7.eq (show AV.i .i64 1=AV.i .i64 (ofV es sku).2 from(by exact(by rw[Af1 h0])))) ZLe.nil)))
 refine sK<|sn<|sq<|sq<|rG cx [0,3,11] [3] (fT (A86 (sku)) (tT 2 (E8:(AV.b !F5 sku)=AV.b (decide ¬F5 sku=true)) (oA 1 (.b (F5 sku)) z0)))<|sn<|dC (¬F5 sku=true) (fun h1=>?_) fun h1=>?_
 refine sq<|rG cx [4,5] [] z0<|sn<|rT<|nR<|qR (.tup [.nl,.i .i64 ((5:Int))]) (A7.tup (ZLe.cons (A7.nl' (show List.map c46 (ofV es sku).1=[]from(by exact(by rw[Av2 (Classical.not_not.1 h0) h1];rfl)))) (ZLe.cons (A7.eq (show AV.i .i64 5=AV.i .i64 (ofV es sku).2 from(by exact(by rw[Av2 (Classical.not_not.1 h0) h1])))) ZLe.nil)))
 refine sK<|sn<|sq<|rG cx [4,5] [] (fT (B1x (es) (sku) (by(with_reducible assumption))) (oA 2 (.sl (List.map c46 (List.filter (fun e ↦ decide (e.sku=sku)) es))) z0))<|sn<|rT<|qR (.tup [.sl (List.map c46 (List.filter (fun e ↦ decide (e.sku=sku)) es)),.i .i64 ((0:Int))]) (A7.tup (ZLe.cons (A7.eq (show AV.sl (List.map c46 (List.filter (fun e ↦ decide (e.sku=sku)) es))=AV.sl (List.map c46 (ofV es sku).1)from(by exact(by rw[Af2 (Classical.not_not.1 h0) (Classical.not_not.1 h1)])))) (ZLe.cons (A7.eq (show AV.i .i64 0=AV.i .i64 (ofV es sku).2 from(by exact(by rw[Af2 (Classical.not_not.1 h0) (Classical.not_not.1 h1)])))) ZLe.nil)))
theorem con26(es:List Entry)(rep:Int)(sku:ByteArray)(hs:es.length*40≤140737488351232):Con Tryz.prog 26 [.sl (es.map c46),.i .i64 rep,.s sku] (.tup [.sl ((I1 es rep sku).1.map c46),.i .i64 (I1 es rep sku).2]) :=
 by
 refine lN 0 c46 (es) Tryz.func26 fun hl_0=>sC B3 [.tmp 6,.tmp 7] 23 Tryz.func26 ?_
 intro e0 cx
 refine sq<|rG cx [0,4,5] [4,5] z0<|sn<|sq<|sq<|rG cx [0,4,5,10] [4,5] (fT (M3 (es)) (tN 2 (C3 es) (0:Int) (oA 1 (.i .i64 (C3 es)) z0)))<|sn<|dC (¬C3 es=0) (fun h0=>?_) fun h0=>?_
 refine sq<|rG cx [6,7] [] z0<|sn<|rT<|nR<|qR (.tup [.nl,.i .i64 ((1:Int))]) (A7.tup (ZLe.cons (A7.nl' (show List.map c46 (I1 es rep sku).1=[]from(by exact(by rw[A38 h0];rfl)))) (ZLe.cons (A7.eq (show AV.i .i64 1=AV.i .i64 (I1 es rep sku).2 from(by exact(by rw[A38 h0])))) ZLe.nil)))
 refine sK<|sn<|sq<|sq<|A9 (σ':=⟨[(0,.sl (List.map c46 es)),(4,.ptr (4) (0) (0) (0)),(5,.ptr (5) (0) (0) (0)),(16,.b (decide (rep <(0:Int)∨16≤rep)))],[(4,⟨0,3,.var [.i .i64 (rep)]⟩),(5,⟨0,9,.var [.s (sku)]⟩)]⟩) ?_ ?_
 refine A6 (rep <(0:Int)) (fun h_2=>?_) (fun h_2=>?_)
 refine rG cx [0,4,5,16] [4,5] (tT 1 (A4 h_2) (tD 5 true (rep <(0:Int)∨16≤rep) (by simp only [eq_true h_2,tsl]) z0)) ?_
 exact⟨rfl,by kernel_rfl⟩
 refine rG cx [0,4,5,16] [4,5] (tT 1 (A0 h_2) (tB 4 (16≤rep) (tD 5 (decide (16≤rep)) (rep <(0:Int)∨16≤rep) (by simp only [eq_false h_2,tsl]) z0))) ?_
 exact⟨rfl,by kernel_rfl⟩
 refine sn<|dC (rep <(0:Int)∨16≤rep) (fun h3=>?_) fun h3=>?_
 refine sq<|rG cx [6,7] [] z0<|sn<|rT<|nR<|qR (.tup [.nl,.i .i64 ((3:Int))]) (A7.tup (ZLe.cons (A7.nl' (show List.map c46 (I1 es rep sku).1=[]from(by exact(by rw[A67 (Classical.not_not.1 h0) h3];rfl)))) (ZLe.cons (A7.eq (show AV.i .i64 3=AV.i .i64 (I1 es rep sku).2 from(by exact(by rw[A67 (Classical.not_not.1 h0) h3])))) ZLe.nil)))
 refine sK<|sn<|sq<|sq<|rG cx [0,4,5,19] [4,5] (fT (A86 (sku)) (tT 2 (E8:(AV.b !F5 sku)=AV.b (decide ¬F5 sku=true)) (oA 1 (.b (F5 sku)) z0)))<|sn<|dC (¬F5 sku=true) (fun h4=>?_) fun h4=>?_
 refine sq<|rG cx [6,7] [] z0<|sn<|rT<|nR<|qR (.tup [.nl,.i .i64 ((5:Int))]) (A7.tup (ZLe.cons (A7.nl' (show List.map c46 (I1 es rep sku).1=[]from(by exact(by rw[A68 (Classical.not_not.1 h0) h3 h4];rfl)))) (ZLe.cons (A7.eq (show AV.i .i64 5=AV.i .i64 (I1 es rep sku).2 from(by exact(by rw[A68 (Classical.not_not.1 h0) h3 h4])))) ZLe.nil)))
 refine sK<|sn<|sq<|rG cx [6,7] [] (fT (B1y (es) (sku) (rep) (by(with_reducible assumption))) (oA 2 (.sl (List.map c46 (List.filter (fun e ↦ decide (e.sku=sku∧e.dot.rep=rep)) es))) z0))<|sn<|rT<|qR (.tup [.sl (List.map c46 (List.filter (fun e ↦ decide (e.sku=sku∧e.dot.rep=rep)) es)),.i .i64 ((0:Int))]) (A7.tup (ZLe.cons (A7.eq (show AV.sl (List.map c46 (List.filter (fun e ↦ decide (e.sku=sku∧e.dot.rep=rep)) es))=AV.sl (List.map c46 (I1 es rep sku).1)from(by exact(by rw[A69 (Classical.not_not.1 h0) h3 (Classical.not_not.1 h4)])))) (ZLe.cons (A7.eq (show AV.i .i64 0=AV.i .i64 (I1 es rep sku).2 from(by exact(by rw[A69 (Classical.not_not.1 h0) h3 (Classical.not_not.1 h4)])))) ZLe.nil)))
end Go.Proofs.YtphcaholhacnpaaGreat
namespace Go.Proofs.YtphcaholhacnpaaGreat
open Go.E
set_option maxRecDepth 100000
set_option maxHeartbeats 4000000
theorem Af3{e:Entry}(h:S5 e=0):0≤e.dot.rep∧e.dot.rep < 16∧1≤e.dot.num∧e.dot.num≤1000000000:=by
 unfold S5 at h
 split at h
 ·cases h
 ·split at h
  ·cases h
  ·omega
theorem X9{es:List Entry}(h:okL es=true){i:Nat}(hi:i < es.length):S5 es[i]! = 0∧(i=0∨dLt es[i-1]!.dot es[i]!.dot=true):=(W7 _ _).1 ((I0 _ _).1 h i hi)
theorem Av3{es:List Entry}(h:okL es=true):∀ i:Nat,i < es.length→(i:Int)+1≤es[i]!.dot.rep*1000000000+es[i]!.dot.num
 | 0,hi=>by have:=Af3 (X9 h hi).1;omega
 | i+1,hi=>by
  have h1:=Av3 h i (by omega)
  have h2:=Af3 (X9 h hi).1
  have h3:=Af3 (X9 h (show i < es.length by omega)).1
  have h4:=(X9 h hi).2
  rcases h4 with h4 | h4
  ·omega
  ·simp only [Nat.add_sub_cancel,dLt,decide_eq_true_eq]at h4
   omega
theorem Av4{es:List Entry}(h:okL es=true):es.length≤16000000000:=by
 by_cases h0:es.length=0
 ·omega
 ·have h1:=Av3 h (es.length-1) (by omega)
  have h2:=Af3 (X9 h (show es.length-1 < es.length by omega)).1
  omega
theorem A3c{es:List Entry}(h:C3 es=0):okL es=true:=by
 unfold C3 at h
 split at h
 ·assumption
 ·cases h
theorem B3p{es:List Entry}(h:¬ C3 es=0):¬ okL es=true:=fun k=>h (by unfold C3;rw[if_pos k])
end Go.Proofs.YtphcaholhacnpaaGreat
namespace Go.E
open Go.RowKit
def Af4(c:Code):Option (Nat×Nat):=match c with
 | .region _ ops false=>(match ops.toList with
  | o :: _=>(match o.op,o.dst,o.guard with
   | .next (.tmp t) false,some d,none=>some (t,d)
   | _,_,_=>none)
  | []=>none)
 | _=>none
def Af5(σ:St)(d it:Nat)(B:Blk)(m:AV)(n:Nat)(seen:List Nat):Option Nat→St
 | none=>⟨put σ.slots d (.tup [.b false]),σ.hp⟩
 | some j=>⟨put σ.slots d (.tup [.b true,.dead,.dead]),put σ.hp it { B with k:=.iter m n (seen++[j]) }⟩
def B1z(P:Program)(T:Tab)(nt:Nat)(c:Code)(σ:St)(ks kb:List Nat):Option St:=match A55 P T [] nt (cO c) 1 ((cO c).toList.drop 1) σ with
 | some (rs,[])=>some ((σ.recs rs).norm [] ks kb)
 | _=>none
section
variable {P : Program} {E : Env} {T : Tab} {σ : St} {Q : Exit → St → Prop} {c : Code} {nt : Nat}
theorem B5t(cx:Ctx P T E nt)(t0 d it m mv n:Nat)(B M:Blk)(seen:List Nat)(rows:List (List AV))(ks kb:List Nat){σ0:St}{σ1:Nat→St}(hn:n=rows.length)
  (k0:(∀ j,j < rows.length→j∈seen)→Q .normal σ0) (k1:∀ j,j < rows.length→j ∉ seen→Q .normal (σ1 j))
  (h:Af4 c=some (t0,d)) (hdn:Nat.blt d nt=true) (hs:look σ.slots t0=some (.own it B.ver)) (hB:look σ.hp it=some B) (hBk:B.k=.iter (.own m mv) n seen)
  (hM:look σ.hp m=some M) (hMk:M.k=.map rows) (hMv:M.ver=mv)
  (h0:B1z P T nt c (Af5 σ d it B (.own m mv) n seen none) ks kb=some σ0) (h1:∀ j,B1z P T nt c (Af5 σ d it B (.own m mv) n seen (some j)) ks kb=some (σ1 j)):AWP P E c Q σ:=by
 intro a w hr
 cases c with
 | region i ops dr =>
  cases dr with
  | true=>simp [Af4]at h
  | false =>
   simp only [Af4]at h
   cases hl:ops.toList with
   | nil=>rw[hl]at h;cases h
   | cons o l =>
    rw[hl]at h
    simp only at h
    split at h
    ·rename_i t' d' ho hd hg
     simp only [Option.some.injEq,Prod.mk.injEq]at h
     obtain⟨rfl,rfl⟩:=h
     have hops:∀ j,(o :: l)[j]?=ops[j]?:=fun j=>by rw[← hl,Array.getElem?_toList]
     have hlen:ops.size=l.length+1:=by rw[← Array.length_toList,hl];rfl
     refine wp_region ?_
     rw[hlen,List.range_eq_range',List.range'_succ,wpOps_cons]
     have h0':ops[0]?=some o:=by rw[← hops];rfl
     unfold wpOp
     rw[h0']
     simp only
     have hw:Region.wanted o (yielded ops a.tmps)=true:=by unfold Region.wanted;rw[hg]
     rw[hw]
     simp only [if_true]
     -- the rest
     have tail:∀(σ' σ2:St),B1z P T nt (.region i ops false) σ' ks kb=some σ2→Q .normal σ2→∀ a' w',Rel E σ' a' w'→wpOps P ops (fun e a' w'=>∃ σ',Q e σ'∧Rel E σ' a' w') (List.range' 1 l.length) a' w':=by
      intro σ' σ2 hR hQ a' w' hrel
      unfold B1z at hR
      have e1:(cO (.region i ops false))=ops:=rfl
      rw[e1,hl]at hR
      simp only [List.drop_succ_cons,List.drop_zero]at hR
      split at hR
      ·rename_i rs hrun
       simp only [Option.some.injEq]at hR
       subst hR
       refine A29 (P:=P) (E:=E) (ovs:=[]) cx.hT l 1 σ' rs [] (fun j=>by rw[← hops,Nat.add_comm 1 j,List.getElem?_cons_succ]) (by rw[cx.hnt];exact hrun) (fun p hp=>by cases hp) (fun a'' w'' h''=>⟨_,hQ,h''.norm [] ks kb⟩) a' w' hrel
      ·cases hR
     obtain⟨pl,hx⟩:=hr
     have hBl:B.live=true:=by simp [Blk.live,hBk]
     have hMl:M.live=true:=by simp [Blk.live,hMk]
     have he:=D8 (hx.ev (x:=.tmp t') hs) hB rfl hBl
     have hb:=hx.blks it B hB
     unfold BlkRel at hb
     rw[hBk]at hb
     obtain⟨gi,r,i1,i0,i2,i3⟩:=hb
     have hm:=D8 i3 hM hMv hMl
     obtain⟨g,es,e1,e0,e2,e3,e4⟩:=hx.mapAt hM hMk
     rw[e1]at hm
     simp only [Value.map.injEq,Option.some.injEq]at hm
     subst hm
     rw[i1]at he
     have hborn:∀(i:Nat) (x:MapEntry),es[i]?=some x→x.born=i∧i < rows.length:=fun i x hx=>by
      have hi':i < rows.length:=by rw[← e3];exact(Array.getElem?_eq_some_iff.1 hx).1
      obtain⟨_,_,e',_,p2,p3,_⟩:=e4 i rows[i] (List.getElem?_eq_getElem hi')
      rw[hx]at p2
      cases p2
      exact⟨p3,hi'⟩
     have hdq:∀ q,o.dst=some q→q < E.nt:=fun q hq=>by
      rw[hd]at hq
      cases hq
      rw[cx.hnt]
      simpa using hdn
     have hnx:=run_next_at (P:=P) w o.type gi r n n seen.toArray es rows.length i2 e2 (fun x hx=>by
      obtain⟨i,hi,rfl⟩:=List.mem_iff_getElem.1 hx
      have hi':i < es.size:=by simpa using hi
      have:=hborn i es[i] (Array.getElem?_eq_getElem hi')
      have e0:es.toList[i]=es[i]:=rfl
      rw[e0]
      omega) (Nat.le_refl _)
     rcases hnx with⟨q0,hrun⟩ | ⟨e,he',w1,hal,hrun⟩
     ·have hall:∀ j,j < rows.length→j∈seen:=fun j hj=>by
       obtain⟨_,_,e,_,p2,p3,_⟩:=e4 j rows[j] (List.getElem?_eq_getElem hj)
       have:=all_seen es seen.toArray q0 e (by simpa using Array.mem_of_getElem? p2)
       rw[p3]at this
       simpa using this
      have hop:(execOp a.eval o).run P w=.ok (.value (.tuple #[.bool false])) w:=by simp [execOp,ho,he,hrun]
      refine .inl <| (Ok.value (σ':=Af5 σ d' it B (.own m mv) n seen none) hop ⟨pl,?_⟩) _ _ fun a' w' h'=>tail _ _ h0 (k0 hall) a' w' h'
      have:=hx.put (some d') (fun q hq=>hdq q (by rw[hd];exact hq)) (av:=.tup [.b false]) (v:=.tuple #[.bool false]) (.pure _ _ (.tup [_] [_] rfl fun j c u hc hu=>by
       match j with
       | 0=>simp at hc hu;subst hc hu;exact .b _
       | j+1=>simp at hc))
      rw[hd]
      exact this
     ·obtain⟨hem,hes⟩:=mem_left he'
      obtain⟨j,hj,hje⟩:=List.mem_iff_getElem.1 hem
      have hje':es[j]?=some e:=by rw[← hje];simpa using Array.getElem?_eq_getElem (by simpa using hj)
      obtain⟨b1,b2⟩:=hborn j e hje'
      have hns:j ∉ seen:=by rw[b1]at hes;simpa using hes
      have hop:(execOp a.eval o).run P w=.ok (.value (.tuple #[.bool true,e.key,e.val])) (Al6 w1 gi (.mapIter (some r) n (seen.toArray.push e.born) n)):=by
       simp [execOp,ho,he,hrun,hn]
       rfl
      have hx1:RelX E σ pl a w1∧w1.heap=w.heap:=by
       rcases hal with rfl | rfl
       ·exact⟨hx,rfl⟩
       ·exact⟨(hx.grow (w':=w.drew) ⟨rfl,rfl,rfl,Nat.le_refl _,fun _ _=>rfl⟩).1,rfl⟩
      obtain⟨hx1,hh1⟩:=hx1
      have i2':w1.heap[gi]?=some (.mapIter (some r) n seen.toArray n):=by rw[hh1];exact i2
      have hblk:blkOf (pl it)=some gi:=by rw[i1];rfl
      have hb1:=hx1.blks it B hB
      unfold BlkRel at hb1
      rw[hBk]at hb1
      obtain⟨gi',r',j1,_,j2,j3⟩:=hb1
      have egi:gi'=gi:=by rw[i1]at j1;simpa using j1.symm
      subst egi
      rw[i2']at j2
      simp only [Option.some.injEq,Obj.mapIter.injEq]at j2
      obtain⟨rfl,_⟩:=j2
      have hS:∀ k,SS E (look σ.hp) pl w1 k→(Al6 w1 gi' (.mapIter (some r) n (seen.toArray.push e.born) n)).heap[k]?=w1.heap[k]?:=fun k hk=>by
       rw[V6]
       intro e
       subst e
       rcases hk with hk | ⟨_,_,h3⟩
       ·have:=E.hS0 _ hk
        omega
       ·exact h3 it B hB hBl hblk
      have hz:=(hx1.chg (w':=Al6 w1 gi' (.mapIter (some r) n (seen.toArray.push e.born) n)) it { B with k:=.iter (.own m mv) n (seen++[j]) } (pl it)
       (.inr ⟨B,hB,hBl,rfl,by funext r c;simp [Blk.off,hBk],rfl,by simp [Blk.len,hBk]⟩)
       (fun k hk' hne=>by rw[V6];intro e;subst e;exact hne B hB hBl hblk) rfl rfl rfl (by simp [Al6]) (fun k hk'=>.inr ⟨B,hB,hBl,hk'⟩)
       ⟨gi',r,i1,i0,by rw[A75 i2',b1];simp,j3.mono (A6p.refl _ _) (fun _ hk=>by
        rcases hk with hk | ⟨q1,q2,q3⟩
        ·exact .inl hk
        ·exact .inr ⟨q1,q2,q3⟩) hS⟩).1
      have epl:D5 pl it (pl it)=pl:=by funext i;unfold D5;split <;> simp_all
      rw[epl]at hz
      refine .inl <| (Ok.value (σ':=Af5 σ d' it B (.own m mv) n seen (some j)) hop ⟨pl,?_⟩) _ _ fun a' w' h'=>tail _ _ (h1 j) (k1 j b2 hns) a' w' h'
      have:=hz.put (some d') (fun q hq=>hdq q (by rw[hd];exact hq)) (av:=.tup [.b true,.dead,.dead]) (v:=.tuple #[.bool true,e.key,e.val]) (.pure _ _ (.tup [_,_,_] [_,_,_] rfl fun j c u hc hu=>by
       match j with
       | 0=>simp at hc hu;subst hc hu;exact .b _
       | 1=>simp at hc hu;subst hc hu;exact .dead _
       | 2=>simp at hc hu;subst hc hu;exact .dead _
       | j+3=>simp at hc))
      rw[hd]
      exact this
    ·cases h
 | _=>simp [Af4]at h
end
end Go.E
namespace Go.Proofs.YtphcaholhacnpaaGreat
open Go.E
set_option maxRecDepth 100000
set_option maxHeartbeats 4000000
def A3d(p:ByteArray×Line):List AV:=[.s p.1,.agg (c61 p.2)]
def invF(es:List Entry)(i:Int)(m:List (ByteArray×Line)):Prop:=0≤i∧i≤es.length∧(m.length:Int)≤i∧m=J8 (es.take i.toNat)
def decF(es:List Entry)(i:Int)(m:List (ByteArray×Line)):Nat:=(es.length-i).toNat
def A4p(m:List (ByteArray×Line))(seen:List Nat)(l:List Line):Prop:=seen.Nodup∧(∀ j∈seen,j < m.length)∧l=seen.map (fun j=>m[j]!.2)
def invS(es:List Entry)(m:List (ByteArray×Line))(l:List Line)(seen:List Nat):Prop:=m=J8 es∧(l.length:Int)=seen.length∧seen.length≤m.length∧A4p m seen l
def decS(m:List (ByteArray×Line))(l:List Line)(seen:List Nat):Nat:=m.length-seen.length
theorem A9r{e:Entry}(h:S5 e=0):1≤e.qty∧e.qty≤1000000:=by
 unfold S5 at h
 split at h
 ·cases h
 ·split at h
  ·cases h
  ·split at h
   ·cases h
   ·split at h
    ·cases h
    ·omega
theorem W8:∀ {l:List Entry},(∀ e∈l,S5 e=0)→(l.length:Int)≤A0o l∧A0o l≤1000000*l.length
 | [],_=>by simp [A0o]
 | e :: l,h=>by
  have h1:=A9r (h e (by simp))
  have h2:=W8 (l:=l) fun x hx=>h x (by simp [hx])
  simp only [A0o,List.length_cons]
  omega
theorem A3e{es:List Entry}(h:C3 es=0):∀ e∈es,S5 e=0:=fun e he=>by
 obtain⟨i,hi,rfl⟩:=List.mem_iff_getElem.1 he
 have:=(X9 (A3c h) hi).1
 rwa [getElem!_pos es i hi]at this
theorem Ak8{l es:List Entry}(h:C3 es=0)(hs:∀ e∈l,e∈es)(s:ByteArray):0≤(lineOf l s).qty∧(lineOf l s).qty≤1000000*l.length∧0≤(lineOf l s).parts∧(lineOf l s).parts≤l.length:=by
 have h1:(A32 l s).length≤l.length:=List.length_filter_le _ _
 have h2:=W8 (l:=A32 l s) fun e he=>A3e h e (hs e (List.mem_filter.1 he).1)
 unfold lineOf
 simp only
 omega
theorem W9{es:List Entry}(h:C3 es=0){i:Int}(h0:0≤i)(h1:i≤es.length)(s:ByteArray) :
  0≤(lkp s (J8 (es.take i.toNat))).qty∧(lkp s (J8 (es.take i.toNat))).qty≤1000000*i∧0≤(lkp s (J8 (es.take i.toNat))).parts∧(lkp s (J8 (es.take i.toNat))).parts≤i:=by
 have h2:=Ak8 h (l:=es.take i.toNat) (fun e he=>List.mem_of_mem_take he) s
 have h3:=(Au8 (es.take i.toNat)).lkp s
 rw[h3.1,h3.2]
 rw[List.length_take]at h2
 omega
theorem Af6{es:List Entry}(h:C3 es=0){i:Int}(h0:0≤i)(h1:i < es.length):1≤es[i.toNat]!.qty∧es[i.toNat]!.qty≤1000000:=A9r (X9 (A3c h) (by omega)).1
theorem Av5{es:List Entry}{i:Int}{m:List (ByteArray×Line)}(h0:0≤i)(h1:(m.length:Int)≤i)(h2:m=J8 (es.take i.toNat))(h3:i < es.length) :
  invF es (i+1) (A3q es[i.toNat]!.sku ⟨es[i.toNat]!.sku,(lkp es[i.toNat]!.sku m).qty+es[i.toNat]!.qty,(lkp es[i.toNat]!.sku m).parts+1⟩ m):=by
 have h4:=Af0 es[i.toNat]!.sku (B1w es[i.toNat]! (lkp es[i.toNat]!.sku m)) m
 unfold B1w at h4
 refine⟨by omega,by omega,by omega,?_⟩
 rw[← D9 h0 h3,A33,← h2]
 rfl
theorem A3f{m:List (ByteArray×Line)}{seen:List Nat}{l:List Line}{j:Nat}(h:A4p m seen l)(hj:j < m.length)(hn:¬ j∈seen):A4p m (seen++[j]) (l++[m[j]!.2]):=by
 obtain⟨h1,h2,h3⟩:=h
 refine⟨List.nodup_append.2 ⟨h1,by simp,fun a ha b hb e=>?_⟩,fun k hk=>?_,by rw[h3,List.map_append];rfl⟩
 ·have:b=j:=by simpa using hb
  subst e this
  exact hn ha
 ·rcases List.mem_append.1 hk with k1 | k1
  ·exact h2 k k1
  ·have:k=j:=by simpa using k1
   omega
theorem S6{m:List (ByteArray×Line)}{seen:List Nat}{l:List Line}{j:Nat}(h:A4p m seen l)(hj:j < m.length)(hn:¬ j∈seen):seen.length+1≤m.length:=by
 have h1:=A3f h hj hn
 have:=A66 _ _ h1.1 h1.2.1
 simpa using this
theorem Ak9{m:List (ByteArray×Line)}{seen:List Nat}{l:List Line}(h:A4p m seen l)(ha:∀ j,j < m.length→j∈seen):l.Perm (m.map (·.2)):=by
 obtain⟨h1,h2,h3⟩:=h
 have hp:=(Av0 h1 h2 ha).map (fun j=>m[j]!.2)
 rw[← h3]at hp
 have e:(List.range m.length).map (fun j=>m[j]!.2)=m.map (·.2):=by
  have:=congrArg (List.map fun p:ByteArray×Line=>p.2) (Av1 m)
  rw[List.map_map]at this
  exact this
 rwa [e]at hp
theorem con109(es:List Entry)(hs:es.length*40≤140737488351232):Con Tryz.prog 109 [.sl (es.map c46)] (.tup [.sl ((K9 es).1.map c61),.i .i64 (K9 es).2]) :=
 by
 refine lN 0 c46 (es) Tryz.func109 fun hl_0=>sC B3 [.tmp 2,.tmp 3] 61 Tryz.func109 ?_
 intro e0 cx
 refine sq<|rG cx [0] [] z0<|sn<|sq<|sq<|rG cx [0,13] [] (fT (M3 (es)) (tN 2 (C3 es) (0:Int) (oA 1 (.i .i64 (C3 es)) z0)))<|sn<|dC (¬C3 es=0) (fun hh0=>?_) fun hh0=>?_
 refine sq<|rG cx [2,3] [] z0<|sn<|rT<|nR<|qR (.tup [.nl,.i .i64 ((1:Int))]) (A7.tup (ZLe.cons (A7.nl' (show List.map c61 (K9 es).1=[]from ?g1)) (ZLe.cons (A7.eq (show AV.i .i64 1=AV.i .i64 (K9 es).2 from ?g0)) ZLe.nil)));rotate_left 2
 refine sK<|sn<|sq<|rG cx [0,4] [14] z0<|sn<|sq<|sq<|rG cx [4,15,16,17] [14] (tL 1 c46 es z0)<|sn<|bL 0<|sL (X:=Int×List (ByteArray×Line)) (fun x=>⟨[(4,.own 14 0),(15,.sl (List.map c46 es)),(16,.i .i64 ((↑es.length:Int))),(17,.i .i64 (x.1))],[(14,⟨0,217,.map (List.map A3d x.2)⟩)]⟩) (fun x ↦ decF es x.1 x.2) (fun x ↦ invF es x.1 x.2) [4,15,16,17] [14] (((0:Int),[])) (show invF es (0:Int) []from ?g2) ?_;rotate_left
 rintro⟨i1,m2⟩ h_3
 obtain⟨hh4,h5,h6,h7⟩:0≤i1∧i1≤(↑es.length:Int)∧(↑m2.length:Int)≤i1∧m2=J8 (List.take i1.toNat es):=h_3
 refine rE cx [4,15,16,17,18] [14] (zB 0 (i1 <(↑es.length:Int))) (fun h8=>?_) fun h8=>?_
 refine sK<|sn<|sq<|bL 1<|sq<|rG cx [4,15,16,17,6] [14,6] (fA (0≤i1) (fG c46 es i1.toNat (fR 4 (fN 4 4 (oR 0 (c46 es[i1.toNat]!) z0)))))<|sn<|sq<|rg (A:=((if false=true then AV.tup [Ay3 (A8l { desc:=TypeDesc.struct #[{ name:="Sku",type:=(9:Nat),offset:=(0:Nat),embedded:=false,tag:="",pkgPath:="",byteOffset:=(0:Nat):Field },{ name:="Qty",type:=(3:Nat),offset:=(1:Nat),embedded:=false,tag:="",pkgPath:="",byteOffset:=(16:Nat):Field },{ name:="Parts",type:=(3:Nat),offset:=(2:Nat),embedded:=false,tag:="",pkgPath:="",byteOffset:=(24:Nat):Field }],size:=(3:Nat),bytes:=(32:Nat),zero:=[AV.s { data:=#[]:ByteArray },AV.i .i64 (0:Int),AV.i .i64 (0:Int)]:TI }) es[i1.toNat]!.sku (List.map A3d m2),AV.b (Z3 es[i1.toNat]!.sku (List.map A3d m2)).isSome]else Ay3 (A8l { desc:=TypeDesc.struct #[{ name:="Sku",type:=(9:Nat),offset:=(0:Nat),embedded:=false,tag:="",pkgPath:="",byteOffset:=(0:Nat):Field },{ name:="Qty",type:=(3:Nat),offset:=(1:Nat),embedded:=false,tag:="",pkgPath:="",byteOffset:=(16:Nat):Field },{ name:="Parts",type:=(3:Nat),offset:=(2:Nat),embedded:=false,tag:="",pkgPath:="",byteOffset:=(24:Nat):Field }],size:=(3:Nat),bytes:=(32:Nat),zero:=[AV.s { data:=#[]:ByteArray },AV.i .i64 (0:Int),AV.i .i64 (0:Int)]:TI }) es[i1.toNat]!.sku (List.map A3d m2))=AV.agg [AV.s (lkp es[i1.toNat]!.sku m2).sku,AV.i .i64 (lkp es[i1.toNat]!.sku m2).qty,AV.i .i64 (lkp es[i1.toNat]!.sku m2).parts])∧(A6r Tryz.prog (61:Nat) (A8l { desc:=TypeDesc.struct #[{ name:="Sku",type:=(9:Nat),offset:=(0:Nat),embedded:=false,tag:="",pkgPath:="",byteOffset:=(0:Nat):Field },{ name:="Qty",type:=(3:Nat),offset:=(1:Nat),embedded:=false,tag:="",pkgPath:="",byteOffset:=(16:Nat):Field },{ name:="Parts",type:=(3:Nat),offset:=(2:Nat),embedded:=false,tag:="",pkgPath:="",byteOffset:=(24:Nat):Field }],size:=(3:Nat),bytes:=(32:Nat),zero:=[AV.s { data:=#[]:ByteArray },AV.i .i64 (0:Int),AV.i .i64 (0:Int)]:TI }))) cx [(3,{ tell:=some (.agg [.s ((lkp es[i1.toNat]!.sku m2).sku),.i .i64 ((lkp es[i1.toNat]!.sku m2).qty),.i .i64 ((lkp es[i1.toNat]!.sku m2).parts)]) })] [4,15,16,17,6,7] [14,6,7] ⟨(An1 (enc:=A3d) (fun b ↦ AV.agg [AV.s b.sku,AV.i .i64 b.qty,AV.i .i64 b.parts]) (fun _=>rfl) rfl (es[i1.toNat]!.sku) (m2)),(show _=_ from by kernel_rfl)⟩<|sn<|sq<|rG cx [4,15,16,17,6,7] [14,6,7] z0<|sn<|sq<|rG cx [4,15,16,17,6,7] [14,6,7] (tT 4 (B4 ?g3 ?g4:AV.i .i64 (IntKind.i64.wrap ((lkp es[i1.toNat]!.sku m2).qty+es[i1.toNat]!.qty))=AV.i .i64 ((lkp es[i1.toNat]!.sku m2).qty+es[i1.toNat]!.qty)) z0) ?_;rotate_left 2
 refine sn<|sq<|rG cx [4,15,16,17,6,7] [14,6,7] (tT 2 (B4 ?g5 ?g6:AV.i .i64 (IntKind.i64.wrap ((lkp es[i1.toNat]!.sku m2).parts+1))=AV.i .i64 ((lkp es[i1.toNat]!.sku m2).parts+1)) z0) ?_;rotate_left 2
 refine sn<|rG cx [4,15,16,17] [14] (fP (A0n es[i1.toNat]!.sku (AV.agg [AV.s es[i1.toNat]!.sku,AV.i .i64 ((lkp es[i1.toNat]!.sku m2).qty+es[i1.toNat]!.qty),AV.i .i64 ((lkp es[i1.toNat]!.sku m2).parts+1)]) (List.map A3d m2)=List.map A3d (A3q es[i1.toNat]!.sku { sku:=es[i1.toNat]!.sku,qty:=(lkp es[i1.toNat]!.sku m2).qty+es[i1.toNat]!.qty,parts:=(lkp es[i1.toNat]!.sku m2).parts+1:Line } m2)) (Aa6 (enc:=A3d) (fun b ↦ AV.agg [AV.s b.sku,AV.i .i64 b.qty,AV.i .i64 b.parts]) (fun _=>rfl) (es[i1.toNat]!.sku) ({ sku:=es[i1.toNat]!.sku,qty:=(lkp es[i1.toNat]!.sku m2).qty+es[i1.toNat]!.qty,parts:=(lkp es[i1.toNat]!.sku m2).parts+1:Line }) (m2)) (oV 4 { rows:=some (List.map A3d (A3q es[i1.toNat]!.sku { sku:=es[i1.toNat]!.sku,qty:=(lkp es[i1.toNat]!.sku m2).qty+es[i1.toNat]!.qty,parts:=(lkp es[i1.toNat]!.sku m2).parts+1:Line } m2)) } z0))<|bN<|sn<|rG cx [4,15,16,17] [14] (tW 0 (i1+1) z0)<|sn<|nX ((i1+1,A3q es[i1.toNat]!.sku { sku:=es[i1.toNat]!.sku,qty:=(lkp es[i1.toNat]!.sku m2).qty+es[i1.toNat]!.qty,parts:=(lkp es[i1.toNat]!.sku m2).parts+1:Line } m2)) (show((↑es.length:Int)-(i1+1)).toNat <((↑es.length:Int)-i1).toNat from(by omega)) (show invF es (i1+1) (A3q es[i1.toNat]!.sku { sku:=es[i1.toNat]!.sku,qty:=(lkp es[i1.toNat]!.sku m2).qty+es[i1.toNat]!.qty,parts:=(lkp es[i1.toNat]!.sku m2).parts+1:Line } m2)from ?g7);rotate_left
 refine eX 0<|nE<|nE<|bH<|sn<|sq<|rG cx [4,8] [14,45,8] (tL 1 A3d m2 (fR (0:Int) (fR (↑m2.length:Int) (fO ((32:Nat)*m2.length≤(281474976710656:Nat)) (fP (m2.length≤maxLen) (by(simp only [Go.maxLen];omega)) (oV 2 { n:=m2.length,flat:=true } z0))))))<|sn<|sq<|sq<|rG cx [8,47] [14,45,8,47] z0<|sn<|bL 2<|sL (X:=List (ByteArray×Line)×List Line×List Nat) (fun x=>⟨[(8,.ptr (8) (0) (0) (0)),(47,.own 47 0)],[(14,⟨0,217,.map (List.map A3d x.1)⟩),(45,⟨0,61,.row 3 (List.map c61 x.2.1)⟩),(8,⟨0,167,.var [.own 45 0]⟩),(47,⟨0,217,.iter (.own 14 0) ((List.map A3d m2).length) (x.2.2)⟩)]⟩) (fun x ↦ decS x.1 x.2.1 x.2.2) (fun x ↦ invS es x.1 x.2.1 x.2.2) [8,47] [14,45,8,47] ((m2,[],[])) (show invS es m2 [] []from ?g8) ?_;rotate_left
 rintro⟨m9,l10,s11⟩ h_12
 obtain⟨h13,h14,h15,h16⟩:m9=J8 es∧(↑l10.length:Int)=(↑s11.length:Int)∧s11.length≤m9.length∧A4p m9 s11 l10:=h_12
 refine sq<|B5t cx 47 48 47 14 0 ((List.map A3d m2).length) ⟨0,217,.iter (.own 14 0) ((List.map A3d m2).length) (s11)⟩ ⟨0,217,.map (List.map A3d m9)⟩ (s11) (List.map A3d m9) [8,47,49] [14,45,8,47] (σ0:=⟨[(8,.ptr (8) (0) (0) (0)),(47,.own 47 0),(49,.b (false))],[(14,⟨0,217,.map (List.map A3d m9)⟩),(45,⟨0,61,.row 3 (List.map c61 l10)⟩),(8,⟨0,167,.var [.own 45 0]⟩),(47,⟨0,217,.iter (.own 14 0) ((List.map A3d m2).length) (s11)⟩)]⟩) (σ1:=fun j18=>⟨[(8,.ptr (8) (0) (0) (0)),(47,.own 47 0),(49,.b (true))],[(14,⟨0,217,.map (List.map A3d m9)⟩),(45,⟨0,61,.row 3 (List.map c61 l10)⟩),(8,⟨0,167,.var [.own 45 0]⟩),(47,⟨0,217,.iter (.own 14 0) ((List.map A3d m2).length) (s11++[j18])⟩)]⟩) ?g9 (fun h_17=>?_) (fun j18 h19 h20=>?_) (by kernel_rfl) (by kernel_rfl) (by kernel_rfl) (by kernel_rfl) (by kernel_rfl) (by kernel_rfl) (by kernel_rfl) (by kernel_rfl) (by kernel_rfl) (fun _=>by kernel_rfl);rotate_left
 refine sn<|sq<|R6 (by kernel_rfl) (by kernel_rfl)<|eX 2<|nE<|nE<|bH<|sn<|sq ?_
 have hl_21:=(B1v l10)
 refine rG cx [8] [45,8] (fR (AV.own (45) (0)) (fP (A14 Tryz.prog (176:FuncId) (177:FuncId) (some (167:Nat)) true (61:Nat) (3:Nat) (List.map c61 l10) (List.map c61 (A0y l10))) (io176 (l10) ?g10) (oV 3 { rows:=some (List.map c61 (A0y l10)) } z0))) ?_;rotate_left
 refine sn<|sq<|rG cx [2,3] [45] z0<|sn<|rT<|qR (.tup [.sl (List.map c61 (A0y l10)),.i .i64 ((0:Int))]) (A7.tup (ZLe.cons (A7.eq (show AV.sl (List.map c61 (A0y l10))=AV.sl (List.map c61 (K9 es).1)from ?g12)) (ZLe.cons (A7.eq (show AV.i .i64 0=AV.i .i64 (K9 es).2 from ?g11)) ZLe.nil)));rotate_left 2
 refine sn<|sq<|Ao7 (by kernel_rfl) (by kernel_rfl)<|sK<|sn<|bL 3<|sq<|rG cx [8,47,10] [14,45,8,47,10] (fP ((List.map A3d m2).length=(List.map A3d m9).length) ?g13 (fP (A0q (List.map A3d m9) (s11++[j18]) [AV.s m9[j18]!.1,AV.agg [AV.s m9[j18]!.2.sku,AV.i .i64 m9[j18]!.2.qty,AV.i .i64 m9[j18]!.2.parts]]) (by(refine An2 ?_ rfl;simp only [List.length_map]at *;omega)) (oR 0 [.s (m9[j18]!.1),.agg [.s (m9[j18]!.2.sku),.i .i64 (m9[j18]!.2.qty),.i .i64 (m9[j18]!.2.parts)]] z0))) ?_;rotate_left
 refine sn<|rG cx [8,47] [14,45,8,47] (fR 61 (fR 3 (fR 3 (fX c61 [m9[j18]!.2] 3 (fP ((List.map c61 l10).length+(List.map c61 [m9[j18]!.2]).length≤maxLen) ?g14 (fP (((List.map c61 l10).length+(List.map c61 [m9[j18]!.2]).length)*(32:Nat)≤(140737488355328:Nat)) ?g15 (fM c61 l10 [m9[j18]!.2] (oV 3 { rows:=some (List.map c61 (l10++[m9[j18]!.2])) } z0)))))))) ?_;rotate_left 2
 refine bN<|sn<|nX ((m9,l10++[m9[j18]!.2],s11++[j18])) (show m9.length-(s11++[j18]).length < m9.length-s11.length from ?g16) (show invS es m9 (l10++[m9[j18]!.2]) (s11++[j18])from ?g17);rotate_left 2
 revert hh0;rotate_left
 revert hh0;rotate_left
 revert hh0;rotate_left
 revert hh0 i1 m2 hh4 h5 h6 h7 h8;rotate_left
 revert hh0 i1 m2 hh4 h5 h6 h7 h8;rotate_left
 revert hh0 i1 m2 hh4 h5 h6 h7 h8;rotate_left
 revert hh0 i1 m2 hh4 h5 h6 h7 h8;rotate_left
 revert hh0 i1 m2 hh4 h5 h6 h7 h8;rotate_left
 revert hh0 i1 m2 hh4 h5 h6 h7 h8;rotate_left
 revert hh0 i1 m2 hh4 h5 h6 h7 h8 m9 l10 s11 h13 h14 h15 h16;rotate_left
 clear hl_21;revert hh0 i1 m2 hh4 h5 h6 h7 h8 m9 l10 s11 h13 h14 h15 h16 h_17;rotate_left
 clear hl_21;revert hh0 i1 m2 hh4 h5 h6 h7 h8 m9 l10 s11 h13 h14 h15 h16 h_17;rotate_left
 clear hl_21;revert hh0 i1 m2 hh4 h5 h6 h7 h8 m9 l10 s11 h13 h14 h15 h16 h_17;rotate_left
 revert hh0 i1 m2 hh4 h5 h6 h7 h8 m9 l10 s11 h13 h14 h15 h16 j18 h19 h20;rotate_left
 revert hh0 i1 m2 hh4 h5 h6 h7 h8 m9 l10 s11 h13 h14 h15 h16 j18 h19 h20;rotate_left
 revert hh0 i1 m2 hh4 h5 h6 h7 h8 m9 l10 s11 h13 h14 h15 h16 j18 h19 h20;rotate_left
 revert hh0 i1 m2 hh4 h5 h6 h7 h8 m9 l10 s11 h13 h14 h15 h16 j18 h19 h20;rotate_left
 revert hh0 i1 m2 hh4 h5 h6 h7 h8 m9 l10 s11 h13 h14 h15 h16 j18 h19 h20;rotate_left
 case g0=>intro h;rw[A8d h]
 case g1=>intro h;rw[A8d h];rfl
 case g2=>intro _;exact⟨by omega,by omega,by simp,by simp [J8]⟩
 case g3=>intro h i m h0 h1 h2 h3 h4;subst h3;have:=W9 (Classical.not_not.1 h) h0 h1 es[i.toNat]!.sku;have:=Af6 (Classical.not_not.1 h) h0 h4;omega
 case g4=>intro h i m h0 h1 h2 h3 h4;subst h3;have:=W9 (Classical.not_not.1 h) h0 h1 es[i.toNat]!.sku;have:=Af6 (Classical.not_not.1 h) h0 h4;omega
 case g5=>intro h i m h0 h1 h2 h3 h4;subst h3;have:=W9 (Classical.not_not.1 h) h0 h1 es[i.toNat]!.sku;omega
 case g6=>intro h i m h0 h1 h2 h3 h4;subst h3;have:=W9 (Classical.not_not.1 h) h0 h1 es[i.toNat]!.sku;omega
 case g7=>intro h i m h0 h1 h2 h3 h4;exact Av5 h0 h2 h3 h4
 case g8 =>
  intro h i m h0 h1 h2 h3 h4
  refine⟨by rw[h3,List.take_of_length_le (by omega)],by simp,by simp,⟨by simp,by simp,rfl⟩⟩
 case g9=>intro h i m h0 h1 h2 h3 h4 m' l s k0 k1 k2 k3;rw[k0,h3,List.take_of_length_le (by omega)]
 case g13=>intro h i m h0 h1 h2 h3 h4 m' l s k0 k1 k2 k3;intros;rw[k0,h3,List.take_of_length_le (by omega)]
 case g10=>intro h i m h0 h1 h2 h3 h4 m' l s k0 k1 k2 k3;intros;have:=A0i es;subst k0;omega
 case g11=>intro h i m h0 h1 h2 h3 h4 m' l s k0 k1 k2 k3;intros;rw[A36 (Classical.not_not.1 h)]
 case g12 =>
  intro h i m h0 h1 h2 h3 h4 m' l s k0 k1 k2 k3 ha
  rw[A36 (Classical.not_not.1 h)]
  subst k0
  rw[A9p (Ak9 k3 fun j hj=>ha j (by rw[List.length_map];exact hj))]
 case g14 =>
  intro h i m h0 h1 h2 h3 h4 m' l s k0 k1 k2 k3 j hj hn
  have:=S6 k3 (by rw[List.length_map]at hj;exact hj) hn
  have:=A0i es
  subst k0
  simp only [List.length_map,List.length_cons,List.length_nil,Go.maxLen]
  omega
 case g15 =>
  intro h i m h0 h1 h2 h3 h4 m' l s k0 k1 k2 k3 j hj hn
  have:=S6 k3 (by rw[List.length_map]at hj;exact hj) hn
  have:=A0i es
  subst k0
  simp only [List.length_map,List.length_cons,List.length_nil]
  omega
 case g16 =>
  intro h i m h0 h1 h2 h3 h4 m' l s k0 k1 k2 k3 j hj hn
  have:=S6 k3 (by rw[List.length_map]at hj;exact hj) hn
  rw[List.length_append,List.length_cons,List.length_nil]
  omega
 case g17 =>
  intro h i m h0 h1 h2 h3 h4 m' l s k0 k1 k2 k3 j hj hn
  rw[List.length_map]at hj
  have:=S6 k3 hj hn
  exact⟨k0,by rw[List.length_append,List.length_append];simp;omega,by rw[List.length_append];simpa using this,A3f k3 hj hn⟩
end Go.Proofs.YtphcaholhacnpaaGreat
namespace Go.Proofs.YtphcaholhacnpaaGreat
open Go.E
set_option maxRecDepth 100000
set_option maxHeartbeats 4000000
theorem A6b{a b:Dot}:dLt a b=true↔a.rep < b.rep∨a.rep=b.rep∧a.num < b.num:=by simp [dLt]
theorem Av6{a b c:Dot}(h1:dLt a b=true)(h2:dLt b c=true):dLt a c=true:=by rw[A6b]at *;omega
def upE(es:List Entry):Prop:=es.Pairwise (fun a b=>dLt a.dot b.dot=true)
def B20(es:List Entry):Prop:=(∀ e∈es,S5 e=0)∧upE es
theorem B5u(es:List Entry):okL es=true↔B20 es:=by
 constructor
 ·intro h
  refine⟨fun e he=>?_,?_⟩
  ·obtain⟨i,hi,rfl⟩:=List.mem_iff_getElem.1 he
   have:=(X9 h hi).1
   rwa [getElem!_pos es i hi]at this
  ·unfold upE
   rw[List.pairwise_iff_getElem]
   have step:∀ n i:Nat,(hi:i+n+1 < es.length)→dLt es[i]!.dot es[i+n+1]!.dot=true:=by
    intro n
    induction n with
    | zero =>
     intro i hi
     have:=(X9 h hi).2
     rcases this with k | k
     ·omega
     ·simpa using k
    | succ n ih =>
     intro i hi
     have h1:=ih i (by omega)
     have h2:=(X9 h (i:=i+(n+1)+1) hi).2
     rcases h2 with k | k
     ·omega
     ·rw[show i+(n+1)+1-1=i+n+1 by omega]at k;exact Av6 h1 k
   intro i j hi hj hij
   have:=step (j-i-1) i (by omega)
   rw[show i+(j-i-1)+1=j by omega,getElem!_pos es i hi,getElem!_pos es j hj]at this
   exact this
 ·rintro⟨h1,h2⟩
  unfold upE at h2
  rw[List.pairwise_iff_getElem]at h2
  unfold okL
  rw[I0]
  intro i hi
  rw[W7]
  refine⟨h1 _ (B0t hi),?_⟩
  by_cases e:i=0
  ·exact .inl e
  ·refine .inr ?_
   have:=h2 (i-1) i (by omega) hi (by omega)
   rwa [getElem!_pos es (i-1) (by omega),getElem!_pos es i hi]
theorem A0z(es:List Entry):C3 es=0↔B20 es:=by
 rw[← B5u]
 exact⟨A3c,fun h=>by unfold C3;rw[if_pos h]⟩
theorem Av7{l es:List Entry}(h:B20 es)(hs:l.Sublist es):B20 l:=⟨fun e he=>h.1 e (hs.subset he),List.Pairwise.sublist hs h.2⟩
end Go.Proofs.YtphcaholhacnpaaGreat
namespace Go.Proofs.YtphcaholhacnpaaGreat
open Go.E
set_option maxRecDepth 100000
set_option maxHeartbeats 4000000
def P4(es:List Entry):Int×Int:=if C3 es=0 then(A0o es,0)else(0,1)
theorem A9s{es:List Entry}(h:¬ C3 es=0):P4 es=(0,1):=by unfold P4;rw[if_neg h]
theorem A3g{es:List Entry}(h:C3 es=0):P4 es=(A0o es,0):=by unfold P4;rw[if_pos h]
theorem Av8{es:List Entry}{i:Int}(h0:0≤i)(h:i < es.length):A0o (es.take (i+1).toNat)=A0o (es.take i.toNat)+es[i.toNat]!.qty:=by
 rw[← D9 h0 h,Ae9]
 simp [A0o]
theorem A4q{es:List Entry}(h:C3 es=0){i:Int}(h0:0≤i)(h1:i≤es.length):0≤A0o (es.take i.toNat)∧A0o (es.take i.toNat)≤1000000*i:=by
 have h2:=W8 (l:=es.take i.toNat) fun e he=>A3e h e (List.mem_of_mem_take he)
 rw[List.length_take]at h2
 omega
def invT(es:List Entry)(n i:Int):Prop:=0≤i∧i≤es.length∧n=A0o (es.take i.toNat)
def decT(es:List Entry)(n i:Int):Nat:=(es.length-i).toNat
theorem Av9{es:List Entry}{n i:Int}(h0:0≤i)(h2:n=A0o (es.take i.toNat))(h:i < es.length):invT es (n+es[i.toNat]!.qty) (i+1):=⟨by omega,by omega,by rw[Av8 h0 h,h2]⟩
theorem B21{es:List Entry}{n i:Int}(h2:n=A0o (es.take i.toNat))(h:¬ i < es.length):n=A0o es:=by rw[h2,List.take_of_length_le (by omega)]
theorem B3q(es:List Entry)(hs:es.length*40≤140737488351232):Con Tryz.prog 101 [.sl (es.map c46)] (.tup [.i .i64 (P4 es).1,.i .i64 (P4 es).2]) :=
 by
 refine lN 0 c46 (es) Tryz.func101 fun hl_0=>sC B3 [.tmp 2,.tmp 3] 22 Tryz.func101 ?_
 intro e0 cx
 refine sq<|rG cx [0] [] z0<|sn<|sq<|sq<|rG cx [0,9] [] (fT (M3 (es)) (tN 2 (C3 es) (0:Int) (oA 1 (.i .i64 (C3 es)) z0)))<|sn<|dC (¬C3 es=0) (fun hh0=>?_) fun hh0=>?_
 refine sq<|rG cx [2,3] [] z0<|sn<|rT<|nR<|qR (.tup [.i .i64 ((0:Int)),.i .i64 ((1:Int))]) (A7.tup (ZLe.cons (A7.eq (show AV.i .i64 0=AV.i .i64 (P4 es).1 from(by rw[A9s hh0]))) (ZLe.cons (A7.eq (show AV.i .i64 1=AV.i .i64 (P4 es).2 from(by rw[A9s hh0]))) ZLe.nil)))
 refine sK<|sn<|sq<|rG cx [0,4] [] z0<|sn<|sq<|sq<|rG cx [4,10,11,12] [] (tL 1 c46 es z0)<|sn<|bL 0<|sL (X:=Int×Int) (fun x=>⟨[(4,.i .i64 (x.1)),(10,.sl (List.map c46 es)),(11,.i .i64 ((↑es.length:Int))),(12,.i .i64 (x.2))],[]⟩) (fun x ↦ decT es x.1 x.2) (fun x ↦ invT es x.1 x.2) [4,10,11,12] [] (((0:Int),(0:Int))) (show invT es (0:Int) (0:Int)from(by exact⟨by omega,by omega,rfl⟩)) ?_
 rintro⟨n1,i2⟩ h_3
 obtain⟨h4,h5,h6⟩:0≤i2∧i2≤(↑es.length:Int)∧n1=A0o (List.take i2.toNat es):=h_3
 refine rE cx [4,10,11,12,13] [] (zB 0 (i2 <(↑es.length:Int))) (fun h7=>?_) fun h7=>?_
 refine sK<|sn<|sq<|bL 1<|sq<|rG cx [4,10,11,12,6] [6] (fA (0≤i2) (fG c46 es i2.toNat (fR 4 (fN 4 4 (oR 0 (c46 es[i2.toNat]!) z0)))))<|sn<|rG cx [4,10,11,12] [] (tT 3 (B4 (by have:=A4q (Classical.not_not.1 hh0) h4 h5;have:=Af6 (Classical.not_not.1 hh0) h4 h7;omega) (by have:=A4q (Classical.not_not.1 hh0) h4 h5;have:=Af6 (Classical.not_not.1 hh0) h4 h7;omega):AV.i .i64 (IntKind.i64.wrap (n1+es[i2.toNat]!.qty))=AV.i .i64 (n1+es[i2.toNat]!.qty)) z0) ?_
 refine bN<|sn<|rG cx [4,10,11,12] [] (tW 0 (i2+1) z0)<|sn<|nX ((n1+es[i2.toNat]!.qty,i2+1)) (show((↑es.length:Int)-(i2+1)).toNat <((↑es.length:Int)-i2).toNat from(by omega)) (show invT es (n1+es[i2.toNat]!.qty) (i2+1)from(by exact Av9 h4 h6 h7))
 refine eX 0<|nE<|nE<|bH<|sn<|sq<|rG cx [2,3] [] z0<|sn<|rT<|qR (.tup [.i .i64 (n1),.i .i64 ((0:Int))]) (A7.tup (ZLe.cons (A7.eq (show AV.i .i64 n1=AV.i .i64 (P4 es).1 from(by rw[A3g (Classical.not_not.1 hh0),B21 h6 h7]))) (ZLe.cons (A7.eq (show AV.i .i64 0=AV.i .i64 (P4 es).2 from(by rw[A3g (Classical.not_not.1 hh0)]))) ZLe.nil)))
end Go.Proofs.YtphcaholhacnpaaGreat
namespace Go.Proofs.YtphcaholhacnpaaGreat
open Go.E
set_option maxRecDepth 100000
set_option maxHeartbeats 4000000
def C8(es:List Entry):Past×Int:=if okL es=true then(H9 (ofT (es.map fun e=>e.dot)),0)else(⟨[],[]⟩,1)
def E5(es:List Entry)(p:Past)(t:Bool):List Entry×Int:=if okL es=true∧p=A5 p then(es.filter (fun e=>G7 p e.dot == t),0)else([],1)
theorem A6c{es:List Entry}(h:¬ C3 es=0):C8 es=(⟨[],[]⟩,1):=by unfold C8;rw[if_neg (B3p h)]
theorem A1r{es:List Entry}(h:C3 es=0):C8 es=(H9 (ofT (es.map fun e=>e.dot)),0):=by unfold C8;rw[if_pos (A3c h)]
theorem Af7{es:List Entry}{p:Past}{t:Bool}(h:¬ C3 es=0∨¬ p=A5 p):E5 es p t=([],1):=by
 unfold E5
 rw[if_neg]
 rintro⟨h1,h2⟩
 exact h.elim (fun k=>B3p k h1) (fun k=>k h2)
theorem A1s{es:List Entry}{p:Past}{t:Bool}(h:C3 es=0)(h2:p=A5 p):E5 es p t=(es.filter (fun e=>G7 p e.dot == t),0):=by unfold E5;rw[if_pos ⟨A3c h,h2⟩]
def A8f(es:List Entry)(i:Int)(l:List Dot):Prop:=l.length=es.length∧l.take i.toNat=(es.take i.toNat).map fun e=>e.dot
def invD(es:List Entry)(i:Int)(l:List Dot):Prop:=0≤i∧i≤es.length∧l.length=es.length∧A8f es i l
def decD(es:List Entry)(i:Int)(l:List Dot):Nat:=(es.length-i).toNat
theorem A9t{es:List Entry}{i:Int}{l:List Dot}(h0:0≤i)(h:i < es.length)(hs:A8f es i l):A8f es (i+1) (l.set i.toNat es[i.toNat]!.dot):=by
 obtain⟨h1,h2⟩:=hs
 refine⟨by rw[List.length_set];exact h1,?_⟩
 rw[← D9 h0 h,List.map_append,← h2,show(i+1).toNat=i.toNat+1 by omega,List.take_succ_eq_append_getElem (by rw[List.length_set];omega)]
 simp [List.take_set_of_le]
theorem Al0{es:List Entry}{i:Int}{l:List Dot}(h:¬ i < es.length)(hs:A8f es i l):l=es.map fun e=>e.dot:=by
 obtain⟨h1,h2⟩:=hs
 rwa [List.take_of_length_le (by omega),List.take_of_length_le (by omega)]at h2
theorem ok_len{es:List Entry}(h:¬ ¬ C3 es=0):es.length≤16000000000:=Av4 (A3c (Classical.not_not.1 h))
theorem A3h{es:List Entry}{p:Past}(h:¬(¬ C3 es=0∨¬ p=A5 p)):C3 es=0∧p=A5 p:=⟨Classical.not_not.1 fun k=>h (.inl k),Classical.not_not.1 fun k=>h (.inr k)⟩
theorem Aw0(es:List Entry):(C8 es).1.cloud.length≤8000000000∧(C8 es).1.vec.length≤16:=by
 unfold C8
 split
 ·exact A0a _
 ·simp
theorem con113(es:List Entry):Con Tryz.prog 113 [.sl (es.map c46)] (.tup [.agg (c26 (C8 es).1),.i .i64 (C8 es).2]) :=
 by
 refine lN 0 c46 (es) Tryz.func113 fun hl_0=>sC B3 [.cell 2 26,.tmp 3] 29 Tryz.func113 ?_
 intro e0 cx
 refine sq<|rG cx [0,2] [2] z0<|sn<|sq<|sq<|rG cx [0,2,9] [2] (fT (M3 (es)) (tN 2 (C3 es) (0:Int) (oA 1 (.i .i64 (C3 es)) z0)))<|sn<|dC (¬C3 es=0) (fun hh0=>?_) fun hh0=>?_
 refine sq<|rG cx [2,3] [2] z0<|sn<|rT<|nR<|qR (.tup [.agg [.nl,.nl],.i .i64 ((1:Int))]) (A7.tup (ZLe.cons (A7.agg (ZLe.cons (A7.nl' (show List.map c3 (C8 es).1.vec=[]from(by rw[A6c hh0];rfl))) (ZLe.cons (A7.nl' (show List.map B1 (C8 es).1.cloud=[]from(by rw[A6c hh0];rfl))) ZLe.nil))) (ZLe.cons (A7.eq (show AV.i .i64 1=AV.i .i64 (C8 es).2 from(by rw[A6c hh0]))) ZLe.nil)))
 refine sK<|sn<|sq<|rG cx [0,2,4] [2,13] (tL 1 c46 es (fR (↑es.length:Int) (fR (↑es.length:Int) (fP ((16:Nat)*es.length≤(281474976710656:Nat)) (by have:=ok_len hh0;omega) (fP (es.length≤maxLen) (by(simp only [Go.maxLen];omega)) (fR 2 (fP (ZLe [AV.i .i64 (0:Int),AV.i .i64 (0:Int)] [AV.i .i64 { rep:=(0:Int),num:=(0:Int):Dot }.rep,AV.i .i64 { rep:=(0:Int),num:=(0:Int):Dot }.num]) (by(with_reducible exact ZLe.refl _)) (fP (List.replicate es.length [AV.i .i64 { rep:=(0:Int),num:=(0:Int):Dot }.rep,AV.i .i64 { rep:=(0:Int),num:=(0:Int):Dot }.num]=List.map c44 (List.replicate es.length { rep:=(0:Int),num:=(0:Int):Dot })) (by(with_reducible refine A5c ?_;kernel_rfl)) (oV 2 { row:=[.i .i64 ({ rep:=(0:Int),num:=(0:Int):Dot }.rep),.i .i64 ({ rep:=(0:Int),num:=(0:Int):Dot }.num)],rows:=some (List.map c44 (List.replicate es.length { rep:=(0:Int),num:=(0:Int):Dot })),n:=es.length } z0))))))))) ?_
 refine sn<|sq<|sq<|rG cx [2,4,14,15,16] [2,13] (tL 1 c46 es z0)<|sn<|bL 0<|sL (X:=Int×List Dot) (fun x=>⟨[(2,.ptr (2) (0) (0) (0)),(4,.own 13 0),(14,.sl (List.map c46 es)),(15,.i .i64 ((↑es.length:Int))),(16,.i .i64 (x.1))],[(2,⟨0,26,.var [.nl,.nl]⟩),(13,⟨0,44,.row 2 (List.map c44 x.2)⟩)]⟩) (fun x ↦ decD es x.1 x.2) (fun x ↦ invD es x.1 x.2) [2,4,14,15,16] [2,13] (((0:Int),List.replicate es.length { rep:=(0:Int),num:=(0:Int):Dot })) (show invD es (0:Int) (List.replicate es.length { rep:=(0:Int),num:=(0:Int):Dot })from(by exact⟨by omega,by omega,by simp,by simp,by simp⟩)) ?_
 rintro⟨i1,l2⟩ h_3
 obtain⟨hh4,h5,h6,h7⟩:0≤i1∧i1≤(↑es.length:Int)∧l2.length=es.length∧A8f es i1 l2:=h_3
 refine rE cx [2,4,14,15,16,17] [2,13] (zB 0 (i1 <(↑es.length:Int))) (fun h8=>?_) fun h8=>?_
 refine sK<|sn<|sq<|bL 1<|sq<|rG cx [2,4,14,15,16,6,5] [2,13,6] (fA (0≤i1) (fG c46 es i1.toNat (fR 4 (fN 4 4 (oR 1 (c46 es[i1.toNat]!) z0)))))<|sn<|rG cx [2,4,14,15,16] [2,13] (fA (0≤i1) (fP (i1.toNat <(List.map c44 l2).length) (by(first | omega | (simp only [List.length_map];omega))) (fR 2 (fG c44 l2 i1.toNat (fR 2 (fP (0+(2:Nat)≤2) (by(first | omega | (simp only [List.length_map];omega))) (fP ((List.map c44 l2).set i1.toNat (List.take (0) (c44 l2[i1.toNat]!)++E0 (AV.agg [AV.i .i64 es[i1.toNat]!.dot.rep,AV.i .i64 es[i1.toNat]!.dot.num])++List.drop (0+(2:Nat)) (c44 l2[i1.toNat]!))=List.map c44 (l2.set i1.toNat es[i1.toNat]!.dot)) (by(with_reducible refine A2c ?_;kernel_rfl)) (oV 5 { row:=(c44 l2[i1.toNat]!),rows:=some (List.map c44 (l2.set i1.toNat es[i1.toNat]!.dot)) } z0)))))))) ?_
 refine bN<|sn<|rG cx [2,4,14,15,16] [2,13] (tW 0 (i1+1) z0)<|sn<|nX ((i1+1,l2.set i1.toNat es[i1.toNat]!.dot)) (show((↑es.length:Int)-(i1+1)).toNat <((↑es.length:Int)-i1).toNat from(by omega)) (show invD es (i1+1) (l2.set i1.toNat es[i1.toNat]!.dot)from(by exact⟨by omega,by omega,by rw[List.length_set];exact h6,A9t hh4 h8 h7⟩))
 refine eX 0<|nE<|nE<|bH<|sn<|sq<|rG cx [2,3] [2] (fT (con108 (l2) (by have:=ok_len hh0;omega)) (oA 1 (.agg [.sl (List.map c3 (H9 (ofT l2)).vec),.sl (List.map B1 (H9 (ofT l2)).cloud)]) z0)) ?_
 refine sn<|rT<|qR (.tup [.agg [.sl (List.map c3 (H9 (ofT l2)).vec),.sl (List.map B1 (H9 (ofT l2)).cloud)],.i .i64 ((0:Int))]) (A7.tup (ZLe.cons (A7.eq (show AV.agg [AV.sl (List.map c3 (H9 (ofT l2)).vec),AV.sl (List.map B1 (H9 (ofT l2)).cloud)]=AV.agg [AV.sl (List.map c3 (C8 es).1.vec),AV.sl (List.map B1 (C8 es).1.cloud)]from(by rw[A1r (Classical.not_not.1 hh0),Al0 h8 h7]))) (ZLe.cons (A7.eq (show AV.i .i64 0=AV.i .i64 (C8 es).2 from(by rw[A1r (Classical.not_not.1 hh0)]))) ZLe.nil)))
theorem B3r(e:Entry)(p:Past):Con Tryz.prog 153 [.agg (c46 e),.eptr (c26 p)] (.b (G7 p e.dot == false)) :=
 by
 refine sC B3 [.tmp 3] 9 Tryz.func153 ?_
 intro e0 cx
 refine sq<|rG cx [1,2] [2] z0<|sn<|sq<|rG cx [3] [] (fN 2 2 (fT (con105 (p) (e.dot)) (tT 4 (E8:(AV.b !G7 p e.dot)=AV.b (decide ¬G7 p e.dot=true)) (oA 3 (.b (G7 p e.dot)) z0))))<|sn<|rT<|qR (.b (decide ¬G7 p e.dot=true)) (.eq ?g0);rotate_left
 case g0=>exact(by cases G7 p e.dot <;> rfl)
theorem B22(es:List Entry)(p:Past)(hs:es.length*40≤140737488351232):Con Tryz.prog 103 [.sl (es.map c46),.fn (.func 153) [] [.eptr (c26 p)]] (.sl ((es.filter (fun e=>G7 p e.dot == false)).map c46)) :=
 by
 refine lN 0 c46 (es) Tryz.func103 fun hl_0=>sC B3 [.tmp 4] 23 Tryz.func103 ?_
 intro e0 cx
 refine sq<|rG cx [0,1] [] z0<|sn<|sq<|rG cx [0,1,5] [] z0<|sn<|sq<|sq<|rG cx [1,5,8,9,10] [] (tL 1 c46 es z0)<|sn<|bL 0<|G1 5 1005 46 4 (σ':=⟨[(1,.fn (Fn.func (153:FuncId)) [] [.eptr [.sl (List.map c3 p.vec),.sl (List.map B1 p.cloud)]]),(5,.own 1005 0),(8,.sl (List.map c46 es)),(9,.i .i64 ((↑es.length:Int))),(10,.i .i64 ((0:Int)))],[(1005,⟨0,46,.row 4 (List.map c46 [])⟩)]⟩) (by kernel_rfl)<|sL (X:=Int×List Entry) (fun x=>⟨[(1,.fn (Fn.func (153:FuncId)) [] [.eptr [.sl (List.map c3 p.vec),.sl (List.map B1 p.cloud)]]),(5,.own 1005 0),(8,.sl (List.map c46 es)),(9,.i .i64 ((↑es.length:Int))),(10,.i .i64 (x.1))],[(1005,⟨0,46,.row 4 (List.map c46 x.2)⟩)]⟩) (fun x ↦ decP es x.1 x.2) (fun x ↦ A9q (fun e ↦ G7 p e.dot == false) es x.1 x.2) [1,5,8,9,10] [1005] (((0:Int),[])) (show A9q (fun e ↦ G7 p e.dot == false) es (0:Int) []from(by exact(A39 _ _))) ?_
 rintro⟨i0,l1⟩ h_2
 obtain⟨hh3,hh4,hh5,h6⟩:0≤i0∧i0≤(↑es.length:Int)∧l1=List.filter (fun e ↦ G7 p e.dot == false) (List.take i0.toNat es)∧(↑l1.length:Int)≤i0:=h_2
 refine rE cx [1,5,8,9,10,11] [1005] (zB 0 (i0 <(↑es.length:Int))) (fun h7=>?_) fun h7=>?_
 refine sK<|sn<|sq<|bL 1<|sq<|rG cx [1,5,8,9,10,7] [1005,7] (fA (0≤i0) (fG c46 es i0.toNat (fR 4 (fN 4 4 (oR 0 (c46 es[i0.toNat]!) z0)))))<|sn<|sq<|rG cx [1,5,8,9,10,7,16] [1005,7] (fT (B3r (es[i0.toNat]!) (p)) (oA 2 (Ab3 (B3r (es[i0.toNat]!) (p))) z0))<|sn<|A2d (G7 p es[i0.toNat]!.dot == false) (by kernel_rfl) (by kernel_rfl) (fun h8=>?_) (fun h8=>?_)
 refine rG cx [1,5,8,9,10] [1005] (fR 46 (fR 4 (fR 4 (fX c46 [es[i0.toNat]!] 4 (fS c46 l1 c46 [es[i0.toNat]!] (fP (((List.map c46 l1).length+(List.map c46 [es[i0.toNat]!]).length)*(40:Nat)≤(140737488355328:Nat)) (by(simp only [Go.maxLen,List.length_map,List.length_append,List.length_cons,List.length_nil];omega)) (fM c46 l1 [es[i0.toNat]!] (oV 3 { rows:=some (List.map c46 (l1++[es[i0.toNat]!])) } z0))))))))<|bN<|sn<|rG cx [1,5,8,9,10] [1005] (tW 0 (i0+1) z0)<|sn<|nX ((i0+1,l1++[es[i0.toNat]!])) (show((↑es.length:Int)-(i0+1)).toNat <((↑es.length:Int)-i0).toNat from(by omega)) (show A9q (fun e ↦ G7 p e.dot == false) es (i0+1) (l1++[es[i0.toNat]!])from(by exact(A6a hh3 hh5 h6 h7 h8)))
 refine sK<|bN<|sn<|rG cx [1,5,8,9,10] [1005] (tW 0 (i0+1) z0)<|sn<|nX ((i0+1,l1)) (show((↑es.length:Int)-(i0+1)).toNat <((↑es.length:Int)-i0).toNat from(by omega)) (show A9q (fun e ↦ G7 p e.dot == false) es (i0+1) l1 from(by exact(A3a hh3 hh5 h6 h7 (by simpa using h8))))
 refine eX 0<|nE<|nE<|bH<|sn<|sq<|rG cx [4] [1005] z0<|sn<|rT<|qR (.sl (List.map c46 l1)) (.eq (by exact(by rw[A3b hh5 h7])))
theorem A9u(es:List Entry)(p:Past)(hb:p.cloud.length*16≤140737488350000):Con Tryz.prog 82 [.sl (es.map c46),.agg (c26 p)] (.tup [.sl ((E5 es p false).1.map c46),.i .i64 (E5 es p false).2]) :=
 by
 refine lN 0 c46 (es) Tryz.func82 fun hl_0=>sC B3 [.tmp 4,.tmp 5] 17 Tryz.func82 ?_
 intro e0 cx
 refine sq<|rG cx [0,3] [3] z0<|sn<|sq<|sq<|A9 (σ':=⟨[(0,.sl (List.map c46 es)),(3,.ptr (3) (0) (0) (0)),(13,.b (decide (¬C3 es=0∨¬p=A5 p)))],[(3,⟨0,26,.var [.sl (List.map c3 p.vec),.sl (List.map B1 p.cloud)]⟩)]⟩) ?_ ?_
 refine A6 (¬C3 es=0) (fun h_1=>?_) (fun h_1=>?_)
 refine rG cx [0,3,13] [3] (fT (M3 (es)) (tT 2 (G2 h_1:AV.b (C3 es !=0)=AV.b true) (tD 7 true (¬C3 es=0∨¬p=A5 p) (by simp only [eq_false h_1,tsl]) (oA 1 (.i .i64 (C3 es)) z0)))) ?_
 exact⟨rfl,by kernel_rfl⟩
 refine rG cx [0,3,13] [3] (fT (M3 (es)) (tN 2 (C3 es) (0:Int) (tT 3 (A0 h_1) (fT (A08 (p) (by(with_reducible assumption))) (tQ 6 (p=A5 p) (tT 7 (by first | (simp only [eq_false h_1,tsl];done) | simp_all:AV.b (decide ¬p=A5 p)=AV.b (decide (¬C3 es=0∨¬p=A5 p))) (oA 1 (.i .i64 (C3 es)) (oA 5 (.b (decide (p=A5 p))) z0)))))))) ?_
 exact⟨rfl,by kernel_rfl⟩
 refine sn<|dC (¬C3 es=0∨¬p=A5 p) (fun h2=>?_) fun h2=>?_
 refine sq<|rG cx [4,5] [] z0<|sn<|rT<|nR<|qR (.tup [.nl,.i .i64 ((1:Int))]) (A7.tup (ZLe.cons (A7.nl' (show List.map c46 (E5 es p false).1=[]from(by exact(by rw[Af7 h2];rfl)))) (ZLe.cons (A7.eq (show AV.i .i64 1=AV.i .i64 (E5 es p false).2 from(by exact(by rw[Af7 h2])))) ZLe.nil)))
 refine sK<|sn<|sq<|rG cx [4,5] [] (fT (B22 (es) (p) (by exact(by have:=Av4 (A3c (A3h h2).1);omega))) (oA 2 (.sl (List.map c46 (List.filter (fun e ↦ G7 p e.dot == false) es))) z0)) ?_
 refine sn<|rT<|qR (.tup [.sl (List.map c46 (List.filter (fun e ↦ G7 p e.dot == false) es)),.i .i64 ((0:Int))]) (A7.tup (ZLe.cons (A7.eq (show AV.sl (List.map c46 (List.filter (fun e ↦ G7 p e.dot == false) es))=AV.sl (List.map c46 (E5 es p false).1)from(by exact(by rw[A1s (A3h h2).1 (A3h h2).2])))) (ZLe.cons (A7.eq (show AV.i .i64 0=AV.i .i64 (E5 es p false).2 from(by exact(by rw[A1s (A3h h2).1 (A3h h2).2])))) ZLe.nil)))
end Go.Proofs.YtphcaholhacnpaaGreat
namespace Go.Proofs.YtphcaholhacnpaaGreat
open Go.E
set_option maxRecDepth 100000
set_option maxHeartbeats 4000000
open Go Go.Lib Go.RowKit Go.Proofs
def rulC:Array Value:=#[.nilFunc,.func (.func 154) #[] #[],.func (.func 155) #[] #[],.func (.func 156) #[] #[],.func (.func 157) #[] #[],.func (.func 158) #[] #[],.func (.func 159) #[] #[]]
def rulL:List (List AV):=[[.nilf],[.fn (.func 154) [] []],[.fn (.func 155) [] []],[.fn (.func 156) [] []],[.fn (.func 157) [] []],[.fn (.func 158) [] []],[.fn (.func 159) [] []]]
set_option maxHeartbeats 4000000 in
theorem Aw1 (w:World):Calls Tryz.prog 84 #[] w fun e w'=>e=.returned (.slice (some ⟨w.heap.size,0,none⟩) 7 7)∧w'.heap[w.heap.size]?=some (.cells rulC 132 (0,0))∧Below w.heap.size w w':=by
 go_enter Tryz.func84,Tryz.ntmps84
 go_wp2
 go_ret
 exact⟨rfl,heap_alloc_new w _,⟨rfl,rfl,rfl,by simp,fun k hk=>Below.heap_alloc w _ k hk⟩⟩
def rulU(j:Nat):Value:=(rulC[j]?).getD .nilFunc
theorem rul_at:∀ j:Nat,j < 7→rulC[j]?=some (rulU j)
 | 0,_ | 1,_ | 2,_ | 3,_ | 4,_ | 5,_ | 6,_=>rfl
theorem B5v:∀ j:Nat,(rulU j).oneCell'=true
 | 0 | 1 | 2 | 3 | 4 | 5 | 6=>rfl
 | n+7=>rfl
theorem X0(S:Nat→Prop)(w:World)(f:Nat):RelV0 S w (.fn (.func f) [] []) (.func (.func f) #[] #[]):=.fn _ [] [] [] [] rfl rfl (fun j a u h=>by simp at h) (fun j a u h=>by simp at h)
theorem B5w(S:Nat→Prop)(w:World):∀(j q:Nat) (r:List AV) (a:AV),rulL[j]?=some r→r[q]?=some a→RelV0 S w a (rulU j)
 | 0,0,_,_,rfl,rfl=>.nilf
 | 1,0,_,_,rfl,rfl=>X0 S w _
 | 2,0,_,_,rfl,rfl=>X0 S w _
 | 3,0,_,_,rfl,rfl=>X0 S w _
 | 4,0,_,_,rfl,rfl=>X0 S w _
 | 5,0,_,_,rfl,rfl=>X0 S w _
 | 6,0,_,_,rfl,rfl=>X0 S w _
theorem A1i:Con Tryz.prog 84 [] (.sl [[.nilf],[.fn (.func 154) [] []],[.fn (.func 155) [] []],[.fn (.func 156) [] []],[.fn (.func 157) [] []],[.fn (.func 158) [] []],[.fn (.func 159) [] []]]):=by
 refine⟨⟨_,Tryz.func84,by kernel_rfl,by kernel_rfl⟩,fun w S0 vs hS hl hv=>?_⟩
 obtain rfl:vs=[]:=List.eq_nil_of_length_eq_zero hl
 refine(Aw1 w).mono ?_
 rintro e w' ⟨rfl,hc,hb⟩
 refine⟨_,rfl,?_,hb⟩
 refine RelV0.sl rulL (some ⟨w.heap.size,0,none⟩) 7 1 (fun j _=>rulU j) (by decide) (by decide) (fun h=>by cases h) (by decide) (fun _=>⟨_,rfl,.inr ⟨Nat.le_refl _,?_⟩,?_⟩) (fun j _=>B5v j) (B5w _ _)
 ·exact(Array.getElem?_eq_some_iff.1 hc).1
 ·intro j q hj hq
  obtain rfl:q=0:=by omega
  have:=rul_at j hj
  by_cases z:j=0
  ·subst z;simpa [World.cell?,Addr.add,hc]using this
  ·simpa [World.cell?,Addr.add,z,hc]using this
end Go.Proofs.YtphcaholhacnpaaGreat
