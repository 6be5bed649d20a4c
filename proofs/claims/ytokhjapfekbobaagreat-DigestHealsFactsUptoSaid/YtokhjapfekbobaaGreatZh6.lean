/- Sr: the document's chapters 11 and 14: forms, what is heard of, live, waits; digests. Conditions: sizes. Sd: the document's digests. Conditions: sizes. Cw: compact: Compact, Same, Fate, Story, Spent, Prune, Expand. Conditions: sizes. Se: the laws of digests. Conditions: sizes. Jp: joins of compact states, in plain words. Conditions: none. Sf: the laws of digests: pictures, what is spared. Conditions: sizes. Ct: the document's chapter 13, and when lists, facts, states are the same. Conditions: sizes. Cv: the laws of compact states and fates. Conditions: sizes. Jv: the law of healing facts. Conditions: sizes. EN: from a law's contract to its row: 'for every input it answers true, and the input reads as it did'. Conditions: none named, none written. Wx: what is handed in, by its types. Conditions: none. Wy: what is handed in, by its types (acts, facts). Conditions: none. Qk: what is handed in, small (facts). Conditions: none. Qj: facts of the program that every row asks for, each by itself. Conditions: none. -/
import Derived.Below
import Derived.OwnWalk
import Derived.WalkKit
import Derived.KernelRfl
import Derived.Laws.MakeOwn
import Derived.Laws.OwnMore
import Derived.Laws.Slices
import Derived.Laws.CopyOwn
import Derived.Laws.AppendOwnNone
import Derived.Laws.Rows
import Derived.Orders
import Derived.Test.YtokhjapfekbobaaGreatProg
import Derived.DataReads
import Derived.ChangeOld
import Derived.DataElems
import Derived.SizedLaws
import Derived.ChangeKeysEq
import Derived.Sort.LotA
import Derived.Shelf.SlSortFuncK.RowK2
import Derived.Shelf.SlSortCmp.NoneTotal
import Derived.Lib.Walk
import Derived.Shelf.SlLaysE0
import Derived.Shelf.RegionOpenPlain
import Derived.Deep.LoopGhost
import Derived.Lib.SliceRun
import Derived.Lib.Bytealg
import Derived.Calls
import Derived.Shelf.SlSortFuncK.SWK
import Derived.Deep.Cut
import Derived.Deep.CutRange
import Derived.Deep.DeepCutAuto
import Derived.Lib.ReflectliteSwap
import Derived.Laws.Externs
import Derived.Lib.ReflectliteSlice
import Derived.Lib.AppendZeros
import Derived.BigQuiet
import Derived.Shelf.SlSortFuncK.WholeK
import Derived.Shelf.GgSortFunc.Tiny
import Derived.Maps.RangeRun
import Derived.ProofKit
import Derived.JoinedCond
import Derived.Deep.CondSized
import Derived.Test.YtokhjapfekbobaaGreatRows
import Derived.Test.YtokhjapfekbobaaGreatZh5
set_option linter.unusedVariables false
set_option linter.unusedSimpArgs false
namespace Go.Proofs.YtokhjapfekbobaaGreat
open Go.E
set_option maxRecDepth 100000
set_option maxHeartbeats 4000000
def isQ1(a b:Facts)(i:Int):Prop:=∀ k:Nat,(k:Int) < i→a.adds[k]! = b.adds[k]!
def isQ2(a b:Facts)(i:Int):Prop:=∀ k:Nat,(k:Int) < i→a.recs[k]! = b.recs[k]!
def Bl4(a b:Facts)(i:Int)(x1:List Entry)(x2:List Int)(x3:List Span)(x4:List Record)(y1:List Entry)(y2:List Int)(y3:List Span)(y4:List Record):Prop:=(x1=a.adds∧x2=a.gone.vec∧x3=a.gone.cloud∧x4=a.recs)∧(y1=b.adds∧y2=b.gone.vec∧y3=b.gone.cloud∧y4=b.recs)∧0≤i∧i≤a.adds.length∧isQ1 a b i
def decQ1(a:Facts)(i:Int)(x1:List Entry)(x2:List Int)(x3:List Span)(x4:List Record)(y1:List Entry)(y2:List Int)(y3:List Span)(y4:List Record):Nat:=(a.adds.length-i).toNat
def Bl5(a b:Facts)(i:Int)(x1:List Entry)(x2:List Int)(x3:List Span)(x4:List Record)(y1:List Entry)(y2:List Int)(y3:List Span)(y4:List Record):Prop:=(x1=a.adds∧x2=a.gone.vec∧x3=a.gone.cloud∧x4=a.recs)∧(y1=b.adds∧y2=b.gone.vec∧y3=b.gone.cloud∧y4=b.recs)∧0≤i∧i≤a.recs.length∧isQ1 a b a.adds.length∧isQ2 a b i
def decQ2(a:Facts)(i:Int)(x1:List Entry)(x2:List Int)(x3:List Span)(x4:List Record)(y1:List Entry)(y2:List Int)(y3:List Span)(y4:List Record):Nat:=(a.recs.length-i).toNat
theorem con35(a b:Facts)(hb:szF a)(hl:a.recs.length≤4611686018427387904)(hk:a.adds.length≤4611686018427387904):Con Tryz.prog 35 [.agg (c31 a),.agg (c31 b)] (.b (decide (a=b))) :=
 by
 have LA:¬(¬(a.adds.length:Int)=b.adds.length∨¬a.gone=b.gone∨¬(a.recs.length:Int)=b.recs.length)→a.adds.length=b.adds.length:=fun h=>by have:=Classical.not_not.1 fun k=>h (.inl k);omega
 have LN:¬(¬(a.adds.length:Int)=b.adds.length∨¬a.gone=b.gone∨¬(a.recs.length:Int)=b.recs.length)→a.recs.length=b.recs.length:=fun h=>by have:=Classical.not_not.1 fun k=>h (.inr (.inr k));omega
 have GT:∀(l:List Record) (i:Int),0≤i→i < l.length→(l.map c83)[i.toNat]?=some (c83 l[i.toNat]!):=fun l i h0 h=>by
  rw[List.getElem?_map,List.getElem?_eq_getElem (by omega),getElem!_pos l i.toNat (by omega)];rfl
 have Z:szF a:=hb
 refine sC A9 [.tmp 4] 85 Tryz.func35 ?_
 intro e0 cx
 refine sq<|rG cx [2,3] [2,3] z0<|sn<|sq<|sq<|B4 (σ':=⟨[(2,.ptr (2) (0) (0) (0)),(3,.ptr (3) (0) (0) (0)),(30,.b (decide (¬(↑a.adds.length:Int)=(↑b.adds.length:Int)∨¬a.gone=b.gone∨¬(↑a.recs.length:Int)=(↑b.recs.length:Int))))],[(2,⟨0,31,.var [.sl (List.map c67 a.adds),.sl (List.map c3 a.gone.vec),.sl (List.map B3 a.gone.cloud),.sl (List.map c83 a.recs)]⟩),(3,⟨0,31,.var [.sl (List.map c67 b.adds),.sl (List.map c3 b.gone.vec),.sl (List.map B3 b.gone.cloud),.sl (List.map c83 b.recs)]⟩)]⟩) ?_ ?_
 refine A4 (¬(↑a.adds.length:Int)=(↑b.adds.length:Int)) (fun hh1=>?_) (fun hh1=>?_)
 refine rG cx [2,3,30] [2,3] (tL 2 c67 a.adds (tL 5 c67 b.adds (tT 6 (F4 hh1:AV.b ((↑a.adds.length:Int) !=(↑b.adds.length:Int))=AV.b true) (tD 23 true (¬(↑a.adds.length:Int)=(↑b.adds.length:Int)∨¬a.gone=b.gone∨¬(↑a.recs.length:Int)=(↑b.recs.length:Int)) (by simp only [eq_false hh1,tsl]) z0)))) ?_
 exact⟨rfl,by kernel_rfl⟩
 refine A4 (¬a.gone=b.gone) (fun hh2=>?_) (fun hh2=>?_)
 refine rg (A:=_∧_∧(AV.b ((↑a.adds.length:Int) !=(↑b.adds.length:Int))=AV.b (decide ¬(↑a.adds.length:Int)=(↑b.adds.length:Int)))∧_∧_∧_∧(AV.b true=AV.b (decide (¬(↑a.adds.length:Int)=(↑b.adds.length:Int)∨¬a.gone=b.gone∨¬(↑a.recs.length:Int)=(↑b.recs.length:Int))))) cx [(2,{ tell:=some (.i .i64 ((↑a.adds.length:Int))) }),(5,{ tell:=some (.i .i64 ((↑b.adds.length:Int))) }),(6,{ tell:=some (.b (decide ¬(↑a.adds.length:Int)=(↑b.adds.length:Int))) }),(7,{ tell:=some (.b (false)) }),(12,{ val:=some (.b (decide (a.gone=b.gone))),tell:=some (.b (false)) }),(23,{ tell:=some (.b (decide (¬(↑a.adds.length:Int)=(↑b.adds.length:Int)∨¬a.gone=b.gone∨¬(↑a.recs.length:Int)=(↑b.recs.length:Int)))) })] [2,3,30] [2,3] ⟨(A7z c67 a.adds),(A7z c67 b.adds),(A7y),(A0 hh1),(A0 hh2),(B6r (a.gone) (b.gone) (by exact Z.1.2) (by have:=Z.1.1;omega)),(by first | (simp only [eq_false hh1,eq_false hh2,tsl];done) | simp_all)⟩ ?_
 exact⟨rfl,by kernel_rfl⟩
 refine rG cx [2,3,30] [2,3] (tL 2 c67 a.adds (tL 5 c67 b.adds (tN 6 (↑a.adds.length:Int) (↑b.adds.length:Int) (tT 7 (A0 hh1) (fT (B6r (a.gone) (b.gone) (by exact Z.1.2) (by have:=Z.1.1;omega)) (tQ 13 (a.gone=b.gone) (tT 14 (A0 hh2) (tL 18 c83 a.recs (tL 21 c83 b.recs (tN 22 (↑a.recs.length:Int) (↑b.recs.length:Int) (tT 23 (by first | (simp only [eq_false hh1,eq_false hh2,tsl];done) | simp_all:AV.b (decide ¬(↑a.recs.length:Int)=(↑b.recs.length:Int))=AV.b (decide (¬(↑a.adds.length:Int)=(↑b.adds.length:Int)∨¬a.gone=b.gone∨¬(↑a.recs.length:Int)=(↑b.recs.length:Int)))) (oA 12 (.b (decide (a.gone=b.gone))) z0)))))))))))) ?_
 exact⟨rfl,by kernel_rfl⟩
 refine sn<|dC (¬(↑a.adds.length:Int)=(↑b.adds.length:Int)∨¬a.gone=b.gone∨¬(↑a.recs.length:Int)=(↑b.recs.length:Int)) (fun hh3=>?_) fun hh3=>?_
 refine sq<|rG cx [4] [] z0<|sn<|rT<|nR<|qR (.b (false)) (.eq ?g4);rotate_left
 refine sK<|sn<|sq<|sq<|rG cx [2,3,5] [2,3] z0<|sn<|bL 0<|sL (X:=Int×List Entry×List Int×List Span×List Record×List Entry×List Int×List Span×List Record) (fun x=>⟨[(2,.ptr (2) (0) (0) (0)),(3,.ptr (3) (0) (0) (0)),(5,.i .i64 (x.1))],[(2,⟨0,31,.var [.sl (List.map c67 x.2.1),.sl (List.map c3 x.2.2.1),.sl (List.map B3 x.2.2.2.1),.sl (List.map c83 x.2.2.2.2.1)]⟩),(3,⟨0,31,.var [.sl (List.map c67 x.2.2.2.2.2.1),.sl (List.map c3 x.2.2.2.2.2.2.1),.sl (List.map B3 x.2.2.2.2.2.2.2.1),.sl (List.map c83 x.2.2.2.2.2.2.2.2)]⟩)]⟩) (fun x ↦ decQ1 a x.1 x.2.1 x.2.2.1 x.2.2.2.1 x.2.2.2.2.1 x.2.2.2.2.2.1 x.2.2.2.2.2.2.1 x.2.2.2.2.2.2.2.1 x.2.2.2.2.2.2.2.2) (fun x ↦ Bl4 a b x.1 x.2.1 x.2.2.1 x.2.2.2.1 x.2.2.2.2.1 x.2.2.2.2.2.1 x.2.2.2.2.2.2.1 x.2.2.2.2.2.2.2.1 x.2.2.2.2.2.2.2.2) [2,3,5] [2,3] (((0:Int),a.adds,a.gone.vec,a.gone.cloud,a.recs,b.adds,b.gone.vec,b.gone.cloud,b.recs)) (show Bl4 a b (0:Int) a.adds a.gone.vec a.gone.cloud a.recs b.adds b.gone.vec b.gone.cloud b.recs from(by exact⟨⟨rfl,rfl,rfl,rfl⟩,⟨rfl,rfl,rfl,rfl⟩,by omega,by omega,fun k hk=>by omega⟩)) ?_
 rintro⟨i4,x5,x6,x7,x8,y9,y10,y11,y12⟩ h_13
 obtain⟨h14,h15,h16,h17,h18⟩:(x5=a.adds∧x6=a.gone.vec∧x7=a.gone.cloud∧x8=a.recs)∧(y9=b.adds∧y10=b.gone.vec∧y11=b.gone.cloud∧y12=b.recs)∧0≤i4∧i4≤(↑a.adds.length:Int)∧isQ1 a b i4:=h_13
 refine sq<|rD cx [2,3,5,35] [2,3] (tL 3 c67 x5 (zB 4 (i4 <(↑x5.length:Int)))) (fun h19=>?_) fun h19=>?_
 refine sK<|sn<|sq<|bL 1<|sq<|rA cx [2,3,5,48] [2,3] (fA (0≤i4) (fG c67 x5 i4.toNat (fR 4 (fN 4 4 (fA (0≤i4) (fP ((List.map c67 y9)[i4.toNat]?=some (c67 y9[i4.toNat]!)) (by have:=LA hh3;rw[h15.1];rw[h14.1]at h19;rw[List.getElem?_map,List.getElem?_eq_getElem (by omega),getElem!_pos b.adds i4.toNat (by omega)];rfl) (fR 4 (fN 4 4 (fT (A1x (eq67 x5[i4.toNat]! y9[i4.toNat]!)) (oR 3 (c67 x5[i4.toNat]!) (oR 8 (c67 y9[i4.toNat]!) (oA 10 (.b (decide ¬x5[i4.toNat]! = y9[i4.toNat]!)) z0)))))))))))) ?_
 refine sn<|dC (¬x5[i4.toNat]! = y9[i4.toNat]!) (fun h20=>?_) fun h20=>?_
 refine sq<|rG cx [4] [] z0<|sn<|rT<|bR<|nR<|nR<|bR<|nR<|qR (.b (false)) (.eq (by rw[h14.1,h15.1]at h20;exact congrArg AV.b (decide_eq_false fun k=>h20 (by rw[k])).symm))
 refine sK<|bN<|sn<|rG cx [2,3,5] [2,3] (tW 1 (i4+1) z0)<|sn<|nX ((i4+1,x5,x6,x7,x8,y9,y10,y11,y12)) (show((↑a.adds.length:Int)-(i4+1)).toNat <((↑a.adds.length:Int)-i4).toNat from(by rw[h14.1]at h19;omega)) (show Bl4 a b (i4+1) x5 x6 x7 x8 y9 y10 y11 y12 from ?g9);rotate_left
 refine eX 0<|nE<|nE<|bH<|sn<|sq<|sq<|rG cx [2,3,6] [2,3] z0<|sn<|bL 2<|sL (X:=Int×List Entry×List Int×List Span×List Record×List Entry×List Int×List Span×List Record) (fun x=>⟨[(2,.ptr (2) (0) (0) (0)),(3,.ptr (3) (0) (0) (0)),(6,.i .i64 (x.1))],[(2,⟨0,31,.var [.sl (List.map c67 x.2.1),.sl (List.map c3 x.2.2.1),.sl (List.map B3 x.2.2.2.1),.sl (List.map c83 x.2.2.2.2.1)]⟩),(3,⟨0,31,.var [.sl (List.map c67 x.2.2.2.2.2.1),.sl (List.map c3 x.2.2.2.2.2.2.1),.sl (List.map B3 x.2.2.2.2.2.2.2.1),.sl (List.map c83 x.2.2.2.2.2.2.2.2)]⟩)]⟩) (fun x ↦ decQ2 a x.1 x.2.1 x.2.2.1 x.2.2.2.1 x.2.2.2.2.1 x.2.2.2.2.2.1 x.2.2.2.2.2.2.1 x.2.2.2.2.2.2.2.1 x.2.2.2.2.2.2.2.2) (fun x ↦ Bl5 a b x.1 x.2.1 x.2.2.1 x.2.2.2.1 x.2.2.2.2.1 x.2.2.2.2.2.1 x.2.2.2.2.2.2.1 x.2.2.2.2.2.2.2.1 x.2.2.2.2.2.2.2.2) [2,3,6] [2,3] (((0:Int),x5,x6,x7,x8,y9,y10,y11,y12)) (show Bl5 a b (0:Int) x5 x6 x7 x8 y9 y10 y11 y12 from ?g10) ?_;rotate_left
 rintro⟨i21,x22,x23,x24,x25,y26,y27,y28,y29⟩ h_30
 obtain⟨h31,h32,h33,h34,h35,h36⟩:(x22=a.adds∧x23=a.gone.vec∧x24=a.gone.cloud∧x25=a.recs)∧(y26=b.adds∧y27=b.gone.vec∧y28=b.gone.cloud∧y29=b.recs)∧0≤i21∧i21≤(↑a.recs.length:Int)∧isQ1 a b (↑a.adds.length:Int)∧isQ2 a b i21:=h_30
 refine sq<|rD cx [2,3,6,53] [2,3] (tL 3 c83 x25 (zB 4 (i21 <(↑x25.length:Int)))) (fun h37=>?_) fun h37=>?_
 refine sK<|sn<|sq<|bL 3<|sq<|B4 (σ':=⟨[(2,.ptr (2) (0) (0) (0)),(3,.ptr (3) (0) (0) (0)),(6,.i .i64 (i21)),(84,.b (decide (¬x25[i21.toNat]!.sku=y29[i21.toNat]!.sku∨¬x25[i21.toNat]!.past=y29[i21.toNat]!.past)))],[(2,⟨0,31,.var [.sl (List.map c67 x22),.sl (List.map c3 x23),.sl (List.map B3 x24),.sl (List.map c83 x25)]⟩),(3,⟨0,31,.var [.sl (List.map c67 y26),.sl (List.map c3 y27),.sl (List.map B3 y28),.sl (List.map c83 y29)]⟩)]⟩) ?_ ?_
 refine A4 (¬x25[i21.toNat]!.sku=y29[i21.toNat]!.sku) (fun h39=>?_) (fun h39=>?_)
 refine rA cx [2,3,6,84] [2,3] (fA (0≤i21) (fG c83 x25 i21.toNat (fR 3 (fA (0≤i21) (fP ((List.map c83 y29)[i21.toNat]?=some (c83 y29[i21.toNat]!)) ?g11 (fR 3 (tT 12 (A4h h39:(AV.b !x25[i21.toNat]!.sku.toList == y29[i21.toNat]!.sku.toList)=AV.b true) (tD 28 true (¬x25[i21.toNat]!.sku=y29[i21.toNat]!.sku∨¬x25[i21.toNat]!.past=y29[i21.toNat]!.past) (by simp only [eq_false h39,tsl]) (oR 3 (c83 x25[i21.toNat]!) (oR 9 (c83 y29[i21.toNat]!) z0)))))))))) ?_;rotate_left
 exact⟨rfl,by kernel_rfl⟩
 refine rA cx [2,3,6,84] [2,3] (fA (0≤i21) (fG c83 x25 i21.toNat (fR 3 (fA (0≤i21) (fP ((List.map c83 y29)[i21.toNat]?=some (c83 y29[i21.toNat]!)) ?g12 (fR 3 (tT 12 (A80:(AV.b !x25[i21.toNat]!.sku.toList == y29[i21.toNat]!.sku.toList)=AV.b (decide ¬x25[i21.toNat]!.sku=y29[i21.toNat]!.sku)) (tT 13 (A0 h39) (fA (0≤i21) (fG c83 x25 i21.toNat (fR 3 (fN 2 2 (fA (0≤i21) (fP ((List.map c83 y29)[i21.toNat]?=some (c83 y29[i21.toNat]!)) ?g13 (fR 3 (fN 2 2 (fT (B6r (x25[i21.toNat]!.past) (y29[i21.toNat]!.past) ?g14 ?g15) (tQ 27 (x25[i21.toNat]!.past=y29[i21.toNat]!.past) (tT 28 (by first | (simp only [eq_false h39,tsl];done) | simp_all:AV.b (decide ¬x25[i21.toNat]!.past=y29[i21.toNat]!.past)=AV.b (decide (¬x25[i21.toNat]!.sku=y29[i21.toNat]!.sku∨¬x25[i21.toNat]!.past=y29[i21.toNat]!.past))) (oR 3 (c83 x25[i21.toNat]!) (oR 9 (c83 y29[i21.toNat]!) (oR 17 (c83 x25[i21.toNat]!) (oR 23 (c83 y29[i21.toNat]!) (oA 26 (.b (decide (x25[i21.toNat]!.past=y29[i21.toNat]!.past))) z0)))))))))))))))))))))))) ?_;rotate_left 4
 exact⟨rfl,by kernel_rfl⟩
 refine sn<|dC (¬x25[i21.toNat]!.sku=y29[i21.toNat]!.sku∨¬x25[i21.toNat]!.past=y29[i21.toNat]!.past) (fun h40=>?_) fun h40=>?_
 refine sq<|rG cx [4] [] z0<|sn<|rT<|bR<|nR<|nR<|bR<|nR<|qR (.b (false)) (.eq ?g16);rotate_left
 refine sK<|bN<|sn<|rG cx [2,3,6] [2,3] (tW 1 (i21+1) z0)<|sn<|nX ((i21+1,x22,x23,x24,x25,y26,y27,y28,y29)) (show((↑a.recs.length:Int)-(i21+1)).toNat <((↑a.recs.length:Int)-i21).toNat from(by rw[h31.2.2.2]at h37;omega)) (show Bl5 a b (i21+1) x22 x23 x24 x25 y26 y27 y28 y29 from ?g18);rotate_left
 refine eX 2<|nE<|nE<|bH<|sn<|sq<|rG cx [4] [] z0<|sn<|rT<|qR (.b (true)) (.eq ?g19);rotate_left
 case g4 =>
  refine congrArg AV.b (decide_eq_false fun k=>?_).symm
  subst k
  rcases hh3 with hh3 | hh3 | hh3 <;> exact hh3 rfl
 case g9 =>
  rw[h14.1,h15.1]at h20
  rw[h14.1]at h19
  refine⟨h14,h15,by omega,by omega,fun k hk=>?_⟩
  by_cases c:k=i4.toNat
  ·rw[c];exact Classical.not_not.1 h20
  ·exact h18 k (by omega)
 case g10 =>
  rw[h14.1]at h19
  exact⟨h14,h15,by omega,by omega,fun k hk=>h18 k (by omega),fun k hk=>by omega⟩
 case g11=>revert hh3 i4 x5 x6 x7 x8 y9 y10 y11 y12 h14 h15 h16 h17 h18 h19 i21 x22 x23 x24 x25 y26 y27 y28 y29 h31 h32 h33 h34 h35 h36 h37 h39;intro h i x1 x2 x3 x4 y1 y2 y3 y4 e d h0 h1 h2 h3 j u1 u2 u3 u4 v1 v2 v3 v4 m n k0 k1 k2 k3 k4;intros;have:=LN h;rw[m.2.2.2]at k4;rw[n.2.2.2];exact GT _ _ k0 (by omega)
 case g12=>revert hh3 i4 x5 x6 x7 x8 y9 y10 y11 y12 h14 h15 h16 h17 h18 h19 i21 x22 x23 x24 x25 y26 y27 y28 y29 h31 h32 h33 h34 h35 h36 h37 h39;intro h i x1 x2 x3 x4 y1 y2 y3 y4 e d h0 h1 h2 h3 j u1 u2 u3 u4 v1 v2 v3 v4 m n k0 k1 k2 k3 k4;intros;have:=LN h;rw[m.2.2.2]at k4;rw[n.2.2.2];exact GT _ _ k0 (by omega)
 case g13=>revert hh3 i4 x5 x6 x7 x8 y9 y10 y11 y12 h14 h15 h16 h17 h18 h19 i21 x22 x23 x24 x25 y26 y27 y28 y29 h31 h32 h33 h34 h35 h36 h37 h39;intro h i x1 x2 x3 x4 y1 y2 y3 y4 e d h0 h1 h2 h3 j u1 u2 u3 u4 v1 v2 v3 v4 m n k0 k1 k2 k3 k4;intros;have:=LN h;rw[m.2.2.2]at k4;rw[n.2.2.2];exact GT _ _ k0 (by omega)
 case g14=>revert hh3 i4 x5 x6 x7 x8 y9 y10 y11 y12 h14 h15 h16 h17 h18 h19 i21 x22 x23 x24 x25 y26 y27 y28 y29 h31 h32 h33 h34 h35 h36 h37 h39;intro h i x1 x2 x3 x4 y1 y2 y3 y4 e d h0 h1 h2 h3 j u1 u2 u3 u4 v1 v2 v3 v4 m n k0 k1 k2 k3 k4;intros;rw[m.2.2.2]at k4 ⊢;exact(At7 Z.2 k0 k4).2
 case g15=>revert hh3 i4 x5 x6 x7 x8 y9 y10 y11 y12 h14 h15 h16 h17 h18 h19 i21 x22 x23 x24 x25 y26 y27 y28 y29 h31 h32 h33 h34 h35 h36 h37 h39;intro h i x1 x2 x3 x4 y1 y2 y3 y4 e d h0 h1 h2 h3 j u1 u2 u3 u4 v1 v2 v3 v4 m n k0 k1 k2 k3 k4;intros;rw[m.2.2.2]at k4 ⊢;have:=(At7 Z.2 k0 k4).1;omega
 case g16 =>
  rw[h31.2.2.2,h32.2.2.2]at h40
  refine congrArg AV.b (decide_eq_false fun k=>?_).symm
  subst k
  rcases h40 with q | q <;> exact q rfl
 case g18 =>
  rw[h31.2.2.2,h32.2.2.2]at h40
  rw[h31.2.2.2]at h37
  refine⟨h31,h32,by omega,by omega,h35,fun q hq=>?_⟩
  by_cases c:q=i21.toNat
  ·rw[c]
   have z1:a.recs[i21.toNat]!.sku=b.recs[i21.toNat]!.sku:=Classical.byContradiction fun k=>h40 (.inl k)
   have z2:a.recs[i21.toNat]!.past=b.recs[i21.toNat]!.past:=Classical.byContradiction fun k=>h40 (.inr k)
   rw[← B3y a.recs[i21.toNat]!,← B3y b.recs[i21.toNat]!,z1,z2]
  ·exact h36 q (by omega)
 case g19 =>
  have l1:=LA hh3
  have l2:=LN hh3
  rw[h31.2.2.2]at h37
  refine congrArg AV.b (decide_eq_true ?_).symm
  have z1:a.adds=b.adds:=R3 l1 fun q hq=>h35 q (by omega)
  have z2:=Classical.not_not.1 fun k=>hh3 (.inr (.inl k))
  have z3:a.recs=b.recs:=R3 l2 fun q hq=>h36 q (by omega)
  obtain⟨p,q,r⟩:=a
  obtain⟨p',q',r'⟩:=b
  simp only at z1 z2 z3
  rw[z1,z2,z3]
end Go.Proofs.YtokhjapfekbobaaGreat
namespace Go.Proofs.YtokhjapfekbobaaGreat
open Go.E
set_option maxRecDepth 100000
set_option maxHeartbeats 4000000
theorem A42{p:Past}(h:p=A3 p):szP p:=by
 have k:=P9 (A7 [p])
 rw[h]
 exact⟨by show(F6 (A7 [p])).cloud.length*16≤_;omega,by show(F6 (A7 [p])).vec.length≤_;omega⟩
theorem Ah2{f:Facts}(h:okF f=true):szF f:=⟨A42 (H3.1 h).2.1,fun r hr=>A42 (A30 (H3.1 h).2.2 r hr)⟩
end Go.Proofs.YtokhjapfekbobaaGreat
namespace Go.Proofs.YtokhjapfekbobaaGreat
open Go.E
set_option maxRecDepth 100000
set_option maxHeartbeats 4000000
noncomputable def F3(f:Facts):Facts×Int:=if okF f=true then(stF f,0)else(zeroF,1)
theorem A3j{f:Facts}(h:okF f=true):F3 f=(stF f,0):=by unfold F3;rw[if_pos h]
theorem A60{f:Facts}(h:¬ okF f=true):F3 f=(zeroF,1):=by unfold F3;rw[if_neg h]
theorem Bl6(f:Facts)(hb:szB 7 f):Con Tryz.prog 11 [.agg (c29 f)] (.tup [.agg (c31 (F3 f).1),.i .i64 (F3 f).2]) :=
 by
 refine sC A9 [.cell 2 31,.tmp 3] 35 Tryz.func11 ?_
 intro e0 cx
 refine sq<|rG cx [1,2] [1,2] z0<|sn<|sq<|rG cx [1,2,4,5] [1,2] (fT (Bk5 (f) (by(with_reducible assumption))) (oA 1 (.tup [.sl (List.map c67 (D8 f).1),.i .i64 ((D8 f).2)]) z0))<|sn<|sq<|sq<|rG cx [1,2,4,5,16] [1,2] (tN 1 ((D8 f).2) (0:Int) z0)<|sn<|dC (¬(D8 f).2=0) (fun h0=>?_) fun h0=>?_
 refine sq<|rG cx [2,3] [2] z0<|sn<|rT<|nR<|qR (.tup [.agg [.nl,.nl,.nl,.nl],.i .i64 ((D8 f).2)]) (C1.tup (ZLe.cons (C1.agg (ZLe.cons (C1.nl' (show List.map c67 (F3 f).1.adds=[]from(by rw[A60 (K3 h0).1];rfl))) (ZLe.cons (C1.nl' (show List.map c3 (F3 f).1.gone.vec=[]from(by rw[A60 (K3 h0).1];rfl))) (ZLe.cons (C1.nl' (show List.map B3 (F3 f).1.gone.cloud=[]from(by rw[A60 (K3 h0).1];rfl))) (ZLe.cons (C1.nl' (show List.map c83 (F3 f).1.recs=[]from(by rw[A60 (K3 h0).1];rfl))) ZLe.nil))))) (ZLe.cons (C1.eq (show AV.i .i64 (D8 f).2=AV.i .i64 (F3 f).2 from(by rw[(K3 h0).2,A60 (K3 h0).1]))) ZLe.nil)))
 refine sK<|sn<|sq<|rG cx [1,2,4,6] [1,2,6] (fT (Bk6 (f) (by exact hb.1)) (oA 1 (.tup [.agg [.sl (List.map c3 (F1 f).1.vec),.sl (List.map B3 (F1 f).1.cloud)],.i .i64 ((F1 f).2)]) z0)) ?_
 refine sn<|sq<|rG cx [2,4,6,8] [2,6] (fT (con48 (f.recs) ((F1 f).1) (by exact B04 hb.1.2) (by exact Ao0 hb) (by rw[A1i (M3 h0)];exact A5z (N3 f))) (oA 3 (.tup [.sl (List.map c83 (S9 f.recs (F1 f).1).1),.i .i64 ((S9 f.recs (F1 f).1).2)]) z0)) ?_
 refine sn<|sq<|rG cx [2,3] [2] z0<|sn<|rT<|qR (.tup [.agg [.sl (List.map c67 (D8 f).1),.sl (List.map c3 (F1 f).1.vec),.sl (List.map B3 (F1 f).1.cloud),.sl (List.map c83 (S9 f.recs (F1 f).1).1)],.i .i64 ((0:Int))]) (C1.tup (ZLe.cons (C1.eq (show AV.agg [AV.sl (List.map c67 (D8 f).1),AV.sl (List.map c3 (F1 f).1.vec),AV.sl (List.map B3 (F1 f).1.cloud),AV.sl (List.map c83 (S9 f.recs (F1 f).1).1)]=AV.agg [AV.sl (List.map c67 (F3 f).1.adds),AV.sl (List.map c3 (F3 f).1.gone.vec),AV.sl (List.map B3 (F3 f).1.gone.cloud),AV.sl (List.map c83 (F3 f).1.recs)]from(by rw[A3j (M3 h0),A41 (M3 h0),A1i (M3 h0),A9b (M3 h0)];rfl))) (ZLe.cons (C1.eq (show AV.i .i64 0=AV.i .i64 (F3 f).2 from(by rw[A3j (M3 h0)]))) ZLe.nil)))
end Go.Proofs.YtokhjapfekbobaaGreat
namespace Go.Proofs.YtokhjapfekbobaaGreat
open Go.E
set_option maxRecDepth 100000
set_option maxHeartbeats 4000000
def kFx:Facts:=⟨[⟨⟨0,1⟩,⟨#[65]⟩,5⟩,⟨⟨0,2⟩,⟨#[65]⟩,6⟩],⟨[1,1],[]⟩,[]⟩
theorem B9o:okF kFx=true:=H3.2 ⟨by decide +kernel,by decide +kernel,by decide +kernel⟩
theorem B88:I3 kFx=[⟨⟨0,2⟩,⟨#[65]⟩,6⟩]:=by decide +kernel
theorem B4g:B7 kFx=⟨[2,1],[]⟩:=by decide +kernel
theorem B89:E7 [⟨⟨0,2⟩,⟨#[65]⟩,6⟩]=⟨[],[⟨0,2,2⟩]⟩:=by decide +kernel
theorem kFx_of:ofF kFx=(⟨⟨[2,1],[]⟩,⟨[],[⟨0,2,2⟩]⟩⟩,0):=by rw[A2o B9o,B88,B4g,B89]
theorem kFx_sz:szB 7 kFx:=⟨Ah2 B9o,by decide,by decide⟩
theorem B4h{f:Facts}(h:szB 1 f):szB 7 f:=H9 h (by decide)
theorem B9p(f:Facts):szD (ofF f).1:=by
 by_cases h:okF f=true
 ·rw[A2o h];exact⟨A42 (N3 f),A42 (A5x _)⟩
 ·rw[A7h h];exact⟨⟨by decide,by decide⟩,⟨by decide,by decide⟩⟩
theorem B0j{s:Facts}{d:Dig}(h:okS s=true):okF (A5y s d)=true:=by
 rw[← B85 h]
 exact A38 (A6h (An9 (B9m h)))
theorem con31 :Con Tryz.prog 31 [] (.b true) :=
 by
 refine sC A9 [.tmp 0] 50 Tryz.func31 ?_
 intro e0 cx
 refine sq<|rG cx [] [] z0<|sn<|sq<|rG cx [1] [1] z0<|sn<|sq<|rG cx [2,3] [2] (fP (Con Tryz.prog (36:Nat) [AV.agg [AV.sl (List.map c67 [{ dot:={ rep:=(0:Int),num:=(1:Int):Dot },sku:={ data:=#[(65:UInt8)]:ByteArray },qty:=(5:Int):Entry },{ dot:={ rep:=(0:Int),num:=(2:Int):Dot },sku:={ data:=#[(65:UInt8)]:ByteArray },qty:=(6:Int):Entry }]),AV.sl (List.map c3 [(1:Int),(1:Int)]),AV.nl,AV.nl]] (AV.tup [AV.agg [AV.sl (List.map c3 (ofF { adds:=[{ dot:={ rep:=(0:Int),num:=(1:Int):Dot },sku:={ data:=#[(65:UInt8)]:ByteArray },qty:=(5:Int):Entry },{ dot:={ rep:=(0:Int),num:=(2:Int):Dot },sku:={ data:=#[(65:UInt8)]:ByteArray },qty:=(6:Int):Entry }],gone:={ vec:=[(1:Int),(1:Int)],cloud:=[]:Past },recs:=[]:Facts }).1.heard.vec),AV.sl (List.map B3 (ofF { adds:=[{ dot:={ rep:=(0:Int),num:=(1:Int):Dot },sku:={ data:=#[(65:UInt8)]:ByteArray },qty:=(5:Int):Entry },{ dot:={ rep:=(0:Int),num:=(2:Int):Dot },sku:={ data:=#[(65:UInt8)]:ByteArray },qty:=(6:Int):Entry }],gone:={ vec:=[(1:Int),(1:Int)],cloud:=[]:Past },recs:=[]:Facts }).1.heard.cloud),AV.sl (List.map c3 (ofF { adds:=[{ dot:={ rep:=(0:Int),num:=(1:Int):Dot },sku:={ data:=#[(65:UInt8)]:ByteArray },qty:=(5:Int):Entry },{ dot:={ rep:=(0:Int),num:=(2:Int):Dot },sku:={ data:=#[(65:UInt8)]:ByteArray },qty:=(6:Int):Entry }],gone:={ vec:=[(1:Int),(1:Int)],cloud:=[]:Past },recs:=[]:Facts }).1.live.vec),AV.sl (List.map B3 (ofF { adds:=[{ dot:={ rep:=(0:Int),num:=(1:Int):Dot },sku:={ data:=#[(65:UInt8)]:ByteArray },qty:=(5:Int):Entry },{ dot:={ rep:=(0:Int),num:=(2:Int):Dot },sku:={ data:=#[(65:UInt8)]:ByteArray },qty:=(6:Int):Entry }],gone:={ vec:=[(1:Int),(1:Int)],cloud:=[]:Past },recs:=[]:Facts }).1.live.cloud)],AV.i .i64 (ofF { adds:=[{ dot:={ rep:=(0:Int),num:=(1:Int):Dot },sku:={ data:=#[(65:UInt8)]:ByteArray },qty:=(5:Int):Entry },{ dot:={ rep:=(0:Int),num:=(2:Int):Dot },sku:={ data:=#[(65:UInt8)]:ByteArray },qty:=(6:Int):Entry }],gone:={ vec:=[(1:Int),(1:Int)],cloud:=[]:Past },recs:=[]:Facts }).2])) (Con.le (Bl3 ({ adds:=[{ dot:={ rep:=(0:Int),num:=(1:Int):Dot },sku:={ data:=#[(65:UInt8)]:ByteArray },qty:=(5:Int):Entry },{ dot:={ rep:=(0:Int),num:=(2:Int):Dot },sku:={ data:=#[(65:UInt8)]:ByteArray },qty:=(6:Int):Entry }],gone:={ vec:=[(1:Int),(1:Int)],cloud:=[]:Past },recs:=[]:Facts }) (by exact kFx_sz)) (ZLe.cons (C1.agg (ZLe.cons (C1.refl _) (ZLe.cons (C1.refl _) (ZLe.cons C1.nl (ZLe.cons C1.nl ZLe.nil))))) ZLe.nil)) (oA 1 (.tup [.agg [.sl (List.map c3 (ofF { adds:=[{ dot:={ rep:=(0:Int),num:=(1:Int):Dot },sku:={ data:=#[(65:UInt8)]:ByteArray },qty:=(5:Int):Entry },{ dot:={ rep:=(0:Int),num:=(2:Int):Dot },sku:={ data:=#[(65:UInt8)]:ByteArray },qty:=(6:Int):Entry }],gone:={ vec:=[(1:Int),(1:Int)],cloud:=[]:Past },recs:=[]:Facts }).1.heard.vec),.sl (List.map B3 (ofF { adds:=[{ dot:={ rep:=(0:Int),num:=(1:Int):Dot },sku:={ data:=#[(65:UInt8)]:ByteArray },qty:=(5:Int):Entry },{ dot:={ rep:=(0:Int),num:=(2:Int):Dot },sku:={ data:=#[(65:UInt8)]:ByteArray },qty:=(6:Int):Entry }],gone:={ vec:=[(1:Int),(1:Int)],cloud:=[]:Past },recs:=[]:Facts }).1.heard.cloud),.sl (List.map c3 (ofF { adds:=[{ dot:={ rep:=(0:Int),num:=(1:Int):Dot },sku:={ data:=#[(65:UInt8)]:ByteArray },qty:=(5:Int):Entry },{ dot:={ rep:=(0:Int),num:=(2:Int):Dot },sku:={ data:=#[(65:UInt8)]:ByteArray },qty:=(6:Int):Entry }],gone:={ vec:=[(1:Int),(1:Int)],cloud:=[]:Past },recs:=[]:Facts }).1.live.vec),.sl (List.map B3 (ofF { adds:=[{ dot:={ rep:=(0:Int),num:=(1:Int):Dot },sku:={ data:=#[(65:UInt8)]:ByteArray },qty:=(5:Int):Entry },{ dot:={ rep:=(0:Int),num:=(2:Int):Dot },sku:={ data:=#[(65:UInt8)]:ByteArray },qty:=(6:Int):Entry }],gone:={ vec:=[(1:Int),(1:Int)],cloud:=[]:Past },recs:=[]:Facts }).1.live.cloud)],.i .i64 ((ofF { adds:=[{ dot:={ rep:=(0:Int),num:=(1:Int):Dot },sku:={ data:=#[(65:UInt8)]:ByteArray },qty:=(5:Int):Entry },{ dot:={ rep:=(0:Int),num:=(2:Int):Dot },sku:={ data:=#[(65:UInt8)]:ByteArray },qty:=(6:Int):Entry }],gone:={ vec:=[(1:Int),(1:Int)],cloud:=[]:Past },recs:=[]:Facts }).2)]) z0)) ?_
 refine sn<|sq<|B4 (σ':=⟨[(0,.b (decide ((ofF { adds:=[{ dot:={ rep:=(0:Int),num:=(1:Int):Dot },sku:={ data:=#[(65:UInt8)]:ByteArray },qty:=(5:Int):Entry },{ dot:={ rep:=(0:Int),num:=(2:Int):Dot },sku:={ data:=#[(65:UInt8)]:ByteArray },qty:=(6:Int):Entry }],gone:={ vec:=[(1:Int),(1:Int)],cloud:=[]:Past },recs:=[]:Facts }).2=0∧(↑(ofF { adds:=[{ dot:={ rep:=(0:Int),num:=(1:Int):Dot },sku:={ data:=#[(65:UInt8)]:ByteArray },qty:=(5:Int):Entry },{ dot:={ rep:=(0:Int),num:=(2:Int):Dot },sku:={ data:=#[(65:UInt8)]:ByteArray },qty:=(6:Int):Entry }],gone:={ vec:=[(1:Int),(1:Int)],cloud:=[]:Past },recs:=[]:Facts }).1.heard.vec.length:Int)=2∧(ofF { adds:=[{ dot:={ rep:=(0:Int),num:=(1:Int):Dot },sku:={ data:=#[(65:UInt8)]:ByteArray },qty:=(5:Int):Entry },{ dot:={ rep:=(0:Int),num:=(2:Int):Dot },sku:={ data:=#[(65:UInt8)]:ByteArray },qty:=(6:Int):Entry }],gone:={ vec:=[(1:Int),(1:Int)],cloud:=[]:Past },recs:=[]:Facts }).1.heard.vec[(0:Nat)]! =(2:Int)∧(↑(ofF { adds:=[{ dot:={ rep:=(0:Int),num:=(1:Int):Dot },sku:={ data:=#[(65:UInt8)]:ByteArray },qty:=(5:Int):Entry },{ dot:={ rep:=(0:Int),num:=(2:Int):Dot },sku:={ data:=#[(65:UInt8)]:ByteArray },qty:=(6:Int):Entry }],gone:={ vec:=[(1:Int),(1:Int)],cloud:=[]:Past },recs:=[]:Facts }).1.live.cloud.length:Int)=1∧(ofF { adds:=[{ dot:={ rep:=(0:Int),num:=(1:Int):Dot },sku:={ data:=#[(65:UInt8)]:ByteArray },qty:=(5:Int):Entry },{ dot:={ rep:=(0:Int),num:=(2:Int):Dot },sku:={ data:=#[(65:UInt8)]:ByteArray },qty:=(6:Int):Entry }],gone:={ vec:=[(1:Int),(1:Int)],cloud:=[]:Past },recs:=[]:Facts }).1.live.cloud[(0:Nat)]!.lo=2)))],[]⟩) ?_ ?_
 refine A4 ((ofF { adds:=[{ dot:={ rep:=(0:Int),num:=(1:Int):Dot },sku:={ data:=#[(65:UInt8)]:ByteArray },qty:=(5:Int):Entry },{ dot:={ rep:=(0:Int),num:=(2:Int):Dot },sku:={ data:=#[(65:UInt8)]:ByteArray },qty:=(6:Int):Entry }],gone:={ vec:=[(1:Int),(1:Int)],cloud:=[]:Past },recs:=[]:Facts }).2=0) (fun h1=>?_) (fun h1=>?_)
 refine A4 ((↑(ofF { adds:=[{ dot:={ rep:=(0:Int),num:=(1:Int):Dot },sku:={ data:=#[(65:UInt8)]:ByteArray },qty:=(5:Int):Entry },{ dot:={ rep:=(0:Int),num:=(2:Int):Dot },sku:={ data:=#[(65:UInt8)]:ByteArray },qty:=(6:Int):Entry }],gone:={ vec:=[(1:Int),(1:Int)],cloud:=[]:Past },recs:=[]:Facts }).1.heard.vec.length:Int)=2) (fun h2=>?_) (fun h2=>?_)
 refine A4 ((ofF { adds:=[{ dot:={ rep:=(0:Int),num:=(1:Int):Dot },sku:={ data:=#[(65:UInt8)]:ByteArray },qty:=(5:Int):Entry },{ dot:={ rep:=(0:Int),num:=(2:Int):Dot },sku:={ data:=#[(65:UInt8)]:ByteArray },qty:=(6:Int):Entry }],gone:={ vec:=[(1:Int),(1:Int)],cloud:=[]:Past },recs:=[]:Facts }).1.heard.vec[(0:Nat)]! =(2:Int)) (fun h3=>?_) (fun h3=>?_)
 refine A4 ((↑(ofF { adds:=[{ dot:={ rep:=(0:Int),num:=(1:Int):Dot },sku:={ data:=#[(65:UInt8)]:ByteArray },qty:=(5:Int):Entry },{ dot:={ rep:=(0:Int),num:=(2:Int):Dot },sku:={ data:=#[(65:UInt8)]:ByteArray },qty:=(6:Int):Entry }],gone:={ vec:=[(1:Int),(1:Int)],cloud:=[]:Past },recs:=[]:Facts }).1.live.cloud.length:Int)=1) (fun h4=>?_) (fun h4=>?_)
 refine rG cx [0] [] (tT 1 (A6 h1) (tL 6 c3 ((ofF { adds:=[{ dot:={ rep:=(0:Int),num:=(1:Int):Dot },sku:={ data:=#[(65:UInt8)]:ByteArray },qty:=(5:Int):Entry },{ dot:={ rep:=(0:Int),num:=(2:Int):Dot },sku:={ data:=#[(65:UInt8)]:ByteArray },qty:=(6:Int):Entry }],gone:={ vec:=[(1:Int),(1:Int)],cloud:=[]:Past },recs:=[]:Facts }).1.heard.vec) (tT 7 (A6 h2) (fO ((0:Int)≤(0:Int)) (fP ((List.map c3 (ofF { adds:=[{ dot:={ rep:=(0:Int),num:=(1:Int):Dot },sku:={ data:=#[(65:UInt8)]:ByteArray },qty:=(5:Int):Entry },{ dot:={ rep:=(0:Int),num:=(2:Int):Dot },sku:={ data:=#[(65:UInt8)]:ByteArray },qty:=(6:Int):Entry }],gone:={ vec:=[(1:Int),(1:Int)],cloud:=[]:Past },recs:=[]:Facts }).1.heard.vec)[Int.toNat (0:Int)]?=some (c3 (ofF { adds:=[{ dot:={ rep:=(0:Int),num:=(1:Int):Dot },sku:={ data:=#[(65:UInt8)]:ByteArray },qty:=(5:Int):Entry },{ dot:={ rep:=(0:Int),num:=(2:Int):Dot },sku:={ data:=#[(65:UInt8)]:ByteArray },qty:=(6:Int):Entry }],gone:={ vec:=[(1:Int),(1:Int)],cloud:=[]:Past },recs:=[]:Facts }).1.heard.vec[(0:Nat)]!)) (by exact B87 _ (fun k=>by omega)) (fR 1 (tT 15 (A6 h3) (tL 21 B3 ((ofF { adds:=[{ dot:={ rep:=(0:Int),num:=(1:Int):Dot },sku:={ data:=#[(65:UInt8)]:ByteArray },qty:=(5:Int):Entry },{ dot:={ rep:=(0:Int),num:=(2:Int):Dot },sku:={ data:=#[(65:UInt8)]:ByteArray },qty:=(6:Int):Entry }],gone:={ vec:=[(1:Int),(1:Int)],cloud:=[]:Past },recs:=[]:Facts }).1.live.cloud) (tT 22 (A6 h4) (fO ((0:Int)≤(0:Int)) (fP ((List.map B3 (ofF { adds:=[{ dot:={ rep:=(0:Int),num:=(1:Int):Dot },sku:={ data:=#[(65:UInt8)]:ByteArray },qty:=(5:Int):Entry },{ dot:={ rep:=(0:Int),num:=(2:Int):Dot },sku:={ data:=#[(65:UInt8)]:ByteArray },qty:=(6:Int):Entry }],gone:={ vec:=[(1:Int),(1:Int)],cloud:=[]:Past },recs:=[]:Facts }).1.live.cloud)[Int.toNat (0:Int)]?=some (B3 (ofF { adds:=[{ dot:={ rep:=(0:Int),num:=(1:Int):Dot },sku:={ data:=#[(65:UInt8)]:ByteArray },qty:=(5:Int):Entry },{ dot:={ rep:=(0:Int),num:=(2:Int):Dot },sku:={ data:=#[(65:UInt8)]:ByteArray },qty:=(6:Int):Entry }],gone:={ vec:=[(1:Int),(1:Int)],cloud:=[]:Past },recs:=[]:Facts }).1.live.cloud[(0:Nat)]!)) (by exact B87 _ (fun k=>by omega)) (fR 3 (tB 31 ((ofF { adds:=[{ dot:={ rep:=(0:Int),num:=(1:Int):Dot },sku:={ data:=#[(65:UInt8)]:ByteArray },qty:=(5:Int):Entry },{ dot:={ rep:=(0:Int),num:=(2:Int):Dot },sku:={ data:=#[(65:UInt8)]:ByteArray },qty:=(6:Int):Entry }],gone:={ vec:=[(1:Int),(1:Int)],cloud:=[]:Past },recs:=[]:Facts }).1.live.cloud[(0:Nat)]!.lo=2) (tD 33 (decide ((ofF { adds:=[{ dot:={ rep:=(0:Int),num:=(1:Int):Dot },sku:={ data:=#[(65:UInt8)]:ByteArray },qty:=(5:Int):Entry },{ dot:={ rep:=(0:Int),num:=(2:Int):Dot },sku:={ data:=#[(65:UInt8)]:ByteArray },qty:=(6:Int):Entry }],gone:={ vec:=[(1:Int),(1:Int)],cloud:=[]:Past },recs:=[]:Facts }).1.live.cloud[(0:Nat)]!.lo=2)) ((ofF { adds:=[{ dot:={ rep:=(0:Int),num:=(1:Int):Dot },sku:={ data:=#[(65:UInt8)]:ByteArray },qty:=(5:Int):Entry },{ dot:={ rep:=(0:Int),num:=(2:Int):Dot },sku:={ data:=#[(65:UInt8)]:ByteArray },qty:=(6:Int):Entry }],gone:={ vec:=[(1:Int),(1:Int)],cloud:=[]:Past },recs:=[]:Facts }).2=0∧(↑(ofF { adds:=[{ dot:={ rep:=(0:Int),num:=(1:Int):Dot },sku:={ data:=#[(65:UInt8)]:ByteArray },qty:=(5:Int):Entry },{ dot:={ rep:=(0:Int),num:=(2:Int):Dot },sku:={ data:=#[(65:UInt8)]:ByteArray },qty:=(6:Int):Entry }],gone:={ vec:=[(1:Int),(1:Int)],cloud:=[]:Past },recs:=[]:Facts }).1.heard.vec.length:Int)=2∧(ofF { adds:=[{ dot:={ rep:=(0:Int),num:=(1:Int):Dot },sku:={ data:=#[(65:UInt8)]:ByteArray },qty:=(5:Int):Entry },{ dot:={ rep:=(0:Int),num:=(2:Int):Dot },sku:={ data:=#[(65:UInt8)]:ByteArray },qty:=(6:Int):Entry }],gone:={ vec:=[(1:Int),(1:Int)],cloud:=[]:Past },recs:=[]:Facts }).1.heard.vec[(0:Nat)]! =(2:Int)∧(↑(ofF { adds:=[{ dot:={ rep:=(0:Int),num:=(1:Int):Dot },sku:={ data:=#[(65:UInt8)]:ByteArray },qty:=(5:Int):Entry },{ dot:={ rep:=(0:Int),num:=(2:Int):Dot },sku:={ data:=#[(65:UInt8)]:ByteArray },qty:=(6:Int):Entry }],gone:={ vec:=[(1:Int),(1:Int)],cloud:=[]:Past },recs:=[]:Facts }).1.live.cloud.length:Int)=1∧(ofF { adds:=[{ dot:={ rep:=(0:Int),num:=(1:Int):Dot },sku:={ data:=#[(65:UInt8)]:ByteArray },qty:=(5:Int):Entry },{ dot:={ rep:=(0:Int),num:=(2:Int):Dot },sku:={ data:=#[(65:UInt8)]:ByteArray },qty:=(6:Int):Entry }],gone:={ vec:=[(1:Int),(1:Int)],cloud:=[]:Past },recs:=[]:Facts }).1.live.cloud[(0:Nat)]!.lo=2) (by simp only [eq_true h1,eq_true h2,eq_true h3,eq_true h4,tsl]) (oR 13 (c3 (ofF { adds:=[{ dot:={ rep:=(0:Int),num:=(1:Int):Dot },sku:={ data:=#[(65:UInt8)]:ByteArray },qty:=(5:Int):Entry },{ dot:={ rep:=(0:Int),num:=(2:Int):Dot },sku:={ data:=#[(65:UInt8)]:ByteArray },qty:=(6:Int):Entry }],gone:={ vec:=[(1:Int),(1:Int)],cloud:=[]:Past },recs:=[]:Facts }).1.heard.vec[(0:Nat)]!) (oR 28 (B3 (ofF { adds:=[{ dot:={ rep:=(0:Int),num:=(1:Int):Dot },sku:={ data:=#[(65:UInt8)]:ByteArray },qty:=(5:Int):Entry },{ dot:={ rep:=(0:Int),num:=(2:Int):Dot },sku:={ data:=#[(65:UInt8)]:ByteArray },qty:=(6:Int):Entry }],gone:={ vec:=[(1:Int),(1:Int)],cloud:=[]:Past },recs:=[]:Facts }).1.live.cloud[(0:Nat)]!) z0)))))))))))))))) ?_
 exact⟨rfl,by kernel_rfl⟩
 refine rG cx [0] [] (tT 1 (A6 h1) (tL 6 c3 ((ofF { adds:=[{ dot:={ rep:=(0:Int),num:=(1:Int):Dot },sku:={ data:=#[(65:UInt8)]:ByteArray },qty:=(5:Int):Entry },{ dot:={ rep:=(0:Int),num:=(2:Int):Dot },sku:={ data:=#[(65:UInt8)]:ByteArray },qty:=(6:Int):Entry }],gone:={ vec:=[(1:Int),(1:Int)],cloud:=[]:Past },recs:=[]:Facts }).1.heard.vec) (tT 7 (A6 h2) (fO ((0:Int)≤(0:Int)) (fP ((List.map c3 (ofF { adds:=[{ dot:={ rep:=(0:Int),num:=(1:Int):Dot },sku:={ data:=#[(65:UInt8)]:ByteArray },qty:=(5:Int):Entry },{ dot:={ rep:=(0:Int),num:=(2:Int):Dot },sku:={ data:=#[(65:UInt8)]:ByteArray },qty:=(6:Int):Entry }],gone:={ vec:=[(1:Int),(1:Int)],cloud:=[]:Past },recs:=[]:Facts }).1.heard.vec)[Int.toNat (0:Int)]?=some (c3 (ofF { adds:=[{ dot:={ rep:=(0:Int),num:=(1:Int):Dot },sku:={ data:=#[(65:UInt8)]:ByteArray },qty:=(5:Int):Entry },{ dot:={ rep:=(0:Int),num:=(2:Int):Dot },sku:={ data:=#[(65:UInt8)]:ByteArray },qty:=(6:Int):Entry }],gone:={ vec:=[(1:Int),(1:Int)],cloud:=[]:Past },recs:=[]:Facts }).1.heard.vec[(0:Nat)]!)) (by exact B87 _ (fun k=>by omega)) (fR 1 (tT 15 (A6 h3) (tL 21 B3 ((ofF { adds:=[{ dot:={ rep:=(0:Int),num:=(1:Int):Dot },sku:={ data:=#[(65:UInt8)]:ByteArray },qty:=(5:Int):Entry },{ dot:={ rep:=(0:Int),num:=(2:Int):Dot },sku:={ data:=#[(65:UInt8)]:ByteArray },qty:=(6:Int):Entry }],gone:={ vec:=[(1:Int),(1:Int)],cloud:=[]:Past },recs:=[]:Facts }).1.live.cloud) (tT 22 (A0 h4) (tD 33 false ((ofF { adds:=[{ dot:={ rep:=(0:Int),num:=(1:Int):Dot },sku:={ data:=#[(65:UInt8)]:ByteArray },qty:=(5:Int):Entry },{ dot:={ rep:=(0:Int),num:=(2:Int):Dot },sku:={ data:=#[(65:UInt8)]:ByteArray },qty:=(6:Int):Entry }],gone:={ vec:=[(1:Int),(1:Int)],cloud:=[]:Past },recs:=[]:Facts }).2=0∧(↑(ofF { adds:=[{ dot:={ rep:=(0:Int),num:=(1:Int):Dot },sku:={ data:=#[(65:UInt8)]:ByteArray },qty:=(5:Int):Entry },{ dot:={ rep:=(0:Int),num:=(2:Int):Dot },sku:={ data:=#[(65:UInt8)]:ByteArray },qty:=(6:Int):Entry }],gone:={ vec:=[(1:Int),(1:Int)],cloud:=[]:Past },recs:=[]:Facts }).1.heard.vec.length:Int)=2∧(ofF { adds:=[{ dot:={ rep:=(0:Int),num:=(1:Int):Dot },sku:={ data:=#[(65:UInt8)]:ByteArray },qty:=(5:Int):Entry },{ dot:={ rep:=(0:Int),num:=(2:Int):Dot },sku:={ data:=#[(65:UInt8)]:ByteArray },qty:=(6:Int):Entry }],gone:={ vec:=[(1:Int),(1:Int)],cloud:=[]:Past },recs:=[]:Facts }).1.heard.vec[(0:Nat)]! =(2:Int)∧(↑(ofF { adds:=[{ dot:={ rep:=(0:Int),num:=(1:Int):Dot },sku:={ data:=#[(65:UInt8)]:ByteArray },qty:=(5:Int):Entry },{ dot:={ rep:=(0:Int),num:=(2:Int):Dot },sku:={ data:=#[(65:UInt8)]:ByteArray },qty:=(6:Int):Entry }],gone:={ vec:=[(1:Int),(1:Int)],cloud:=[]:Past },recs:=[]:Facts }).1.live.cloud.length:Int)=1∧(ofF { adds:=[{ dot:={ rep:=(0:Int),num:=(1:Int):Dot },sku:={ data:=#[(65:UInt8)]:ByteArray },qty:=(5:Int):Entry },{ dot:={ rep:=(0:Int),num:=(2:Int):Dot },sku:={ data:=#[(65:UInt8)]:ByteArray },qty:=(6:Int):Entry }],gone:={ vec:=[(1:Int),(1:Int)],cloud:=[]:Past },recs:=[]:Facts }).1.live.cloud[(0:Nat)]!.lo=2) (by simp only [eq_true h1,eq_true h2,eq_true h3,eq_false h4,tsl]) (oR 13 (c3 (ofF { adds:=[{ dot:={ rep:=(0:Int),num:=(1:Int):Dot },sku:={ data:=#[(65:UInt8)]:ByteArray },qty:=(5:Int):Entry },{ dot:={ rep:=(0:Int),num:=(2:Int):Dot },sku:={ data:=#[(65:UInt8)]:ByteArray },qty:=(6:Int):Entry }],gone:={ vec:=[(1:Int),(1:Int)],cloud:=[]:Past },recs:=[]:Facts }).1.heard.vec[(0:Nat)]!) z0))))))))))) ?_
 exact⟨rfl,by kernel_rfl⟩
 refine rG cx [0] [] (tT 1 (A6 h1) (tL 6 c3 ((ofF { adds:=[{ dot:={ rep:=(0:Int),num:=(1:Int):Dot },sku:={ data:=#[(65:UInt8)]:ByteArray },qty:=(5:Int):Entry },{ dot:={ rep:=(0:Int),num:=(2:Int):Dot },sku:={ data:=#[(65:UInt8)]:ByteArray },qty:=(6:Int):Entry }],gone:={ vec:=[(1:Int),(1:Int)],cloud:=[]:Past },recs:=[]:Facts }).1.heard.vec) (tT 7 (A6 h2) (fO ((0:Int)≤(0:Int)) (fP ((List.map c3 (ofF { adds:=[{ dot:={ rep:=(0:Int),num:=(1:Int):Dot },sku:={ data:=#[(65:UInt8)]:ByteArray },qty:=(5:Int):Entry },{ dot:={ rep:=(0:Int),num:=(2:Int):Dot },sku:={ data:=#[(65:UInt8)]:ByteArray },qty:=(6:Int):Entry }],gone:={ vec:=[(1:Int),(1:Int)],cloud:=[]:Past },recs:=[]:Facts }).1.heard.vec)[Int.toNat (0:Int)]?=some (c3 (ofF { adds:=[{ dot:={ rep:=(0:Int),num:=(1:Int):Dot },sku:={ data:=#[(65:UInt8)]:ByteArray },qty:=(5:Int):Entry },{ dot:={ rep:=(0:Int),num:=(2:Int):Dot },sku:={ data:=#[(65:UInt8)]:ByteArray },qty:=(6:Int):Entry }],gone:={ vec:=[(1:Int),(1:Int)],cloud:=[]:Past },recs:=[]:Facts }).1.heard.vec[(0:Nat)]!)) (by exact B87 _ (fun k=>by omega)) (fR 1 (tT 15 (A0 h3) (tD 33 false ((ofF { adds:=[{ dot:={ rep:=(0:Int),num:=(1:Int):Dot },sku:={ data:=#[(65:UInt8)]:ByteArray },qty:=(5:Int):Entry },{ dot:={ rep:=(0:Int),num:=(2:Int):Dot },sku:={ data:=#[(65:UInt8)]:ByteArray },qty:=(6:Int):Entry }],gone:={ vec:=[(1:Int),(1:Int)],cloud:=[]:Past },recs:=[]:Facts }).2=0∧(↑(ofF { adds:=[{ dot:={ rep:=(0:Int),num:=(1:Int):Dot },sku:={ data:=#[(65:UInt8)]:ByteArray },qty:=(5:Int):Entry },{ dot:={ rep:=(0:Int),num:=(2:Int):Dot },sku:={ data:=#[(65:UInt8)]:ByteArray },qty:=(6:Int):Entry }],gone:={ vec:=[(1:Int),(1:Int)],cloud:=[]:Past },recs:=[]:Facts }).1.heard.vec.length:Int)=2∧(ofF { adds:=[{ dot:={ rep:=(0:Int),num:=(1:Int):Dot },sku:={ data:=#[(65:UInt8)]:ByteArray },qty:=(5:Int):Entry },{ dot:={ rep:=(0:Int),num:=(2:Int):Dot },sku:={ data:=#[(65:UInt8)]:ByteArray },qty:=(6:Int):Entry }],gone:={ vec:=[(1:Int),(1:Int)],cloud:=[]:Past },recs:=[]:Facts }).1.heard.vec[(0:Nat)]! =(2:Int)∧(↑(ofF { adds:=[{ dot:={ rep:=(0:Int),num:=(1:Int):Dot },sku:={ data:=#[(65:UInt8)]:ByteArray },qty:=(5:Int):Entry },{ dot:={ rep:=(0:Int),num:=(2:Int):Dot },sku:={ data:=#[(65:UInt8)]:ByteArray },qty:=(6:Int):Entry }],gone:={ vec:=[(1:Int),(1:Int)],cloud:=[]:Past },recs:=[]:Facts }).1.live.cloud.length:Int)=1∧(ofF { adds:=[{ dot:={ rep:=(0:Int),num:=(1:Int):Dot },sku:={ data:=#[(65:UInt8)]:ByteArray },qty:=(5:Int):Entry },{ dot:={ rep:=(0:Int),num:=(2:Int):Dot },sku:={ data:=#[(65:UInt8)]:ByteArray },qty:=(6:Int):Entry }],gone:={ vec:=[(1:Int),(1:Int)],cloud:=[]:Past },recs:=[]:Facts }).1.live.cloud[(0:Nat)]!.lo=2) (by simp only [eq_true h1,eq_true h2,eq_false h3,tsl]) (oR 13 (c3 (ofF { adds:=[{ dot:={ rep:=(0:Int),num:=(1:Int):Dot },sku:={ data:=#[(65:UInt8)]:ByteArray },qty:=(5:Int):Entry },{ dot:={ rep:=(0:Int),num:=(2:Int):Dot },sku:={ data:=#[(65:UInt8)]:ByteArray },qty:=(6:Int):Entry }],gone:={ vec:=[(1:Int),(1:Int)],cloud:=[]:Past },recs:=[]:Facts }).1.heard.vec[(0:Nat)]!) z0))))))))) ?_
 exact⟨rfl,by kernel_rfl⟩
 refine rG cx [0] [] (tT 1 (A6 h1) (tL 6 c3 ((ofF { adds:=[{ dot:={ rep:=(0:Int),num:=(1:Int):Dot },sku:={ data:=#[(65:UInt8)]:ByteArray },qty:=(5:Int):Entry },{ dot:={ rep:=(0:Int),num:=(2:Int):Dot },sku:={ data:=#[(65:UInt8)]:ByteArray },qty:=(6:Int):Entry }],gone:={ vec:=[(1:Int),(1:Int)],cloud:=[]:Past },recs:=[]:Facts }).1.heard.vec) (tT 7 (A0 h2) (tD 33 false ((ofF { adds:=[{ dot:={ rep:=(0:Int),num:=(1:Int):Dot },sku:={ data:=#[(65:UInt8)]:ByteArray },qty:=(5:Int):Entry },{ dot:={ rep:=(0:Int),num:=(2:Int):Dot },sku:={ data:=#[(65:UInt8)]:ByteArray },qty:=(6:Int):Entry }],gone:={ vec:=[(1:Int),(1:Int)],cloud:=[]:Past },recs:=[]:Facts }).2=0∧(↑(ofF { adds:=[{ dot:={ rep:=(0:Int),num:=(1:Int):Dot },sku:={ data:=#[(65:UInt8)]:ByteArray },qty:=(5:Int):Entry },{ dot:={ rep:=(0:Int),num:=(2:Int):Dot },sku:={ data:=#[(65:UInt8)]:ByteArray },qty:=(6:Int):Entry }],gone:={ vec:=[(1:Int),(1:Int)],cloud:=[]:Past },recs:=[]:Facts }).1.heard.vec.length:Int)=2∧(ofF { adds:=[{ dot:={ rep:=(0:Int),num:=(1:Int):Dot },sku:={ data:=#[(65:UInt8)]:ByteArray },qty:=(5:Int):Entry },{ dot:={ rep:=(0:Int),num:=(2:Int):Dot },sku:={ data:=#[(65:UInt8)]:ByteArray },qty:=(6:Int):Entry }],gone:={ vec:=[(1:Int),(1:Int)],cloud:=[]:Past },recs:=[]:Facts }).1.heard.vec[(0:Nat)]! =(2:Int)∧(↑(ofF { adds:=[{ dot:={ rep:=(0:Int),num:=(1:Int):Dot },sku:={ data:=#[(65:UInt8)]:ByteArray },qty:=(5:Int):Entry },{ dot:={ rep:=(0:Int),num:=(2:Int):Dot },sku:={ data:=#[(65:UInt8)]:ByteArray },qty:=(6:Int):Entry }],gone:={ vec:=[(1:Int),(1:Int)],cloud:=[]:Past },recs:=[]:Facts }).1.live.cloud.length:Int)=1∧(ofF { adds:=[{ dot:={ rep:=(0:Int),num:=(1:Int):Dot },sku:={ data:=#[(65:UInt8)]:ByteArray },qty:=(5:Int):Entry },{ dot:={ rep:=(0:Int),num:=(2:Int):Dot },sku:={ data:=#[(65:UInt8)]:ByteArray },qty:=(6:Int):Entry }],gone:={ vec:=[(1:Int),(1:Int)],cloud:=[]:Past },recs:=[]:Facts }).1.live.cloud[(0:Nat)]!.lo=2) (by simp only [eq_true h1,eq_false h2,tsl]) z0)))) ?_
 exact⟨rfl,by kernel_rfl⟩
 refine rG cx [0] [] (tT 1 (A0 h1) (tD 33 false ((ofF { adds:=[{ dot:={ rep:=(0:Int),num:=(1:Int):Dot },sku:={ data:=#[(65:UInt8)]:ByteArray },qty:=(5:Int):Entry },{ dot:={ rep:=(0:Int),num:=(2:Int):Dot },sku:={ data:=#[(65:UInt8)]:ByteArray },qty:=(6:Int):Entry }],gone:={ vec:=[(1:Int),(1:Int)],cloud:=[]:Past },recs:=[]:Facts }).2=0∧(↑(ofF { adds:=[{ dot:={ rep:=(0:Int),num:=(1:Int):Dot },sku:={ data:=#[(65:UInt8)]:ByteArray },qty:=(5:Int):Entry },{ dot:={ rep:=(0:Int),num:=(2:Int):Dot },sku:={ data:=#[(65:UInt8)]:ByteArray },qty:=(6:Int):Entry }],gone:={ vec:=[(1:Int),(1:Int)],cloud:=[]:Past },recs:=[]:Facts }).1.heard.vec.length:Int)=2∧(ofF { adds:=[{ dot:={ rep:=(0:Int),num:=(1:Int):Dot },sku:={ data:=#[(65:UInt8)]:ByteArray },qty:=(5:Int):Entry },{ dot:={ rep:=(0:Int),num:=(2:Int):Dot },sku:={ data:=#[(65:UInt8)]:ByteArray },qty:=(6:Int):Entry }],gone:={ vec:=[(1:Int),(1:Int)],cloud:=[]:Past },recs:=[]:Facts }).1.heard.vec[(0:Nat)]! =(2:Int)∧(↑(ofF { adds:=[{ dot:={ rep:=(0:Int),num:=(1:Int):Dot },sku:={ data:=#[(65:UInt8)]:ByteArray },qty:=(5:Int):Entry },{ dot:={ rep:=(0:Int),num:=(2:Int):Dot },sku:={ data:=#[(65:UInt8)]:ByteArray },qty:=(6:Int):Entry }],gone:={ vec:=[(1:Int),(1:Int)],cloud:=[]:Past },recs:=[]:Facts }).1.live.cloud.length:Int)=1∧(ofF { adds:=[{ dot:={ rep:=(0:Int),num:=(1:Int):Dot },sku:={ data:=#[(65:UInt8)]:ByteArray },qty:=(5:Int):Entry },{ dot:={ rep:=(0:Int),num:=(2:Int):Dot },sku:={ data:=#[(65:UInt8)]:ByteArray },qty:=(6:Int):Entry }],gone:={ vec:=[(1:Int),(1:Int)],cloud:=[]:Past },recs:=[]:Facts }).1.live.cloud[(0:Nat)]!.lo=2) (by simp only [eq_false h1,tsl]) z0)) ?_
 exact⟨rfl,by kernel_rfl⟩
 refine sn<|rT<|qR (.b (decide ((ofF { adds:=[{ dot:={ rep:=(0:Int),num:=(1:Int):Dot },sku:={ data:=#[(65:UInt8)]:ByteArray },qty:=(5:Int):Entry },{ dot:={ rep:=(0:Int),num:=(2:Int):Dot },sku:={ data:=#[(65:UInt8)]:ByteArray },qty:=(6:Int):Entry }],gone:={ vec:=[(1:Int),(1:Int)],cloud:=[]:Past },recs:=[]:Facts }).2=0∧(↑(ofF { adds:=[{ dot:={ rep:=(0:Int),num:=(1:Int):Dot },sku:={ data:=#[(65:UInt8)]:ByteArray },qty:=(5:Int):Entry },{ dot:={ rep:=(0:Int),num:=(2:Int):Dot },sku:={ data:=#[(65:UInt8)]:ByteArray },qty:=(6:Int):Entry }],gone:={ vec:=[(1:Int),(1:Int)],cloud:=[]:Past },recs:=[]:Facts }).1.heard.vec.length:Int)=2∧(ofF { adds:=[{ dot:={ rep:=(0:Int),num:=(1:Int):Dot },sku:={ data:=#[(65:UInt8)]:ByteArray },qty:=(5:Int):Entry },{ dot:={ rep:=(0:Int),num:=(2:Int):Dot },sku:={ data:=#[(65:UInt8)]:ByteArray },qty:=(6:Int):Entry }],gone:={ vec:=[(1:Int),(1:Int)],cloud:=[]:Past },recs:=[]:Facts }).1.heard.vec[(0:Nat)]! =(2:Int)∧(↑(ofF { adds:=[{ dot:={ rep:=(0:Int),num:=(1:Int):Dot },sku:={ data:=#[(65:UInt8)]:ByteArray },qty:=(5:Int):Entry },{ dot:={ rep:=(0:Int),num:=(2:Int):Dot },sku:={ data:=#[(65:UInt8)]:ByteArray },qty:=(6:Int):Entry }],gone:={ vec:=[(1:Int),(1:Int)],cloud:=[]:Past },recs:=[]:Facts }).1.live.cloud.length:Int)=1∧(ofF { adds:=[{ dot:={ rep:=(0:Int),num:=(1:Int):Dot },sku:={ data:=#[(65:UInt8)]:ByteArray },qty:=(5:Int):Entry },{ dot:={ rep:=(0:Int),num:=(2:Int):Dot },sku:={ data:=#[(65:UInt8)]:ByteArray },qty:=(6:Int):Entry }],gone:={ vec:=[(1:Int),(1:Int)],cloud:=[]:Past },recs:=[]:Facts }).1.live.cloud[(0:Nat)]!.lo=2))) (.eq ?g5);rotate_left
 case g5 =>
  show AV.b (decide ((ofF kFx).2=0∧((ofF kFx).1.heard.vec.length:Int)=2∧(ofF kFx).1.heard.vec[0]! = 2∧((ofF kFx).1.live.cloud.length:Int)=1∧(ofF kFx).1.live.cloud[0]!.lo=2))=AV.b true
  rw[kFx_of]
  rfl
end Go.Proofs.YtokhjapfekbobaaGreat
namespace Go.Proofs.YtokhjapfekbobaaGreat
open Go.E
set_option maxRecDepth 100000
set_option maxHeartbeats 4000000
noncomputable def B0k(B:Facts)(e:Entry):Bool:=decide (e∈B.adds) || !C8 B.gone e.dot
noncomputable def mrgK(A B:Facts):List Entry:=(G0 (A.adds.filter (B0k B)) (B.adds.filter (B0k A))).1
noncomputable def jnS(A B:Facts):Facts:=⟨(mrgK A B).filter (fun e=>decide (H4 (A2b (A.recs++B.recs)) e=0)),C3 [A.gone,B.gone],I2 (A2b (A.recs++B.recs)) (C3 [A.gone,B.gone])⟩
theorem B9q{B:Facts}{e:Entry}:B0k B e=true↔e∈B.adds∨¬ C8 B.gone e.dot=true:=by
 unfold B0k
 rw[Bool.or_eq_true,decide_eq_true_iff,Bool.not_eq_true',Bool.not_eq_true]
theorem A09{a a' b b':List Entry}(h:P0 a b)(ha:∀ e∈a',e∈a)(hb:∀ e∈b',e∈b):P0 a' b':=fun x hx y hy hd=>h x (ha x hx) y (hb y hy) hd
theorem B8a{A B:Facts}(ha:A05 A.adds)(hb:A05 B.adds)(h:P0 A.adds B.adds):A05 (mrgK A B)∧∀ e,e∈mrgK A B↔(e∈A.adds∧(e∈B.adds∨¬ C8 B.gone e.dot=true))∨(e∈B.adds∧(e∈A.adds∨¬ C8 A.gone e.dot=true)):=by
 obtain⟨l,e1,e2,e3⟩:=Ah0 (M2 ha (List.filter_sublist (p:=B0k B))) (M2 hb (List.filter_sublist (p:=B0k A))) (A09 h (fun e he=>(List.mem_filter.1 he).1) fun e he=>(List.mem_filter.1 he).1)
 unfold mrgK
 rw[e1]
 refine⟨e2,fun e=>?_⟩
 rw[e3,List.mem_filter,List.mem_filter,B9q,B9q]
theorem A9h{A B:Facts}(ha:okF A=true)(hb:okF B=true)(h:P0 A.adds B.adds):okF (jnS A B)=true ∧
  (∀ e,e∈(jnS A B).adds↔((e∈A.adds∧(e∈B.adds∨¬ C8 B.gone e.dot=true))∨(e∈B.adds∧(e∈A.adds∨¬ C8 A.gone e.dot=true)))∧H4 (A2b (A.recs++B.recs)) e=0) ∧
  (∀ d,C8 (jnS A B).gone d=(C8 A.gone d || C8 B.gone d)) ∧
  (∀ r,r∈(jnS A B).recs↔(r∈A.recs∨r∈B.recs)∧¬ B8 (B1 r.past (C3 [A.gone,B.gone]))=0):=by
 obtain⟨a1,a2,a3⟩:=D7.1 ha
 obtain⟨b1,b2,b3⟩:=D7.1 hb
 obtain⟨m1,m2⟩:=B8a a1 b1 h
 have rf:Az5 (A2b (A.recs++B.recs)):=(G8 _).1 (A79 ((G8 _).2 a3) ((G8 _).2 b3))
 have rm:=Y5 (A2n ((G8 _).2 a3) ((G8 _).2 b3))
 refine⟨D7.2 ⟨M2 m1 List.filter_sublist,R4 _,W5 rf⟩,fun e=>?_,fun d=>?_,fun r=>?_⟩
 ·show e∈(mrgK A B).filter _↔_
  rw[List.mem_filter,m2,decide_eq_true_iff]
 ·show C8 (C3 [A.gone,B.gone]) d=_
  rw[Q0]
  simp
 ·show r∈I2 (A2b (A.recs++B.recs)) (C3 [A.gone,B.gone])↔_
  unfold I2
  rw[List.mem_filter,rm,List.mem_append,decide_eq_true_iff]
theorem B8b{a b:List Record}{e:Entry}(ha:E2 a=0)(hb:E2 b=0):H4 (A2b (a++b)) e=0↔H4 a e=0∧H4 b e=0:=by
 rw[J7,J7,J7]
 have rm:=Y5 (A2n ha hb)
 constructor
 ·intro h
  exact⟨fun⟨r,hr,k⟩=>h ⟨r,(rm r).2 (List.mem_append.2 (.inl hr)),k⟩,fun⟨r,hr,k⟩=>h ⟨r,(rm r).2 (List.mem_append.2 (.inr hr)),k⟩⟩
 ·rintro⟨h1,h2⟩ ⟨r,hr,k⟩
  rcases List.mem_append.1 ((rm r).1 hr)with hr | hr
  ·exact h1 ⟨r,hr,k⟩
  ·exact h2 ⟨r,hr,k⟩
theorem S6{f:Facts}(h:okF f=true)(d:Dot):C8 (B7 f) d=true↔(∃ e∈f.adds,e.dot=d)∨C8 f.gone d=true:=by
 rw[A08,Bool.or_eq_true,J3 (D7.1 h).1]
theorem Aw5{f:Facts}{e:Entry}(hn:¬ C8 (B7 f) e.dot=true)(h:H4 (I2 f.recs (B7 f)) e=0):H4 f.recs e=0:=by
 rw[J7]at *
 rintro⟨r,hr,k⟩
 refine h ⟨r,List.mem_filter.2 ⟨hr,decide_eq_true fun z=>?_⟩,k⟩
 exact hn (O7.1 z _ (A1f.1 k).2)
theorem A43{a b:Facts}(h:agF a b):stF (J9 a b)=jnS (stF a) (stF b):=by
 obtain⟨ha,hb,hag⟩:=h
 obtain⟨_,j1,j2,j3,j4⟩:=L0 ⟨ha,hb,hag⟩
 have fa:=D7.1 ha
 have fb:=D7.1 hb
 have sa:=A38 (A6h ha)
 have sb:=A38 (A6h hb)
 have ag2:P0 (stF a).adds (stF b).adds:=A09 hag (fun e he=>U4 he) fun e he=>U4 he
 obtain⟨k1,k2,k3,k4⟩:=A9h sa sb ag2
 have ra:=(G8 _).2 (W5 (p:=B7 a) fa.2.2)
 have rb:=(G8 _).2 (W5 (p:=B7 b) fb.2.2)
 have hh:∀ d,C8 (B7 (J9 a b)) d=true↔C8 (B7 a) d=true∨C8 (B7 b) d=true:=fun d=>by
  rw[S6 j1,S6 ha,S6 hb,j3,Bool.or_eq_true]
  constructor
  ·rintro(⟨e,he,hd⟩ | h | h)
   ·rcases(j2 e).1 he with he | he
    ·exact .inl (.inl ⟨e,he,hd⟩)
    ·exact .inr (.inl ⟨e,he,hd⟩)
   ·exact .inl (.inr h)
   ·exact .inr (.inr h)
  ·rintro((⟨e,he,hd⟩ | h) | (⟨e,he,hd⟩ | h))
   ·exact .inl ⟨e,(j2 e).2 (.inl he),hd⟩
   ·exact .inr (.inl h)
   ·exact .inl ⟨e,(j2 e).2 (.inr he),hd⟩
   ·exact .inr (.inr h)
 have barJ:∀ e,H4 (J9 a b).recs e=0↔H4 a.recs e=0∧H4 b.recs e=0:=fun e=>by
  rw[J7,J7,J7]
  constructor
  ·intro h
   exact⟨fun⟨r,hr,k⟩=>h ⟨r,(j4 r).2 (.inl hr),k⟩,fun⟨r,hr,k⟩=>h ⟨r,(j4 r).2 (.inr hr),k⟩⟩
  ·rintro⟨h1,h2⟩ ⟨r,hr,k⟩
   rcases(j4 r).1 hr with hr | hr
   ·exact h1 ⟨r,hr,k⟩
   ·exact h2 ⟨r,hr,k⟩
 have waitJ:∀ r:Record,B8 (B1 r.past (B7 (J9 a b)))=0↔B8 (B1 r.past (C3 [B7 a,B7 b]))=0:=fun r=>by
  rw[O7,O7]
  have q:∀ d,C8 (C3 [B7 a,B7 b]) d=true↔C8 (B7 a) d=true∨C8 (B7 b) d=true:=fun d=>by rw[Q0];simp
  exact⟨fun z d hd=>(q d).2 ((hh d).1 (z d hd)),fun z d hd=>(hh d).2 ((q d).1 (z d hd))⟩
 refine B81 (A38 (A6h j1)) k1 (fun e=>?_) (fun d=>?_) fun r=>?_
 ·rw[k2]
  show e∈I3 (J9 a b)↔((e∈I3 a∧(e∈I3 b∨¬ C8 (B7 b) e.dot=true))∨(e∈I3 b∧(e∈I3 a∨¬ C8 (B7 a) e.dot=true)))∧H4 (A2b (I2 a.recs (B7 a)++I2 b.recs (B7 b))) e=0
  rw[B8b ra rb,A0s,A0s,A0s,j2,j3,barJ,Bool.or_eq_false_iff]
  constructor
  ·rintro⟨h1,⟨h2,h3⟩,h4,h5⟩
   refine⟨?_,A40 h4,A40 h5⟩
   have inB:C8 (B7 b) e.dot=true→e∈a.adds→e∈b.adds:=fun z m=>by
    rcases(S6 hb _).1 z with⟨x,hx,hd⟩ | z
    ·rw[hag e m x hx hd.symm];exact hx
    ·rw[h3]at z;cases z
   have inA:C8 (B7 a) e.dot=true→e∈b.adds→e∈a.adds:=fun z m=>by
    rcases(S6 ha _).1 z with⟨x,hx,hd⟩ | z
    ·rw[← hag x hx e m hd];exact hx
    ·rw[h2]at z;cases z
   by_cases ma:e∈a.adds
   ·refine .inl ⟨⟨ma,h2,h4⟩,?_⟩
    by_cases z:C8 (B7 b) e.dot=true
    ·exact .inl ⟨inB z ma,h3,h5⟩
    ·exact .inr z
   ·have mb:=h1.resolve_left ma
    exact .inr ⟨⟨mb,h3,h5⟩,.inr fun z=>ma (inA z mb)⟩
  ·rintro⟨h,w1,w2⟩
   have noB:¬ C8 (B7 b) e.dot=true→C8 b.gone e.dot=false∧H4 b.recs e=0:=fun z =>
    ⟨Bool.eq_false_iff.2 fun q=>z ((S6 hb _).2 (.inr q)),Aw5 z w2⟩
   have noA:¬ C8 (B7 a) e.dot=true→C8 a.gone e.dot=false∧H4 a.recs e=0:=fun z =>
    ⟨Bool.eq_false_iff.2 fun q=>z ((S6 ha _).2 (.inr q)),Aw5 z w1⟩
   rcases h with⟨⟨m,p,q⟩,z | z⟩ | ⟨⟨m,p,q⟩,z | z⟩
   ·exact⟨.inl m,⟨p,z.2.1⟩,q,z.2.2⟩
   ·exact⟨.inl m,⟨p,(noB z).1⟩,q,(noB z).2⟩
   ·exact⟨.inr m,⟨z.2.1,p⟩,z.2.2,q⟩
   ·exact⟨.inr m,⟨(noA z).1,p⟩,(noA z).2,q⟩
 ·rw[k3]
  show C8 (B7 (J9 a b)) d=(C8 (B7 a) d || C8 (B7 b) d)
  rw[Bool.eq_iff_iff,hh,Bool.or_eq_true]
 ·rw[k4]
  show r∈I2 (J9 a b).recs (B7 (J9 a b))↔(r∈I2 a.recs (B7 a)∨r∈I2 b.recs (B7 b))∧¬ B8 (B1 r.past (C3 [B7 a,B7 b]))=0
  unfold I2
  rw[List.mem_filter,List.mem_filter,List.mem_filter,j4,decide_eq_true_iff,decide_eq_true_iff,decide_eq_true_iff,waitJ]
  have upA:¬ B8 (B1 r.past (C3 [B7 a,B7 b]))=0→¬ B8 (B1 r.past (B7 a))=0:=fun z q=>z (O7.2 fun d hd=>by rw[Q0];simp [O7.1 q d hd])
  have upB:¬ B8 (B1 r.past (C3 [B7 a,B7 b]))=0→¬ B8 (B1 r.past (B7 b))=0:=fun z q=>z (O7.2 fun d hd=>by rw[Q0];simp [O7.1 q d hd])
  constructor
  ·rintro⟨h | h,z⟩
   ·exact⟨.inl ⟨h,upA z⟩,z⟩
   ·exact⟨.inr ⟨h,upB z⟩,z⟩
  ·rintro⟨h | h,z⟩
   ·exact⟨.inl h.1,z⟩
   ·exact⟨.inr h.1,z⟩
theorem B8c{a:Facts}(h:okF a=true):agF a a:=⟨h,h,fun x hx y hy hd=>A06 (D7.1 h).1 hx hy hd⟩
theorem B8d{a b c:Facts}(h:agF a b)(h1:agF a c)(h2:agF b c):agF (J9 a b) c :=
 ⟨(L0 h).2.1,h1.2.1,fun x hx y hy hd=>(((L0 h).2.2.1 x).1 hx).elim (fun k=>h1.2.2 x k y hy hd) (fun k=>h2.2.2 x k y hy hd)⟩
theorem A7i{a b:Facts}(h:agF a b):J9 a b=J9 b a:=by
 obtain⟨_,o1,p1,q1,r1⟩:=L0 h
 obtain⟨_,o2,p2,q2,r2⟩:=L0 h.symm
 exact B81 o1 o2 (fun e=>by rw[p1,p2,or_comm]) (fun d=>by rw[q1,q2,Bool.or_comm]) (fun r=>by rw[r1,r2,or_comm])
theorem Ao2{a b:Facts}(h:agF a b):agF (J9 a b) a∧J9 (J9 a b) a=J9 a b:=by
 have g:=B8d h (B8c h.1) h.symm
 obtain⟨_,o1,p1,q1,r1⟩:=L0 h
 obtain⟨_,o2,p2,q2,r2⟩:=L0 g
 refine⟨g,B81 o2 o1 (fun e=>?_) (fun d=>?_) (fun r=>?_)⟩
 ·rw[p2,p1];exact⟨fun k=>k.elim id .inl,.inl⟩
 ·rw[q2,q1];cases C8 a.gone d <;> cases C8 b.gone d <;> rfl
 ·rw[r2,r1];exact⟨fun k=>k.elim id .inl,.inl⟩
theorem ag_st{a b:Facts}(h:agF a b):P0 (stF a).adds (stF b).adds:=A09 h.2.2 (fun e he=>U4 he) fun e he=>U4 he
theorem heal_S{O S:Facts}(ho:okS O=true)(hs:okS S=true)(ag:P0 O.adds S.adds):P0 O.adds (A5y S ⟨O.gone,E7 O.adds⟩).adds∧jnS O (A5y S ⟨O.gone,E7 O.adds⟩)=jnS O S:=by
 have oo:=Y7.1 ho
 have ss:=Y7.1 hs
 have fo:=D7.1 oo.1
 have fs:=D7.1 ss.1
 have lf:=B0j (d:=⟨O.gone,E7 O.adds⟩) hs
 have la:∀ e,e∈(A5y S ⟨O.gone,E7 O.adds⟩).adds↔e∈S.adds∧¬ C8 O.gone e.dot=true:=fun e=>by
  show e∈B4d S.adds ⟨O.gone,E7 O.adds⟩↔_
  unfold B4d
  rw[List.mem_filter]
  show e∈S.adds∧(C8 O.gone e.dot == false)=true↔_
  cases C8 O.gone e.dot <;> simp
 have lg:∀ d,C8 (A5y S ⟨O.gone,E7 O.adds⟩).gone d=true↔(∃ e∈S.adds,¬ C8 O.gone e.dot=true∧e.dot=d)∨((C8 S.gone d=true∧¬ ∃ e∈S.adds,e.dot=d)∧(¬ C8 O.gone d=true∨∃ e∈O.adds,e.dot=d)):=fun d=>by
  show C8 (C3 [E7 (B4d S.adds ⟨O.gone,E7 O.adds⟩),Aw2 S.gone (E7 S.adds) ⟨O.gone,E7 O.adds⟩]) d=true↔_
  rw[Q0]
  simp only [List.any_cons,List.any_nil,Bool.or_false,Bool.or_eq_true]
  rw[An8,J3 (es:=B4d S.adds ⟨O.gone,E7 O.adds⟩) (M2 fs.1 List.filter_sublist)]
  simp only [Bool.and_eq_true,Bool.or_eq_true,Bool.not_eq_true',← Bool.not_eq_true]
  rw[J3 fs.1,J3 fo.1]
  constructor
  ·rintro(⟨e,he,hd⟩ | h)
   ·exact .inl ⟨e,((la e).1 he).1,((la e).1 he).2,hd⟩
   ·exact .inr h
  ·rintro(⟨e,he,hn,hd⟩ | h)
   ·exact .inl ⟨e,(la e).2 ⟨he,hn⟩,hd⟩
   ·exact .inr h
 have ag2:P0 O.adds (A5y S ⟨O.gone,E7 O.adds⟩).adds:=A09 ag (fun e he=>he) fun e he=>((la e).1 he).1
 refine⟨ag2,?_⟩
 obtain⟨p1,p2,p3,p4⟩:=A9h oo.1 lf ag2
 obtain⟨q1,q2,q3,q4⟩:=A9h oo.1 ss.1 ag
 have lr:(A5y S ⟨O.gone,E7 O.adds⟩).recs=S.recs:=rfl
 have hg:∀ d,C8 (jnS O (A5y S ⟨O.gone,E7 O.adds⟩)).gone d=C8 (jnS O S).gone d:=fun d=>by
  rw[p3,q3,Bool.eq_iff_iff,Bool.or_eq_true,Bool.or_eq_true,lg]
  constructor
  ·rintro(h | ⟨e,he,_,hd⟩ | ⟨⟨h,_⟩,_⟩)
   ·exact .inl h
   ·rw[← hd];exact .inr (ss.2.1 e he)
   ·exact .inr h
  ·rintro(h | h)
   ·exact .inl h
   ·by_cases c:C8 O.gone d=true
    ·exact .inl c
    ·by_cases z:∃ e∈S.adds,e.dot=d
     ·obtain⟨e,he,hd⟩:=z
      exact .inr (.inl ⟨e,he,by rw[hd];exact c,hd⟩)
     ·exact .inr (.inr ⟨⟨h,z⟩,.inl c⟩)
 refine B81 p1 q1 (fun e=>?_) hg fun r=>?_
 ·rw[p2,q2,la,lg,lr]
  refine and_congr_left fun _=>?_
  constructor
  ·rintro(⟨h,k | k⟩ | ⟨⟨h,k⟩,_⟩)
   ·exact absurd (oo.2.1 e h) k.2
   ·refine .inl ⟨h,?_⟩
    by_cases z:e∈S.adds
    ·exact .inl z
    ·refine .inr fun w=>k (.inr ⟨⟨w,fun⟨x,hx,hd⟩=>z ?_⟩,.inr ⟨e,h,rfl⟩⟩)
     rw[ag e h x hx hd.symm];exact hx
   ·exact .inr ⟨h,.inr k⟩
  ·rintro(⟨h,k⟩ | ⟨h,k⟩)
   ·refine .inl ⟨h,.inr ?_⟩
    rintro(⟨x,hx,hn,hd⟩ | ⟨⟨w,n⟩,_⟩)
    ·rw[hd]at hn;exact hn (oo.2.1 e h)
    ·rcases k with k | k
     ·exact n ⟨e,k,rfl⟩
     ·exact k w
   ·by_cases z:C8 O.gone e.dot=true
    ·have m:=k.resolve_right fun q=>q z
     refine .inl ⟨m,.inr ?_⟩
     rintro(⟨x,hx,hn,hd⟩ | ⟨⟨w,n⟩,_⟩)
     ·rw[hd]at hn;exact hn z
     ·exact n ⟨e,h,rfl⟩
    ·exact .inr ⟨⟨h,z⟩,.inr z⟩
 ·rw[p4,q4,lr]
  refine and_congr_right fun _=>?_
  have e1:C3 [O.gone,(A5y S ⟨O.gone,E7 O.adds⟩).gone]=C3 [O.gone,S.gone]:=A8j (R4 _) (R4 _) hg
  rw[e1]
theorem B9r{o f:Facts}(h:agF o f):agF o (Z0 f ⟨B7 o,E7 (I3 o)⟩)∧stF (J9 o (Z0 f ⟨B7 o,E7 (I3 o)⟩))=stF (J9 o f):=by
 have g:agF o (Z0 f ⟨B7 o,E7 (I3 o)⟩):=⟨h.1,An9 h.2.1,A09 h.2.2 (fun e he=>he) fun e he=>U4 (List.mem_filter.1 he).1⟩
 refine⟨g,?_⟩
 rw[A43 g,A43 h,B4e h.2.1]
 exact(heal_S (A6h h.1) (A6h h.2.1) (ag_st h)).2
end Go.Proofs.YtokhjapfekbobaaGreat
namespace Go.Proofs.YtokhjapfekbobaaGreat
open Go.E
set_option maxRecDepth 100000
set_option maxHeartbeats 4000000
theorem st_szB{f:Facts}{n:Nat}(h:szB n f)(k:okF f=true):szB n (stF f) :=
 ⟨Ah2 (A38 (A6h k)),Nat.le_trans (Ao1 f.recs (B7 f)) h.2.1,Nat.le_trans (A9c (List.filter_sublist (l:=f.recs))) h.2.2⟩
theorem pic_of{f:Facts}(h:okF f=true):ofS (stF f)=ofF f:=by
 rw[B9n (A6h h),A2o h]
 rfl
theorem Bl7{s:Facts}(h:okS s=true):A3q (ofS s).1=0:=by
 have k:=Y7.1 h
 have f:=D7.1 k.1
 rw[B9n h]
 unfold A3q
 rw[if_pos]
 refine⟨f.2.1,A5x _,O7.2 fun d hd=>?_⟩
 obtain⟨e,he,rfl⟩:=(J3 f.1 d).1 hd
 exact k.2.1 e he
end Go.Proofs.YtokhjapfekbobaaGreat
namespace Go.Proofs.YtokhjapfekbobaaGreat
open Go.E
set_option maxRecDepth 100000
set_option maxHeartbeats 4000000
theorem ent_sz{s:Facts}(h:okF s=true):s.adds.length≤16000000000:=A2y (O9 (H3.1 h).1)
end Go.Proofs.YtokhjapfekbobaaGreat
namespace Go.Proofs.YtokhjapfekbobaaGreat
open Go.E
set_option maxRecDepth 100000
set_option maxHeartbeats 4000000
theorem Aw6{f:Facts}(h:szB 7 f):szB 7 (F3 f).1:=by
 by_cases k:okF f=true
 ·rw[A3j k];exact st_szB h k
 ·rw[A60 k];exact⟨Ah2 B49,by decide,by decide⟩
end Go.Proofs.YtokhjapfekbobaaGreat
namespace Go.Proofs.YtokhjapfekbobaaGreat
open Go.E
set_option maxRecDepth 100000
set_option maxHeartbeats 4000000
theorem Bl8{f:Facts}{d:Dig}{n:Nat}(h:szB n f):szB n (C2 f d).1:=by
 by_cases k:okF f=true∧A3q d=0
 ·rw[A1h k.1 k.2]
  exact⟨Ah2 (An9 k.1),Nat.le_trans (Ao1 f.recs (B7 f)) h.2.1,Nat.le_trans (A9c (List.filter_sublist (l:=f.recs))) h.2.2⟩
 ·unfold C2
  rw[if_neg k]
  exact⟨Ah2 B49,Nat.zero_le _,Nat.zero_le _⟩
theorem Aw7(f:Facts):(F3 f).1.adds.length≤16000000000:=by
 by_cases k:okF f=true
 ·rw[A3j k];exact ent_sz (A38 (A6h k))
 ·rw[A60 k];exact Nat.zero_le _
theorem A9i{f:Facts}(h:okF f=true):A3q (ofF f).1=0:=by rw[← pic_of h];exact Bl7 (A6h h)
theorem Ah3{a b:Facts}(ha:okF a=true)(hb:okF b=true):agF a b∧(A5 a b)=(J9 a b,0)∨(A5 a b).2=10:=by
 by_cases g:P0 a.adds b.adds
 ·exact .inl ⟨⟨ha,hb,g⟩,(L0 ⟨ha,hb,g⟩).1⟩
 ·exact .inr (by rw[B82 (Q2.2 ⟨ha,hb⟩) g])
theorem A9j{o f:Facts}(h:agF o f):∃ j k,A5 o (C2 f (ofF o).1).1=(j,0)∧okF j=true∧stF j=stF (J9 o f)∧A5 f (C2 j (ofF f).1).1=(k,0)∧okF k=true∧stF k=stF (J9 o f):=by
 have e1:(C2 f (ofF o).1).1=Z0 f ⟨B7 o,E7 (I3 o)⟩:=by rw[A1h h.2.1 (A9i h.1),A2o h.1]
 obtain⟨g,s⟩:=B9r h
 have jg:=L0 g
 have fj:agF f (J9 o (Z0 f ⟨B7 o,E7 (I3 o)⟩)):=⟨h.2.1,jg.2.1,fun x hx y hy hd=>by
  rcases(jg.2.2.1 y).1 hy with hy | hy
  ·exact h.symm.2.2 x hx y hy hd
  ·exact A06 (D7.1 h.2.1).1 hx (U4 (List.mem_filter.1 hy).1) hd⟩
 obtain⟨g2,s2⟩:=B9r fj
 have e2:(C2 (J9 o (Z0 f ⟨B7 o,E7 (I3 o)⟩)) (ofF f).1).1=Z0 (J9 o (Z0 f ⟨B7 o,E7 (I3 o)⟩)) ⟨B7 f,E7 (I3 f)⟩:=by rw[A1h jg.2.1 (A9i h.2.1),A2o h.2.1]
 refine⟨_,_,by rw[e1];exact jg.1,jg.2.1,s,by rw[e2];exact(L0 g2).1,(L0 g2).2.1,?_⟩
 have hof:agF f (J9 o f):=⟨h.2.1,(L0 h).2.1,fun x hx y hy hd=>by
  rcases((L0 h).2.2.1 y).1 hy with hy | hy
  ·exact h.symm.2.2 x hx y hy hd
  ·exact A06 (D7.1 h.2.1).1 hx hy hd⟩
 rw[s2,A43 fj,s,← A43 hof,A7i hof,A7i h,(Ao2 h.symm).2]
theorem con7(o f:Facts)(ho:szB 1 o)(hf:szB 1 f):Con Tryz.prog 7 [.agg (c29 o),.agg (c29 f)] (.b true) :=
 by
 have nn:∀ {p:Prop},¬¬p→p:=Classical.not_not.1
 have yo:¬(¬okF o=true∨¬okF f=true)→okF o=true:=fun h=>nn fun k=>h (.inl k)
 have yf:¬(¬okF o=true∨¬okF f=true)→okF f=true:=fun h=>nn fun k=>h (.inr k)
 have L:∀ {a:Facts} {d:Dig} {n:Nat},szB n a→szB n (C2 a d).1:=Bl8
 have S1:=A9e ho (L (d:=(ofF o).1) hf)
 have S2:=A9e ho hf
 have S3:=A9e hf (L (d:=(ofF f).1) S1)
 have ag:¬(¬okF o=true∨¬okF f=true)→¬¬(A5 o f).2=0→agF o f∧A5 o f=(J9 o f,0):=fun h k=>by
  rcases Ah3 (yo h) (yf h)with z | z
  ·exact z
  ·rw[z]at k;exact absurd (by decide) k
 refine sC A9 [.tmp 4] 129 Tryz.func7 ?_
 intro e0 cx
 refine sq<|rG cx [2,3] [2,3] z0<|sn<|sq<|sq<|rG cx [2,3,20] [2,3] (fT (con31 ) (oA 0 (.b (true)) z0))<|sn<|A1t (by kernel_rfl) (by kernel_rfl)<|sK<|sn<|sq<|rG cx [2,3,5,6] [2,3,5] (fT (Bk4 (o) (f) (by exact H9 ho (by decide)) (by exact H9 hf (by decide))) (oA 2 (.tup [.agg [.sl (List.map c67 (A5 o f).1.adds),.sl (List.map c3 (A5 o f).1.gone.vec),.sl (List.map B3 (A5 o f).1.gone.cloud),.sl (List.map c83 (A5 o f).1.recs)],.i .i64 ((A5 o f).2)]) z0)) ?_
 refine sn<|sq<|rG cx [2,3,5,6,7,8] [2,3,5,7] (fT (Bl3 (o) (by exact B4h ho)) (oA 1 (.tup [.agg [.sl (List.map c3 (ofF o).1.heard.vec),.sl (List.map B3 (ofF o).1.heard.cloud),.sl (List.map c3 (ofF o).1.live.vec),.sl (List.map B3 (ofF o).1.live.cloud)],.i .i64 ((ofF o).2)]) z0)) ?_
 refine sn<|sq<|rG cx [2,3,5,6,7,8,9,10] [2,3,5,7,9] (fT (con37 (f) ((ofF o).1) (by exact B4h hf) (by exact B9p o)) (oA 2 (.tup [.agg [.sl (List.map c67 (C2 f (ofF o).1).1.adds),.sl (List.map c3 (C2 f (ofF o).1).1.gone.vec),.sl (List.map B3 (C2 f (ofF o).1).1.gone.cloud),.sl (List.map c83 (C2 f (ofF o).1).1.recs)],.i .i64 ((C2 f (ofF o).1).2)]) z0)) ?_
 refine sn<|sq<|sq<|B4 (σ':=⟨[(2,.ptr (2) (0) (0) (0)),(3,.ptr (3) (0) (0) (0)),(5,.ptr (5) (0) (0) (0)),(6,.i .i64 ((A5 o f).2)),(7,.ptr (7) (0) (0) (0)),(8,.i .i64 ((ofF o).2)),(9,.ptr (9) (0) (0) (0)),(10,.i .i64 ((C2 f (ofF o).1).2)),(45,.b (decide (¬okF o=true∨¬okF f=true)))],[(2,⟨0,29,.var [.sl (List.map c67 o.adds),.sl (List.map c3 o.gone.vec),.sl (List.map B3 o.gone.cloud),.sl (List.map c83 o.recs)]⟩),(3,⟨0,29,.var [.sl (List.map c67 f.adds),.sl (List.map c3 f.gone.vec),.sl (List.map B3 f.gone.cloud),.sl (List.map c83 f.recs)]⟩),(5,⟨0,29,.var [.sl (List.map c67 (A5 o f).1.adds),.sl (List.map c3 (A5 o f).1.gone.vec),.sl (List.map B3 (A5 o f).1.gone.cloud),.sl (List.map c83 (A5 o f).1.recs)]⟩),(7,⟨0,76,.var [.sl (List.map c3 (ofF o).1.heard.vec),.sl (List.map B3 (ofF o).1.heard.cloud),.sl (List.map c3 (ofF o).1.live.vec),.sl (List.map B3 (ofF o).1.live.cloud)]⟩),(9,⟨0,29,.var [.sl (List.map c67 (C2 f (ofF o).1).1.adds),.sl (List.map c3 (C2 f (ofF o).1).1.gone.vec),.sl (List.map B3 (C2 f (ofF o).1).1.gone.cloud),.sl (List.map c83 (C2 f (ofF o).1).1.recs)]⟩)]⟩) ?_ ?_
 refine A4 (¬okF o=true) (fun h1=>?_) (fun h1=>?_)
 refine rg (A:=(AV.b (okF o)=AV.b false)∧_∧(AV.b true=AV.b (decide (¬okF o=true∨¬okF f=true)))) cx [(1,{ val:=some (.b (okF o)),tell:=some (.b (false)) }),(7,{ tell:=some (.b (decide (¬okF o=true∨¬okF f=true))) })] [2,3,5,6,7,8,9,10,45] [2,3,5,7,9] ⟨(X6 h1),(Bi7 (o) (by exact ho.1)),(by simp only [eq_false h1,tsl])⟩ ?_
 exact⟨rfl,by kernel_rfl⟩
 refine rG cx [2,3,5,6,7,8,9,10,45] [2,3,5,7,9] (fT (Bi7 (o) (by exact ho.1)) (tT 2 (G4:(AV.b !okF o)=AV.b (decide ¬okF o=true)) (tT 3 (A0 h1) (fT (Bi7 (f) (by exact hf.1)) (tT 6 (G4:(AV.b !okF f)=AV.b (decide ¬okF f=true)) (tT 7 (by first | (simp only [eq_false h1,tsl];done) | simp_all:AV.b (decide ¬okF f=true)=AV.b (decide (¬okF o=true∨¬okF f=true))) (oA 1 (.b (okF o)) (oA 5 (.b (okF f)) z0)))))))) ?_
 exact⟨rfl,by kernel_rfl⟩
 refine sn<|dC (¬okF o=true∨¬okF f=true) (fun h2=>?_) fun h2=>?_
 refine sq<|rG cx [4] [] (tB 1 ((A5 o f).2=1) z0)<|sn<|rT<|nR<|qR (.b (decide ((A5 o f).2=1))) (.eq ?g8);rotate_left
 refine sK<|sn<|sq<|sq<|B4 (σ':=⟨[(2,.ptr (2) (0) (0) (0)),(3,.ptr (3) (0) (0) (0)),(5,.ptr (5) (0) (0) (0)),(6,.i .i64 ((A5 o f).2)),(7,.ptr (7) (0) (0) (0)),(9,.ptr (9) (0) (0) (0)),(53,.b (decide (¬(ofF o).2=0∨¬(C2 f (ofF o).1).2=0)))],[(2,⟨0,29,.var [.sl (List.map c67 o.adds),.sl (List.map c3 o.gone.vec),.sl (List.map B3 o.gone.cloud),.sl (List.map c83 o.recs)]⟩),(3,⟨0,29,.var [.sl (List.map c67 f.adds),.sl (List.map c3 f.gone.vec),.sl (List.map B3 f.gone.cloud),.sl (List.map c83 f.recs)]⟩),(5,⟨0,29,.var [.sl (List.map c67 (A5 o f).1.adds),.sl (List.map c3 (A5 o f).1.gone.vec),.sl (List.map B3 (A5 o f).1.gone.cloud),.sl (List.map c83 (A5 o f).1.recs)]⟩),(7,⟨0,76,.var [.sl (List.map c3 (ofF o).1.heard.vec),.sl (List.map B3 (ofF o).1.heard.cloud),.sl (List.map c3 (ofF o).1.live.vec),.sl (List.map B3 (ofF o).1.live.cloud)]⟩),(9,⟨0,29,.var [.sl (List.map c67 (C2 f (ofF o).1).1.adds),.sl (List.map c3 (C2 f (ofF o).1).1.gone.vec),.sl (List.map B3 (C2 f (ofF o).1).1.gone.cloud),.sl (List.map c83 (C2 f (ofF o).1).1.recs)]⟩)]⟩) ?_ ?_
 refine A4 (¬(ofF o).2=0) (fun h_4=>?_) (fun h_4=>?_)
 refine rG cx [2,3,5,6,7,9,53] [2,3,5,7,9] (tT 1 (F4 h_4:AV.b ((ofF o).2 !=0)=AV.b true) (tD 5 true (¬(ofF o).2=0∨¬(C2 f (ofF o).1).2=0) (by simp only [eq_false h_4,tsl]) z0)) ?_
 exact⟨rfl,by kernel_rfl⟩
 refine rG cx [2,3,5,6,7,9,53] [2,3,5,7,9] (tN 1 ((ofF o).2) (0:Int) (tT 2 (A0 h_4) (tN 4 ((C2 f (ofF o).1).2) (0:Int) (tT 5 (by first | (simp only [eq_false h_4,tsl];done) | simp_all:AV.b (decide ¬(C2 f (ofF o).1).2=0)=AV.b (decide (¬(ofF o).2=0∨¬(C2 f (ofF o).1).2=0))) z0)))) ?_
 exact⟨rfl,by kernel_rfl⟩
 refine sn<|dC (¬(ofF o).2=0∨¬(C2 f (ofF o).1).2=0) (fun h5=>?_) fun h5=>?_
 refine sq<|rG cx [4] [] z0<|sn<|rT<|nR<|qR (.b (false)) (.eq ?g9);rotate_left
 refine sK<|sn<|sq<|sq<|rG cx [2,3,5,6,7,9,55] [2,3,5,7,9] (tN 1 ((A5 o f).2) (0:Int) z0)<|sn<|dC (¬(A5 o f).2=0) (fun h6=>?_) fun h6=>?_
 refine sq<|rG cx [4] [] (tB 1 ((A5 o f).2=10) z0)<|sn<|rT<|nR<|qR (.b (decide ((A5 o f).2=10))) (.eq ?g10);rotate_left
 refine sK<|sn<|sq<|rG cx [3,5,7,9,11,12] [3,5,7,9,11] (fT (Bk4 (o) ((C2 f (ofF o).1).1) (by exact H9 ho (by decide)) (by exact H9 (L hf) (by decide))) (oA 2 (.tup [.agg [.sl (List.map c67 (A5 o (C2 f (ofF o).1).1).1.adds),.sl (List.map c3 (A5 o (C2 f (ofF o).1).1).1.gone.vec),.sl (List.map B3 (A5 o (C2 f (ofF o).1).1).1.gone.cloud),.sl (List.map c83 (A5 o (C2 f (ofF o).1).1).1.recs)],.i .i64 ((A5 o (C2 f (ofF o).1).1).2)]) z0)) ?_
 refine sn<|sq<|rG cx [3,5,7,9,11,12,13,14] [3,5,7,9,11,13] (fT (Bl6 ((A5 o (C2 f (ofF o).1).1).1) (by exact H9 S1 (by decide))) (oA 1 (.tup [.agg [.sl (List.map c67 (F3 (A5 o (C2 f (ofF o).1).1).1).1.adds),.sl (List.map c3 (F3 (A5 o (C2 f (ofF o).1).1).1).1.gone.vec),.sl (List.map B3 (F3 (A5 o (C2 f (ofF o).1).1).1).1.gone.cloud),.sl (List.map c83 (F3 (A5 o (C2 f (ofF o).1).1).1).1.recs)],.i .i64 ((F3 (A5 o (C2 f (ofF o).1).1).1).2)]) z0)) ?_
 refine sn<|sq<|rG cx [3,7,9,11,12,13,14,15,16] [3,7,9,11,13,15] (fT (Bl6 ((A5 o f).1) (by exact H9 S2 (by decide))) (oA 1 (.tup [.agg [.sl (List.map c67 (F3 (A5 o f).1).1.adds),.sl (List.map c3 (F3 (A5 o f).1).1.gone.vec),.sl (List.map B3 (F3 (A5 o f).1).1.gone.cloud),.sl (List.map c83 (F3 (A5 o f).1).1.recs)],.i .i64 ((F3 (A5 o f).1).2)]) z0)) ?_
 refine sn<|sq<|sq<|B4 (σ':=⟨[(3,.ptr (3) (0) (0) (0)),(7,.ptr (7) (0) (0) (0)),(9,.ptr (9) (0) (0) (0)),(11,.ptr (11) (0) (0) (0)),(15,.ptr (15) (0) (0) (0)),(89,.b (decide (¬(A5 o (C2 f (ofF o).1).1).2=0∨¬(F3 (A5 o (C2 f (ofF o).1).1).1).2=0∨¬(F3 (A5 o f).1).2=0∨¬(F3 (A5 o (C2 f (ofF o).1).1).1).1=(F3 (A5 o f).1).1)))],[(3,⟨0,29,.var [.sl (List.map c67 f.adds),.sl (List.map c3 f.gone.vec),.sl (List.map B3 f.gone.cloud),.sl (List.map c83 f.recs)]⟩),(7,⟨0,76,.var [.sl (List.map c3 (ofF o).1.heard.vec),.sl (List.map B3 (ofF o).1.heard.cloud),.sl (List.map c3 (ofF o).1.live.vec),.sl (List.map B3 (ofF o).1.live.cloud)]⟩),(9,⟨0,29,.var [.sl (List.map c67 (C2 f (ofF o).1).1.adds),.sl (List.map c3 (C2 f (ofF o).1).1.gone.vec),.sl (List.map B3 (C2 f (ofF o).1).1.gone.cloud),.sl (List.map c83 (C2 f (ofF o).1).1.recs)]⟩),(11,⟨0,29,.var [.sl (List.map c67 (A5 o (C2 f (ofF o).1).1).1.adds),.sl (List.map c3 (A5 o (C2 f (ofF o).1).1).1.gone.vec),.sl (List.map B3 (A5 o (C2 f (ofF o).1).1).1.gone.cloud),.sl (List.map c83 (A5 o (C2 f (ofF o).1).1).1.recs)]⟩),(15,⟨0,31,.var [.sl (List.map c67 (F3 (A5 o f).1).1.adds),.sl (List.map c3 (F3 (A5 o f).1).1.gone.vec),.sl (List.map B3 (F3 (A5 o f).1).1.gone.cloud),.sl (List.map c83 (F3 (A5 o f).1).1.recs)]⟩)]⟩) ?_ ?_
 refine A4 (¬(A5 o (C2 f (ofF o).1).1).2=0) (fun h8=>?_) (fun h8=>?_)
 refine rG cx [3,7,9,11,15,89] [3,7,9,11,15] (tT 1 (F4 h8:AV.b ((A5 o (C2 f (ofF o).1).1).2 !=0)=AV.b true) (tD 15 true (¬(A5 o (C2 f (ofF o).1).1).2=0∨¬(F3 (A5 o (C2 f (ofF o).1).1).1).2=0∨¬(F3 (A5 o f).1).2=0∨¬(F3 (A5 o (C2 f (ofF o).1).1).1).1=(F3 (A5 o f).1).1) (by simp only [eq_false h8,tsl]) z0)) ?_
 exact⟨rfl,by kernel_rfl⟩
 refine A4 (¬(F3 (A5 o (C2 f (ofF o).1).1).1).2=0) (fun h9=>?_) (fun h9=>?_)
 refine rG cx [3,7,9,11,15,89] [3,7,9,11,15] (tN 1 ((A5 o (C2 f (ofF o).1).1).2) (0:Int) (tT 2 (A0 h8) (tT 4 (F4 h9:AV.b ((F3 (A5 o (C2 f (ofF o).1).1).1).2 !=0)=AV.b true) (tT 15 (by first | (simp only [eq_false h8,eq_false h9,tsl];done) | simp_all:AV.b true=AV.b (decide (¬(A5 o (C2 f (ofF o).1).1).2=0∨¬(F3 (A5 o (C2 f (ofF o).1).1).1).2=0∨¬(F3 (A5 o f).1).2=0∨¬(F3 (A5 o (C2 f (ofF o).1).1).1).1=(F3 (A5 o f).1).1))) z0)))) ?_
 exact⟨rfl,by kernel_rfl⟩
 refine A4 (¬(F3 (A5 o f).1).2=0) (fun h10=>?_) (fun h10=>?_)
 refine rG cx [3,7,9,11,15,89] [3,7,9,11,15] (tN 1 ((A5 o (C2 f (ofF o).1).1).2) (0:Int) (tT 2 (A0 h8) (tN 4 ((F3 (A5 o (C2 f (ofF o).1).1).1).2) (0:Int) (tT 5 (A0 h9) (tT 8 (F4 h10:AV.b ((F3 (A5 o f).1).2 !=0)=AV.b true) (tT 15 (by first | (simp only [eq_false h8,eq_false h9,eq_false h10,tsl];done) | simp_all:AV.b true=AV.b (decide (¬(A5 o (C2 f (ofF o).1).1).2=0∨¬(F3 (A5 o (C2 f (ofF o).1).1).1).2=0∨¬(F3 (A5 o f).1).2=0∨¬(F3 (A5 o (C2 f (ofF o).1).1).1).1=(F3 (A5 o f).1).1))) z0)))))) ?_
 exact⟨rfl,by kernel_rfl⟩
 refine rG cx [3,7,9,11,15,89] [3,7,9,11,15] (tN 1 ((A5 o (C2 f (ofF o).1).1).2) (0:Int) (tT 2 (A0 h8) (tN 4 ((F3 (A5 o (C2 f (ofF o).1).1).1).2) (0:Int) (tT 5 (A0 h9) (tN 8 ((F3 (A5 o f).1).2) (0:Int) (tT 9 (A0 h10) (fT (con35 ((F3 (A5 o (C2 f (ofF o).1).1).1).1) ((F3 (A5 o f).1).1) (by exact(Aw6 (H9 S1 (by decide))).1) (by exact Nat.le_trans (Aw6 (H9 S1 (by decide))).2.1 (by decide)) (by exact Nat.le_trans (Aw7 _) (by decide))) (tQ 14 ((F3 (A5 o (C2 f (ofF o).1).1).1).1=(F3 (A5 o f).1).1) (tT 15 (by first | (simp only [eq_false h8,eq_false h9,eq_false h10,tsl];done) | simp_all:AV.b (decide ¬(F3 (A5 o (C2 f (ofF o).1).1).1).1=(F3 (A5 o f).1).1)=AV.b (decide (¬(A5 o (C2 f (ofF o).1).1).2=0∨¬(F3 (A5 o (C2 f (ofF o).1).1).1).2=0∨¬(F3 (A5 o f).1).2=0∨¬(F3 (A5 o (C2 f (ofF o).1).1).1).1=(F3 (A5 o f).1).1))) (oA 13 (.b (decide ((F3 (A5 o (C2 f (ofF o).1).1).1).1=(F3 (A5 o f).1).1))) z0)))))))))) ?_
 exact⟨rfl,by kernel_rfl⟩
 refine sn<|dC (¬(A5 o (C2 f (ofF o).1).1).2=0∨¬(F3 (A5 o (C2 f (ofF o).1).1).1).2=0∨¬(F3 (A5 o f).1).2=0∨¬(F3 (A5 o (C2 f (ofF o).1).1).1).1=(F3 (A5 o f).1).1) (fun h11=>?_) fun h11=>?_
 refine sq<|rG cx [4] [] z0<|sn<|rT<|nR<|qR (.b (false)) (.eq ?g18);rotate_left
 refine sK<|sn<|sq<|rG cx [3,7,9,11,15,8] [3,7,9,11,15] (fT (Bl3 (f) (by exact B4h hf)) (oA 1 (.tup [.agg [.sl (List.map c3 (ofF f).1.heard.vec),.sl (List.map B3 (ofF f).1.heard.cloud),.sl (List.map c3 (ofF f).1.live.vec),.sl (List.map B3 (ofF f).1.live.cloud)],.i .i64 ((ofF f).2)]) z0)) ?_
 refine sn<|sq<|rG cx [3,9,15,8,10] [3,9,15] (fT (con37 ((A5 o (C2 f (ofF o).1).1).1) ((ofF f).1) (by exact H9 S1 (by decide)) (by exact B9p f)) (oA 2 (.tup [.agg [.sl (List.map c67 (C2 (A5 o (C2 f (ofF o).1).1).1 (ofF f).1).1.adds),.sl (List.map c3 (C2 (A5 o (C2 f (ofF o).1).1).1 (ofF f).1).1.gone.vec),.sl (List.map B3 (C2 (A5 o (C2 f (ofF o).1).1).1 (ofF f).1).1.gone.cloud),.sl (List.map c83 (C2 (A5 o (C2 f (ofF o).1).1).1 (ofF f).1).1.recs)],.i .i64 ((C2 (A5 o (C2 f (ofF o).1).1).1 (ofF f).1).2)]) z0)) ?_
 refine sn<|sq<|sq<|B4 (σ':=⟨[(3,.ptr (3) (0) (0) (0)),(9,.ptr (9) (0) (0) (0)),(15,.ptr (15) (0) (0) (0)),(106,.b (decide (¬(ofF f).2=0∨¬(C2 (A5 o (C2 f (ofF o).1).1).1 (ofF f).1).2=0)))],[(3,⟨0,29,.var [.sl (List.map c67 f.adds),.sl (List.map c3 f.gone.vec),.sl (List.map B3 f.gone.cloud),.sl (List.map c83 f.recs)]⟩),(9,⟨0,29,.var [.sl (List.map c67 (C2 (A5 o (C2 f (ofF o).1).1).1 (ofF f).1).1.adds),.sl (List.map c3 (C2 (A5 o (C2 f (ofF o).1).1).1 (ofF f).1).1.gone.vec),.sl (List.map B3 (C2 (A5 o (C2 f (ofF o).1).1).1 (ofF f).1).1.gone.cloud),.sl (List.map c83 (C2 (A5 o (C2 f (ofF o).1).1).1 (ofF f).1).1.recs)]⟩),(15,⟨0,31,.var [.sl (List.map c67 (F3 (A5 o f).1).1.adds),.sl (List.map c3 (F3 (A5 o f).1).1.gone.vec),.sl (List.map B3 (F3 (A5 o f).1).1.gone.cloud),.sl (List.map c83 (F3 (A5 o f).1).1.recs)]⟩)]⟩) ?_ ?_
 refine A4 (¬(ofF f).2=0) (fun h_13=>?_) (fun h_13=>?_)
 refine rG cx [3,9,15,106] [3,9,15] (tT 1 (F4 h_13:AV.b ((ofF f).2 !=0)=AV.b true) (tD 5 true (¬(ofF f).2=0∨¬(C2 (A5 o (C2 f (ofF o).1).1).1 (ofF f).1).2=0) (by simp only [eq_false h_13,tsl]) z0)) ?_
 exact⟨rfl,by kernel_rfl⟩
 refine rG cx [3,9,15,106] [3,9,15] (tN 1 ((ofF f).2) (0:Int) (tT 2 (A0 h_13) (tN 4 ((C2 (A5 o (C2 f (ofF o).1).1).1 (ofF f).1).2) (0:Int) (tT 5 (by first | (simp only [eq_false h_13,tsl];done) | simp_all:AV.b (decide ¬(C2 (A5 o (C2 f (ofF o).1).1).1 (ofF f).1).2=0)=AV.b (decide (¬(ofF f).2=0∨¬(C2 (A5 o (C2 f (ofF o).1).1).1 (ofF f).1).2=0))) z0)))) ?_
 exact⟨rfl,by kernel_rfl⟩
 refine sn<|dC (¬(ofF f).2=0∨¬(C2 (A5 o (C2 f (ofF o).1).1).1 (ofF f).1).2=0) (fun h14=>?_) fun h14=>?_
 refine sq<|rG cx [4] [] z0<|sn<|rT<|nR<|qR (.b (false)) (.eq ?g22);rotate_left
 refine sK<|sn<|sq<|rG cx [15,17,12] [15,17] (fT (Bk4 (f) ((C2 (A5 o (C2 f (ofF o).1).1).1 (ofF f).1).1) (by exact H9 hf (by decide)) (by exact H9 (L S1) (by decide))) (oA 2 (.tup [.agg [.sl (List.map c67 (A5 f (C2 (A5 o (C2 f (ofF o).1).1).1 (ofF f).1).1).1.adds),.sl (List.map c3 (A5 f (C2 (A5 o (C2 f (ofF o).1).1).1 (ofF f).1).1).1.gone.vec),.sl (List.map B3 (A5 f (C2 (A5 o (C2 f (ofF o).1).1).1 (ofF f).1).1).1.gone.cloud),.sl (List.map c83 (A5 f (C2 (A5 o (C2 f (ofF o).1).1).1 (ofF f).1).1).1.recs)],.i .i64 ((A5 f (C2 (A5 o (C2 f (ofF o).1).1).1 (ofF f).1).1).2)]) z0)) ?_
 refine sn<|sq<|rG cx [15,12,18,14] [15,18] (fT (Bl6 ((A5 f (C2 (A5 o (C2 f (ofF o).1).1).1 (ofF f).1).1).1) (by exact H9 S3 (by decide))) (oA 1 (.tup [.agg [.sl (List.map c67 (F3 (A5 f (C2 (A5 o (C2 f (ofF o).1).1).1 (ofF f).1).1).1).1.adds),.sl (List.map c3 (F3 (A5 f (C2 (A5 o (C2 f (ofF o).1).1).1 (ofF f).1).1).1).1.gone.vec),.sl (List.map B3 (F3 (A5 f (C2 (A5 o (C2 f (ofF o).1).1).1 (ofF f).1).1).1).1.gone.cloud),.sl (List.map c83 (F3 (A5 f (C2 (A5 o (C2 f (ofF o).1).1).1 (ofF f).1).1).1).1.recs)],.i .i64 ((F3 (A5 f (C2 (A5 o (C2 f (ofF o).1).1).1 (ofF f).1).1).1).2)]) z0)) ?_
 refine sn<|sq<|B4 (σ':=⟨[(4,.b (decide ((A5 f (C2 (A5 o (C2 f (ofF o).1).1).1 (ofF f).1).1).2=0∧(F3 (A5 f (C2 (A5 o (C2 f (ofF o).1).1).1 (ofF f).1).1).1).2=0∧(F3 (A5 f (C2 (A5 o (C2 f (ofF o).1).1).1 (ofF f).1).1).1).1=(F3 (A5 o f).1).1)))],[]⟩) ?_ ?_
 refine A4 ((A5 f (C2 (A5 o (C2 f (ofF o).1).1).1 (ofF f).1).1).2=0) (fun h16=>?_) (fun h16=>?_)
 refine A4 ((F3 (A5 f (C2 (A5 o (C2 f (ofF o).1).1).1 (ofF f).1).1).1).2=0) (fun h17=>?_) (fun h17=>?_)
 refine rG cx [4] [] (tT 1 (A6 h16) (tT 4 (A6 h17) (fT (con35 ((F3 (A5 f (C2 (A5 o (C2 f (ofF o).1).1).1 (ofF f).1).1).1).1) ((F3 (A5 o f).1).1) (by exact(Aw6 (H9 S3 (by decide))).1) (by exact Nat.le_trans (Aw6 (H9 S3 (by decide))).2.1 (by decide)) (by exact Nat.le_trans (Aw7 _) (by decide))) (tD 11 (decide ((F3 (A5 f (C2 (A5 o (C2 f (ofF o).1).1).1 (ofF f).1).1).1).1=(F3 (A5 o f).1).1)) ((A5 f (C2 (A5 o (C2 f (ofF o).1).1).1 (ofF f).1).1).2=0∧(F3 (A5 f (C2 (A5 o (C2 f (ofF o).1).1).1 (ofF f).1).1).1).2=0∧(F3 (A5 f (C2 (A5 o (C2 f (ofF o).1).1).1 (ofF f).1).1).1).1=(F3 (A5 o f).1).1) (by simp only [eq_true h16,eq_true h17,tsl]) (oA 9 (.b (decide ((F3 (A5 f (C2 (A5 o (C2 f (ofF o).1).1).1 (ofF f).1).1).1).1=(F3 (A5 o f).1).1))) z0))))) ?_
 exact⟨rfl,by kernel_rfl⟩
 refine rG cx [4] [] (tT 1 (A6 h16) (tT 4 (A0 h17) (tD 11 false ((A5 f (C2 (A5 o (C2 f (ofF o).1).1).1 (ofF f).1).1).2=0∧(F3 (A5 f (C2 (A5 o (C2 f (ofF o).1).1).1 (ofF f).1).1).1).2=0∧(F3 (A5 f (C2 (A5 o (C2 f (ofF o).1).1).1 (ofF f).1).1).1).1=(F3 (A5 o f).1).1) (by simp only [eq_true h16,eq_false h17,tsl]) z0))) ?_
 exact⟨rfl,by kernel_rfl⟩
 refine rG cx [4] [] (tT 1 (A0 h16) (tD 11 false ((A5 f (C2 (A5 o (C2 f (ofF o).1).1).1 (ofF f).1).1).2=0∧(F3 (A5 f (C2 (A5 o (C2 f (ofF o).1).1).1 (ofF f).1).1).1).2=0∧(F3 (A5 f (C2 (A5 o (C2 f (ofF o).1).1).1 (ofF f).1).1).1).1=(F3 (A5 o f).1).1) (by simp only [eq_false h16,tsl]) z0)) ?_
 exact⟨rfl,by kernel_rfl⟩
 refine sn<|rT<|qR (.b (decide ((A5 f (C2 (A5 o (C2 f (ofF o).1).1).1 (ofF f).1).1).2=0∧(F3 (A5 f (C2 (A5 o (C2 f (ofF o).1).1).1 (ofF f).1).1).1).2=0∧(F3 (A5 f (C2 (A5 o (C2 f (ofF o).1).1).1 (ofF f).1).1).1).1=(F3 (A5 o f).1).1))) (.eq ?g29);rotate_left
 case g8 =>
  rw[A36 (fun k=>h2.elim (fun q=>q (Q2.1 k).1) fun q=>q (Q2.1 k).2)]
  rfl
 case g9 =>
  rcases h5 with h5 | h5
  ·exact absurd (by rw[A2o (yo h2)]) h5
  ·exact absurd (by rw[A1h (yf h2) (A9i (yo h2))]) h5
 case g10 =>
  rcases Ah3 (yo h2) (yf h2)with z | z
  ·exact absurd (by rw[z.2]) h6
  ·exact congrArg AV.b (decide_eq_true z)
 case g18 =>
  obtain⟨a,e⟩:=ag h2 h6
  obtain⟨j,k',e1,e2,e3,_⟩:=A9j a
  rw[e1,e,A3j e2,A3j (L0 a).2.1,e3]at h11
  rcases h11 with h11 | h11 | h11 | h11 <;> exact absurd rfl h11
 case g22 =>
  obtain⟨a,e⟩:=ag h2 h6
  obtain⟨j,k',e1,e2,e3,_⟩:=A9j a
  rw[e1]at h14
  rcases h14 with h14 | h14
  ·exact absurd (by rw[A2o (yf h2)]) h14
  ·exact absurd (by rw[A1h e2 (A9i (yf h2))]) h14
 case g29 =>
  obtain⟨a,e⟩:=ag h2 h6
  obtain⟨j,k',e1,e2,e3,e4,e5,e6⟩:=A9j a
  refine congrArg AV.b (decide_eq_true ?_)
  rw[e1,e,e4,A3j e5,A3j (L0 a).2.1,e6]
  exact⟨rfl,rfl,rfl⟩
end Go.Proofs.YtokhjapfekbobaaGreat
namespace Go.E
open Go.RowKit Go.ChangeShapes Go.WideShapes Go.ChangeAt
def TyA(T:Tab)(L n t:Nat)(av:AV):Prop :=
 match look T t with
 | some ti=>if ti.isAgg then ∃ cs,av=.agg cs∧TyC T L n t cs else TyC T L n t [av]
 | none=>False
def B8e(T:Tab)(L n:Nat):List Nat→List AV→Prop
 | [],[]=>True
 | t :: ts,a :: aL=>TyA T L n t a∧B8e T L n ts aL
 | _,_=>False
section
variable {P : Program} {T : Tab} {H : Type} {enc : TypeId × Value → H} {W : World} {spare : Nat → Bool} {held : Bool}
theorem A6i(hT:TabOk P T){n t:Nat}{ti:TI}(hti:look T t=some ti)(hp:N7 T n t=true)(hg:ti.isAgg=false){r:Reach}{base:Nat}{v:Value}(hv:Value.okWide P W r base t v):v.oneCell'=true∨∃ x,v=x∧v.cells=#[v]:=by
 have hu:=(hT t ti hti).1
 unfold Value.okWide at hv
 rw[hu]at hv
 cases n with
 | zero=>simp [N7]at hp
 | succ n =>
  unfold N7 at hp
  rw[hti]at hp
  simp only at hp
  unfold TI.isAgg at hg
  cases hd:ti.desc with
  | bool=>rw[hd]at hv;simp only [Cell.okWide,hu,hd,Cell.ok]at hv;cases v <;> simp_all [Value.oneCell',Value.cells]
  | int k=>rw[hd]at hv;simp only [Cell.okWide,hu,hd,Cell.ok]at hv;cases v <;> simp_all [Value.oneCell',Value.cells]
  | string=>rw[hd]at hv;simp only [Cell.okWide,hu,hd,Cell.ok]at hv;cases v <;> simp_all [Value.oneCell',Value.cells]
  | slice e=>rw[hd]at hv;simp only [Cell.okWide,hu,hd,Cell.ok]at hv;cases v <;> simp_all [Value.oneCell',Value.cells]
  | struct fs=>rw[hd]at hg;simp at hg
  | array k e=>rw[hd]at hg;simp at hg
  | _=>rw[hd]at hp;first | exact absurd hp Bool.false_ne_true | cases hp
theorem B8f(hT:TabOk P T){n t:Nat}(hp:N7 T n t=true){r:Reach}{base:Nat}{v:Value}{d:DataW H}{ps:List MemPlace}(hv:Value.okWide P W r base t v)
  (hd:DataW.Trod enc P W 0 spare held t v d ps) (hw:∀ m∈d.weights P t,m≤reachBytes) {L:Nat} (hL:bulkD d≤L):∃ av,RelV0 (fun k=>k < W.heap.size) W av v∧TyA T L n t av:=by
 obtain⟨ti,hti⟩:=V8 hp
 obtain⟨fuel,hf⟩:=hd
 obtain⟨avs,hc,hty⟩:=B5t hT n t hp fuel _ _ _ hf hw L hL
 by_cases hg:ti.isAgg=true
 ·have hu:=(hT t ti hti).1
  have hv':=hv
  unfold Value.okWide at hv'
  rw[hu]at hv'
  have:∃ cs,v=.agg cs:=by
   unfold TI.isAgg at hg
   split at hg
   ·rename_i fs hd;rw[hd]at hv';obtain⟨cs,h,_⟩:=hv';exact⟨cs,h⟩
   ·rename_i k e hd;rw[hd]at hv';obtain⟨cs,h,_⟩:=hv';exact⟨cs,h⟩
   ·cases hg
  obtain⟨cs,rfl⟩:=this
  refine⟨.agg avs,?_,by unfold TyA;rw[hti];simp only [hg,if_true];exact⟨avs,rfl,hty⟩⟩
  have:=RelV0.agg (S:=fun k=>k < W.heap.size) (w:=W) avs cs.toList (by rw[hc.1];simp [Value.cells]) (fun u hu=>hc.2.1 u (by simpa [Value.cells]using hu)) (fun j a u ha hu=>hc.2.2 j a u ha (by simpa [Value.cells]using hu))
  simpa using this
 ·have hg':ti.isAgg=false:=by simpa using hg
  have h1:v.cells.toList=[v]:=by
   rcases A6i hT hti hp hg' hv with h | ⟨_,_,h⟩
   ·cases v <;> simp_all [Value.oneCell',Value.cells]
   ·rw[h]
  rw[h1]at hc
  obtain⟨c1,_,c3⟩:=hc
  match avs,c1,c3,hty with
  | [a],_,c3,hty=>exact⟨a,c3 0 a v rfl rfl,by unfold TyA;rw[hti];simp only [hg',Bool.false_eq_true,if_false];exact hty⟩
theorem Ah4(hT:TabOk P T){L n:Nat}{r:Reach}{base:Nat}:∀(ts:List Nat) (vs:List Value) (ds:List (DataW H)) (ps:List MemPlace),(∀ t∈ts,N7 T n t=true) →
  (∀(j:Nat) t v,ts[j]?=some t→vs[j]?=some v→Value.okWide P W r base t v)→DataW.TrodAll enc P W 0 spare held ts vs ds ps→(∀ m∈DataW.weightsEach P ts ds,m≤reachBytes)→bulkDs ds≤L →
  ∃ avs:List AV,avs.length=vs.length∧(∀(j:Nat) (a:AV) (u:Value),avs[j]?=some a→vs[j]?=some u→RelV0 (fun k=>k < W.heap.size) W a u)∧B8e T L n ts avs∧ds.length=ts.length
 | [],[],[],ps,_,_,_,_,_=>⟨[],rfl,fun j a u ha=>by simp at ha,trivial,rfl⟩
 | t :: ts,v :: vs,d :: ds,ps,hp,hv,hA,hw,hL=>by
  simp only [bulkDs]at hL
  obtain⟨p,q,h1,h2,_⟩:=hA
  obtain⟨a,e1,e2⟩:=B8f hT (hp t (by simp)) (hv 0 t v rfl rfl) h1 (fun m hm=>hw m (by simp only [DataW.weightsEach,List.mem_append];exact .inl hm)) (L:=L) (by omega)
  obtain⟨aL,f1,f2,f3,f4⟩:=Ah4 (L:=L) hT ts vs ds q (fun t ht=>hp t (List.mem_cons_of_mem _ ht)) (fun j t v ht hv'=>hv (j+1) t v (by simpa using ht) (by simpa using hv')) h2 (fun m hm=>hw m (by simp only [DataW.weightsEach,List.mem_append];exact .inr hm)) (by omega)
  refine⟨a :: aL,by simp [f1],fun j b u hb hu=>?_,⟨e2,f3⟩,by simp [f4]⟩
  cases j with
  | zero=>simp at hb hu;subst hb hu;exact e1
  | succ j=>exact f2 j b u (by simpa using hb) (by simpa using hu)
 | [],_ :: _,_,_,_,_,hA,_,_=>hA.elim
 | [],[],_ :: _,_,_,_,hA,_,_=>hA.elim
 | _ :: _,[],_,_,_,_,hA,_,_=>hA.elim
 | _ :: _,_ :: _,[],_,_,_,hA,_,_=>hA.elim
theorem A2p(hl:laidOutB P=true){W':World}(hb:Below W.heap.size W W'):∀(ts:List Nat) (vs:List Value) (ds:List (DataW H)) (ps:List MemPlace),(∀ t∈ts,P.readableRec t=true∧t < P.types.size) →
  (∀ x∈ps,x.block < W.heap.size)→DataW.TrodAll enc P W 0 (fun _=>true) true ts vs ds ps→DataW.TrodAll enc P W' 0 (fun b=>decide (b < W.heap.size)) true ts vs ds ps
 | [],[],[],ps,_,_,h=>h
 | t :: ts,v :: vs,d :: ds,ps,hr,hlt,h=>by
  obtain⟨p,q,h1,h2,rfl⟩:=h
  exact⟨p,q,Below.trod hl (hr t (by simp)).1 (hr t (by simp)).2 h1 hb (fun x hx=>hlt x (List.mem_append_left _ hx)),
   A2p hl hb ts vs ds q (fun t ht=>hr t (List.mem_cons_of_mem _ ht)) (fun x hx=>hlt x (List.mem_append_right _ hx)) h2,rfl⟩
 | [],_ :: _,_,_,_,_,hA=>hA.elim
 | [],[],_ :: _,_,_,_,hA=>hA.elim
 | _ :: _,[],_,_,_,_,hA=>hA.elim
 | _ :: _,_ :: _,[],_,_,_,hA=>hA.elim
end
theorem B8g{T:Tab}{C:Checked}{f:FuncId}{fn:Func}{s:ChangeSpec}{H:Type}{enc:TypeId×Value→H}(ts:List Nat)(tb L n:Nat)
  (hT:TabOk C.prog T) (hl:laidOutB C.prog=true)
  (hts:fn.params=ts.toArray) (htb:fn.resultTypes=#[tb]) (hub:C.prog.underlying tb=some .bool) (hpl:ts.all (fun t=>N7 T n t && C.prog.readableRec t && Nat.blt t C.prog.types.size)=true)
  (hvars:s.vars=[]) (hspec:∀ ds:List (DataW H),ds.length=ts.length→s.fn H (ds++[])={ results:=[.lit (.bool true)],args:=ds })
  (hcon:∀ avs,B8e T L n ts avs→Con C.prog f avs (.b true)) {W:World} {base:Nat} {args:Array Value} {ds gs:List (DataW H)} {before:List MemPlace} {us:List Nat}
  (hval:∀(j:Nat) t v,fn.params[j]?=some t→args[j]?=some v→Value.okWide C.prog W .any base t v) (hW:DataW.Whole enc C.prog fn.params.toList s.vars false W args.toList ds gs before)
  (hsz:(DataW.weightsEach C.prog (fn.params.toList++us) (ds++gs)).all (·≤reachBytes)=true) (hbk:bulkDs (ds++gs)≤L) :
  Calls C.prog f args W fun e W'=>∃ v,e=.returned v∧s.post enc C.prog fn false true false false W args v W':=by
 have hW':=hW
 obtain⟨p,q,hA,hV,rfl,_,_⟩:=hW
 rw[hvars]at hV
 obtain⟨rfl,rfl⟩:=trodVars_none hV
 rw[List.append_nil]at hW' hbk
 have hpars:fn.params.toList=ts:=by rw[hts]
 have hA':DataW.TrodAll enc C.prog W 0 (fun _=>true) true ts args.toList ds p:=by rw[← hpars];exact hA
 have hpl':∀ t∈ts,N7 T n t=true∧C.prog.readableRec t=true∧t < C.prog.types.size:=by
  intro t ht
  have:=List.all_eq_true.1 hpl t ht
  simp only [Bool.and_eq_true]at this
  exact⟨this.1.1,this.1.2,by simpa using this.2⟩
 have hw:∀ m∈DataW.weightsEach C.prog ts ds,m≤reachBytes:=by
  intro m hm
  have hsz':=hsz
  rw[List.append_nil,hpars]at hsz'
  have hsub:∀(ts us:List Nat) (ds:List (DataW H)),∀ m∈DataW.weightsEach C.prog ts ds,m∈DataW.weightsEach C.prog (ts++us) ds:=by
   intro ts us ds
   induction ts generalizing ds with
   | nil=>intro m hm;cases ds <;> simp [DataW.weightsEach]at hm
   | cons t ts ih =>
    intro m hm
    cases ds with
    | nil=>simp [DataW.weightsEach]at hm
    | cons d ds =>
     simp only [DataW.weightsEach,List.cons_append,List.mem_append]at hm ⊢
     rcases hm with hm | hm
     ·exact .inl hm
     ·exact .inr (ih ds m hm)
  have:=List.all_eq_true.1 hsz' m (hsub ts _ ds m hm)
  simpa using this
 obtain⟨avs,h1,h2,h3,h4⟩:=Ah4 hT ts args.toList ds p (fun t ht=>(hpl' t ht).1) (fun j t v ht hv=>hval j t v (by rw[hts];simpa using ht) (by simpa using hv)) hA' hw hbk
 have hlt:∀ x∈p,x.block < W.heap.size:=fun x hx=>hW'.lt x hx
 have hsp:=hspec ds h4
 have:=(hcon avs h3).2 W (fun k=>k < W.heap.size) args.toList (fun _ h=>h) (by rw[h1]) h2
 rw[Array.toArray_toList]at this
 refine this.mono fun e W' ⟨v,he,hr,hb⟩=>?_
 cases hr with
 | b =>
  refine⟨_,he,ds,[],p,[],p,[],hW',?_,?_,?_,hb.frame _,fun h=>by cases h⟩
  ·rw[hsp,htb]
   exact trodAll_mk1 (shut_bool hub true)
  ·rw[hsp,hpars]
   exact A2p hl hb ts args.toList ds p (fun t ht=>(hpl' t ht).2) hlt hA'
  ·rw[hsp,hvars]
   rfl
theorem A61{T:Tab}{C:Checked}{os:Os}{f:FuncId}{fn:Func}{s:ChangeSpec}{u:OpenSpec}{k:(H:Type)→List (DataW H)→Bool}{conds:List PathCond}{H:Type}{enc:TypeId×Value→H}(F:Stop.Interp)(ts:List Nat)(tb L n:Nat)
  (hu:u={ OpenSpec.ofChange s with cond:=some k }) (hk:∀ ds:List (DataW H),k H ds=true→bulkDs ds≤L)
  (hT:TabOk C.prog T) (hl:laidOutB C.prog=true) (own:ownKnob C.prog.godebug=none) (started:os.Started) (noInit:C.prog.inits.idxOf? f=none) (hfn:C.prog.funcs[f]?=some fn)
  (hts:fn.params=ts.toArray) (htb:fn.resultTypes=#[tb]) (hub:C.prog.underlying tb=some .bool) (hpl:ts.all (fun t=>N7 T n t && C.prog.readableRec t && Nat.blt t C.prog.types.size)=true)
  (hvars:s.vars=[]) (hspec:∀ ds:List (DataW H),ds.length=ts.length→s.fn H (ds++[])={ results:=[.lit (.bool true)],args:=ds })
  (witness:∃(w:World) (tape:Tape) (i:Input),w.os=os∧(w.forCall tape i).Shaped C.prog∧i.vars=[]∧Input.okWide C.prog (w.forCall tape i) .any w.heap.size f i ∧
   u.pre6 enc C.prog fn conds false (w.forCall tape i).memory i.args∧({}:Assume).holds C.prog (lone (Frame.enter C.prog f i.args .normal) [] (w.forCall tape i)))
  (hcon:∀ avs,B8e T L n ts avs→Con C.prog f avs (.b true)) :
  ReturnsInHanded {} C os f .any (u.pre6 enc C.prog fn conds false) ((u.at F).post enc C.prog fn false true false false):=by
 subst hu
 refine returnsInHanded_of_cond_sized (k:=k) rfl own started noInit hfn witness ?_
 intro W base args ds gs before hval hW _ hkk hsz _
 exact B8g ts tb L n hT hl hts htb hub hpl hvars hspec hcon hval hW hsz (hk _ hkk)
theorem W6{α:Type}{g:α→List AV}{Q:α→Prop}{C:List AV→Prop}(h:∀ r,C r→∃ x,r=g x∧Q x):∀(rows:List (List AV)),(∀ r∈rows,C r)→∃ xs:List α,rows=xs.map g∧∀ x∈xs,Q x
 | [],_=>⟨[],rfl,fun x hx=>by simp at hx⟩
 | r :: rows,hr=>by
  obtain⟨x,h1,h2⟩:=h r (hr r (by simp))
  obtain⟨xs,h3,h4⟩:=W6 h rows fun q hq=>hr q (List.mem_cons_of_mem _ hq)
  refine⟨x :: xs,by rw[h1,h3];rfl,fun y hy=>?_⟩
  rcases List.mem_cons.1 hy with rfl | hy
  ·exact h2
  ·exact h4 y hy
end Go.E
namespace Go.Proofs.YtokhjapfekbobaaGreat
open Go.E
set_option maxRecDepth 100000
set_option maxHeartbeats 4000000
open Go.ChangeShapes Go.WideShapes Go.ChangeAt Go.RowKit Go
theorem Tryz.own:Go.ownKnob Tryz.prog.godebug=none:=by kernel_rfl
theorem Tryz.laidOut:laidOutB Tryz.prog=true:=by kernel_rfl
def inr(n:Int):Prop:=-9223372036854775808≤n∧n≤9223372036854775807
theorem ty3{L n:Nat}{cs:List AV}(h:TyC tab L (n+1) 3 cs):∃ x,cs=c3 x∧inr x:=by
 obtain⟨x,rfl,h1,h2⟩:=h
 exact⟨x,rfl,h1,h2⟩
theorem ty65{L n:Nat}{cs:List AV}(h:TyC tab L (n+2) 65 cs):∃ d:Dot,cs=c65 d∧inr d.rep∧inr d.num:=by
 obtain⟨a,b,rfl,ha,c,d,rfl,hc,rfl⟩:=h
 obtain⟨x,rfl,hx⟩:=ty3 ha
 obtain⟨y,rfl,hy⟩:=ty3 hc
 exact⟨⟨x,y⟩,rfl,hx,hy⟩
theorem ty9{L n:Nat}{cs:List AV}(h:TyC tab L (n+1) 9 cs):∃ s:ByteArray,cs=[.s s]∧s.size≤140737488351232:=by
 obtain⟨s,rfl,_,h2,_⟩:=h
 exact⟨s,rfl,h2⟩
theorem ty109{L n:Nat}{cs:List AV}(h:TyC tab L (n+2) 109 cs):∃ d:Span,cs=B3 d∧inr d.rep∧inr d.lo∧inr d.hi:=by
 obtain⟨a,b,rfl,ha,c,d,rfl,hc,e,f,rfl,he,rfl⟩:=h
 obtain⟨x,rfl,hx⟩:=ty3 ha
 obtain⟨y,rfl,hy⟩:=ty3 hc
 obtain⟨z,rfl,hz⟩:=ty3 he
 exact⟨⟨x,y,z⟩,rfl,hx,hy,hz⟩
def inE(e:Entry):Prop:=inr e.dot.rep∧inr e.dot.num∧e.sku.size≤140737488351232∧inr e.qty
theorem ty67{L n:Nat}{cs:List AV}(h:TyC tab L (n+3) 67 cs):∃ e:Entry,cs=c67 e∧inE e:=by
 obtain⟨a,b,rfl,ha,c,d,rfl,hc,e,f,rfl,he,rfl⟩:=h
 obtain⟨x,rfl,hx⟩:=ty65 ha
 obtain⟨y,rfl,hy⟩:=ty9 hc
 obtain⟨z,rfl,hz⟩:=ty3 he
 exact⟨⟨x,y,z⟩,rfl,hx.1,hx.2,hy,hz⟩
theorem ty22{L n:Nat}{cs:List AV}(h:TyC tab L (n+4) 22 cs):∃ xs:List Entry,cs=[.sl (xs.map c67)]∧((∀ x∈xs,inE x)∧xs.length*40≤140737488351232)∧xs.length≤L:=by
 obtain⟨rows,rfl,h1,h2,hL,h3⟩:=h
 obtain⟨xs,rfl,hx⟩:=W6 (fun r hr=>ty67 hr) rows h3
 exact⟨xs,rfl,⟨hx,by rw[List.length_map]at h2;exact h2⟩,by rw[List.length_map]at hL;exact hL⟩
mutual
theorem bulk_eq {H : Type} : ∀ d : DataW H, Rows.uptoBulk d = bulkD d
  | .lit l => by cases l <;> simp [Rows.uptoBulk, bulkD]
  | .nil => by simp [Rows.uptoBulk, bulkD]
  | .ptr d => by simp only [Rows.uptoBulk, bulkD, bulk_eq d]
  | .slice elems spare => by simp only [Rows.uptoBulk, bulkD, bulks_eq elems, bulks_eq spare]
  | .agg parts => by simp only [Rows.uptoBulk, bulkD, bulks_eq parts]
  | .iface _ d => by simp only [Rows.uptoBulk, bulkD, bulk_eq d]
  | .map entries => by simp only [Rows.uptoBulk, bulkD, bulkm_eq entries]
  | .held _ => by simp [Rows.uptoBulk, bulkD]
theorem bulks_eq {H : Type} : ∀ l : List (DataW H), Rows.uptoBulkAll l = bulkDs l
  | [] => by simp [Rows.uptoBulkAll, bulkDs]
  | d :: r => by simp only [Rows.uptoBulkAll, bulkDs, bulk_eq d, bulks_eq r]
theorem bulkm_eq {H : Type} : ∀ l : List (Lit × DataW H), Rows.uptoBulkEntries l = bulkDm l
  | [] => by simp [Rows.uptoBulkEntries, bulkDm]
  | x :: r => by simp only [Rows.uptoBulkEntries, bulkDm, bulke_eq x, bulkm_eq r]
theorem bulke_eq {H : Type} : ∀ x : Lit × DataW H, Rows.uptoBulkEntry x = bulkDe x
  | (l, d) => by cases l <;> simp only [Rows.uptoBulkEntry, bulkDe, bulk_eq d]
end
theorem B0l{H:Type}(ds:List (DataW H))(h:Rows.uptoSmall H ds=true):bulkDs ds≤1048576:=by
 rw[← bulks_eq]
 exact of_decide_eq_true h
end Go.Proofs.YtokhjapfekbobaaGreat
namespace Go.Proofs.YtokhjapfekbobaaGreat
open Go.E
set_option maxRecDepth 100000
set_option maxHeartbeats 4000000
def inPL(L:Nat)(p:Past):Prop:=szP p∧p.cloud.length≤L∧p.vec.length≤L
theorem ly23{L n:Nat}{cs:List AV}(h:TyC tab L (n+2) 23 cs):∃ xs:List Int,cs=c23 xs∧xs.length*8≤140737488351232∧xs.length≤L:=by
 obtain⟨rows,rfl,h1,h2,hL,h3⟩:=h
 obtain⟨xs,rfl,hx⟩:=W6 (fun r hr=>ty3 hr) rows h3
 exact⟨xs,rfl,by rw[List.length_map]at h2;exact h2,by rw[List.length_map]at hL;exact hL⟩
theorem ly24{L n:Nat}{cs:List AV}(h:TyC tab L (n+3) 24 cs):∃ xs:List Span,cs=[.sl (xs.map B3)]∧xs.length*24≤140737488351232∧xs.length≤L:=by
 obtain⟨rows,rfl,h1,h2,hL,h3⟩:=h
 obtain⟨xs,rfl,hx⟩:=W6 (fun r hr=>ty109 hr) rows h3
 exact⟨xs,rfl,by rw[List.length_map]at h2;exact h2,by rw[List.length_map]at hL;exact hL⟩
theorem ly26{L n:Nat}{cs:List AV}(h:TyC tab L (n+4) 26 cs):∃ p:Past,cs=c26 p∧inPL L p:=by
 obtain⟨a,b,rfl,ha,c,d,rfl,hc,rfl⟩:=h
 obtain⟨x,rfl,hx⟩:=ly23 (L:=L) (n:=n+1) ha
 obtain⟨y,rfl,hy⟩:=ly24 hc
 exact⟨⟨x,y⟩,rfl,⟨by simp only;omega,by simp only;omega⟩,hy.2,hx.2⟩
theorem ly83{L n:Nat}{cs:List AV}(h:TyC tab L (n+5) 83 cs):∃ r:Record,cs=c83 r∧inPL L r.past:=by
 obtain⟨a,b,rfl,ha,c,d,rfl,hc,rfl⟩:=h
 obtain⟨x,rfl,hx⟩:=ty9 (L:=L) (n:=n+3) ha
 obtain⟨y,rfl,hy⟩:=ly26 hc
 exact⟨⟨x,y⟩,rfl,hy⟩
def inRL(L:Nat)(rs:List Record):Prop:=(∀ r∈rs,inPL L r.past)∧rs.length*64≤140737488351232∧rs.length≤L
theorem ly27{L n:Nat}{cs:List AV}(h:TyC tab L (n+6) 27 cs):∃ rs:List Record,cs=[.sl (rs.map c83)]∧inRL L rs:=by
 obtain⟨rows,rfl,h1,h2,hL,h3⟩:=h
 obtain⟨xs,rfl,hx⟩:=W6 (fun r hr=>ly83 hr) rows h3
 exact⟨xs,rfl,hx,by rw[List.length_map]at h2;exact h2,by rw[List.length_map]at hL;exact hL⟩
def inFL(L:Nat)(f:Facts):Prop:=(f.adds.length*40≤140737488351232∧f.adds.length≤L)∧inPL L f.gone∧inRL L f.recs
theorem ly29{L n:Nat}{cs:List AV}(h:TyC tab L (n+7) 29 cs):∃ f:Facts,cs=c29 f∧inFL L f:=by
 obtain⟨a,b,rfl,ha,c,d,rfl,hc,e,g,rfl,he,rfl⟩:=h
 obtain⟨x,rfl,hx⟩:=ty22 (L:=L) (n:=n+2) ha
 obtain⟨y,rfl,hy⟩:=ly26 (L:=L) (n:=n+2) hc
 obtain⟨z,rfl,hz⟩:=ly27 he
 exact⟨⟨x,y,z⟩,rfl,⟨hx.1.2,hx.2⟩,hy,hz⟩
theorem ta29{L:Nat}{a:AV}(h:TyA tab L 9 29 a):∃ f:Facts,a=.agg (c29 f)∧inFL L f:=by
 obtain⟨cs,rfl,h2⟩:=(show ∃ cs,a=.agg cs∧TyC tab L 9 29 cs from h)
 obtain⟨d,rfl,k⟩:=ly29 (L:=L) (n:=2) h2
 exact⟨d,rfl,k⟩
theorem inF_sz{L:Nat}{f:Facts}(h:inFL L f):szF f:=⟨h.2.1.1,fun r hr=>(h.2.2.1 r hr).1⟩
end Go.Proofs.YtokhjapfekbobaaGreat
namespace Go.Proofs.YtokhjapfekbobaaGreat
open Go.E
set_option maxRecDepth 100000
set_option maxHeartbeats 4000000
theorem B4i{L M:Nat}(hM:M=L+1):∀ {rs:List Record},(∀ r∈rs,r.past.cloud.length≤L)→A2q rs≤rs.length*M
 | [],_=>by simp [A2q]
 | r :: rs,h=>by
  have h1:=h r (by simp)
  have h2:=B4i hM (rs:=rs) (fun x hx=>h x (by simp [hx]))
  simp only [A2q,List.map_cons,List.sum_cons,List.length_cons,Nat.add_mul]at *
  omega
theorem Bl9{f:Facts}(h1:szF f)(h2:f.recs.length≤1048576)(h3:A2q f.recs≤1099512676352):szB 1 f:=by
 unfold szB
 rw[Nat.one_mul,Nat.one_mul]
 exact⟨h1,h2,h3⟩
theorem inF_B{f:Facts}(h:inFL 1048576 f):szB 1 f:=by
 have h0:f.recs.length≤1048576:=h.2.2.2.2
 have h1:A2q f.recs≤f.recs.length*1048577:=B4i (L:=1048576) rfl (fun r hr=>(h.2.2.1 r hr).2.1)
 have h2:f.recs.length*1048577≤1048576*1048577:=Nat.mul_le_mul_right _ h0
 exact Bl9 (inF_sz h) h0 (Nat.le_trans h1 (Nat.le_trans h2 (by decide)))
end Go.Proofs.YtokhjapfekbobaaGreat
namespace Go.Proofs.YtokhjapfekbobaaGreat
open Go.E
set_option maxRecDepth 100000
set_option maxHeartbeats 4000000
theorem Tryz.rowedM:Go.mapsRowed Tryz.prog=true:=by kernel_rfl
theorem Tryz.stopsH:Tryz.prog.stopsHeard=true:=by kernel_rfl
theorem Tryz.mayE:Tryz.prog.mayEnter=true:=by kernel_rfl
end Go.Proofs.YtokhjapfekbobaaGreat
