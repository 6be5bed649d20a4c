/- Dn: the law of what Event takes. Conditions: sizes. EN: from a law's contract to its row: 'for every input it answers true, and the input reads as it did'. Conditions: none named, none written. Wx: what is handed in, by its types. Conditions: none. Wy: what is handed in, by its types (acts, facts). Conditions: none. Qj: facts of the program that every row asks for, each by itself. Conditions: none. -/
import Derived.Below
import Derived.OwnWalk
import Derived.WalkKit
import Derived.KernelRfl
import Derived.Laws.MakeOwn
import Derived.Laws.OwnMore
import Derived.Laws.Slices
import Derived.Laws.CopyOwn
import Derived.Laws.AppendOwnNone
import Derived.Laws.Rows
import Derived.Orders
import Derived.Test.YtphcaholhacnpaaGreatProg
import Derived.DataReads
import Derived.ChangeOld
import Derived.DataElems
import Derived.SizedLaws
import Derived.ChangeKeysEq
import Derived.Sort.LotA
import Derived.Shelf.SlSortFuncK.RowK2
import Derived.Shelf.SlSortCmp.NoneTotal
import Derived.Lib.Walk
import Derived.Shelf.SlLaysE0
import Derived.Shelf.RegionOpenPlain
import Derived.Deep.LoopGhost
import Derived.Lib.SliceRun
import Derived.Lib.Bytealg
import Derived.BigQuiet
import Derived.Shelf.SlSortFuncK.WholeK
import Derived.Shelf.GgSortFunc.Tiny
import Derived.Maps.RangeRun
import Derived.Shelf.SlSortFuncK.SWK
import Derived.Deep.Cut
import Derived.Deep.CutRange
import Derived.Deep.DeepCutAuto
import Derived.Lib.ReflectliteSwap
import Derived.Laws.Externs
import Derived.Lib.ReflectliteSlice
import Derived.Lib.AppendZeros
import Derived.Calls
import Derived.ProofKit
import Derived.JoinedCond
import Derived.Deep.CondSized
import Derived.Test.YtphcaholhacnpaaGreatRows
import Derived.Test.YtphcaholhacnpaaGreatZm5
set_option linter.unusedVariables false
set_option linter.unusedSimpArgs false
namespace Go.Proofs.YtphcaholhacnpaaGreat
open Go.E
set_option maxRecDepth 100000
set_option maxHeartbeats 4000000
theorem Ay1(n:Int):AV.i .u64 (Go.IntKind.u64.wrap n)=AV.i .u64 (n % 18446744073709551616):=by
 have:Go.IntKind.u64.wrap n=n % 18446744073709551616:=by simp [Go.IntKind.wrap,Go.IntKind.bits,Go.IntKind.signed]
 rw[this]
noncomputable def T4(f:Facts):Past:=if(f.adds.length:Int)=1 then T0 [f.gone,A6n f.adds[0]!]else f.gone
def eqA(f:Facts)(k:Int)(u:ByteArray)(q:Int):Prop:=k=(Z0 f).kind∧u=(Z0 f).sku∧q=(Z0 f).qty
def eqP(p:Past)(v:List Int)(c:List Span):Prop:=v=p.vec∧c=p.cloud
def eqL(d:List Dot)(s:ByteArray)(i:Int)(l:List Entry):Prop:=0≤i∧i≤d.length∧(l.length:Int)=i∧l=(A0l d s).take i.toNat
def Al3(f:Facts)(d:List Dot)(i:Int)(x1:List Entry)(x2:List Int)(x3:List Span)(x4:List Record)(k:Int)(u:ByteArray)(q:Int)(v:List Int)(c:List Span)(l:List Entry):Prop:=B6m f x1 x2 x3 x4∧eqA f k u q∧eqP (T4 f) v c∧eqL d (A6i f) i l
def decMk(d:List Dot)(i:Int)(x1:List Entry)(x2:List Int)(x3:List Span)(x4:List Record)(k:Int)(u:ByteArray)(q:Int)(v:List Int)(c:List Span)(l:List Entry):Nat:=(d.length-i).toNat
def Al4(f:Facts)(d:List Dot)(i:Int)(x1:List Entry)(x2:List Int)(x3:List Span)(x4:List Record)(k:Int)(u:ByteArray)(q:Int)(v:List Int)(c:List Span)(v2:List Int)(c2:List Span)(l:List Entry):Prop:=B6m f x1 x2 x3 x4∧eqA f k u q∧eqP (Z0 f).past v c∧eqP (T4 f) v2 c2∧eqL d (A6i f) i l
def decMl(d:List Dot)(i:Int)(x1:List Entry)(x2:List Int)(x3:List Span)(x4:List Record)(k:Int)(u:ByteArray)(q:Int)(v:List Int)(c:List Span)(v2:List Int)(c2:List Span)(l:List Entry):Nat:=(d.length-i).toNat
theorem B3z{p:Past}(h:¬¬(B9 p).2=true):(B9 p).1=N7 p∧(N7 p).length≤300:=by
 rw[Ag1]at *
 by_cases c:((N7 p).length:Int)≤300
 ·rw[if_pos c];exact⟨rfl,by omega⟩
 ·rw[if_neg c]at h;exact absurd (show ¬(false=true)by decide) h
theorem F8{p:Past}{s:ByteArray}{i:Int}{l:List Entry}(h:¬¬(B9 p).2=true)(e:eqL (B9 p).1 s i l):0≤i∧i≤300∧(l.length:Int)=i:=by
 have k:=B3z h
 have e1:=e.2.1
 rw[k.1]at e1
 exact⟨e.1,by have:=k.2;omega,e.2.2.1⟩
theorem A1v{d:List Dot}{s:ByteArray}{i:Int}{l:List Entry}(e:eqL d s i l)(hi:i < d.length):eqL d s (i+1) (l++[⟨d[i.toNat]!,s,1+i⟩]) :=
 ⟨by have:=e.1;omega,by omega,by rw[List.length_append,List.length_singleton];have:=e.2.2.1;omega,by rw[e.2.2.2,Al1 e.1 hi]⟩
theorem A1w(d:List Dot)(s:ByteArray):eqL d s 0 []:=⟨by omega,by omega,rfl,by simp⟩
theorem A8i{f:Facts}(a:(f.adds.length:Int)=1):T4 f=T0 [f.gone,A6n f.adds[0]!]:=by unfold T4;rw[if_pos a]
theorem A6k{f:Facts}(a:¬(f.adds.length:Int)=1):T4 f=f.gone:=by unfold T4;rw[if_neg a]
theorem B2m{f:Facts}(a:(f.adds.length:Int)=1):A6i f=f.adds[0]!.sku:=by unfold A6i;rw[if_pos a]
theorem A9v{f:Facts}(a:¬(f.adds.length:Int)=1):A6i f=⟨#[65]⟩:=by unfold A6i;rw[if_neg a]
theorem Q5{f:Facts}(h:evE f=0):T4 f=A5 (T4 f):=by
 unfold T4
 split
 ·exact As1 _
 ·exact(A12.1 (A8h h)).2.1
theorem K4{f:Facts}(h:evE f=0)(a:(f.adds.length:Int)=1):J4 f.adds[0]!.dot=true∧(0≤f.adds[0]!.dot.rep∧f.adds[0]!.dot.rep < 16∧1≤f.adds[0]!.dot.num∧f.adds[0]!.dot.num≤1000000000):=by
 have hm:f.adds[0]!∈f.adds:=E1 (by omega)
 have hx:=(Q4.1 (((A0z _).1 (A12.1 (A8h h)).1).1 _ hm)).1
 have hd:=hx
 unfold J4 at hd
 rw[decide_eq_true_iff]at hd
 exact⟨hx,by omega⟩
theorem Ag9{f:Facts}(h:evE f=0)(k:¬¬(B9 f.gone).2=true){i:Int}{l:List Entry}(e:eqL (B9 f.gone).1 (A6i f) i l)(hi:¬ i <(B9 f.gone).1.length){r:Int}(hr:¬(r < 0∨16≤r))(ha:(f.adds.length:Int)=1→r=f.adds[0]!.dot.rep)
  {A:Actn} (hA:A=Z0 f):(C9 l (T4 f) r ⟨1,1000000000⟩ A).2=0∧(C9 l (T4 f) r ⟨1,1000000000⟩ A).1=f:=by
 obtain⟨k1,k2⟩:=B3z k
 have g:=Ax9 h
 have e4:=e.2.2.2
 have e2:=e.2.1
 rw[k1]at e4 e2 hi
 rw[List.take_of_length_le (by rw[A8g];omega)]at e4
 have hl:=Ag7 (p:=f.gone) g k2
 have hp:=Al2 (p:=f.gone) g k2 (A12.1 (A8h h)).2.1
 have hall:∀ x∈A0l (N7 f.gone) (A6i f),x.sku=A6i f:=fun x hx=>(A3m hx).2.1
 have hgo:∀ x∈A0l (N7 f.gone) (A6i f),G7 f.gone x.dot=true:=fun x hx=>A3l.1 (A3m hx).1
 rw[← e4]at hl hp hall hgo
 clear e4 e k1 k2
 have hin:∀ x∈l,G7 (T4 f) x.dot=true:=fun x hx=>by
  unfold T4
  split
  ·rw[A5u]
   simp only [List.any_cons,List.any_nil,Bool.or_false,Bool.or_eq_true]
   exact .inl (hgo x hx)
  ·exact hgo x hx
 have z:=B67 h hl hp hall hin (Q5 h) hr (fun c=>by
  have c':(f.adds.length:Int)=1:=by omega
  have rr:=ha c'
  refine⟨rr,?_⟩
  rw[rr,A8i c']
  rcases Ag8 h with⟨_,_,_,q⟩ | ⟨q,_⟩ | ⟨q,_⟩
  ·exact B2k (K4 h c').1 q
  ·rw[q]at c;exact absurd c (by decide)
  ·rw[q]at c;exact absurd c (by decide))
 rw[hA]
 have z':C9 l (T4 f) r ⟨1,1000000000⟩ (Z0 f)=(f,0):=z
 rw[z']
 exact⟨rfl,rfl⟩
theorem Ah0{f:Facts}(a:(f.adds.length:Int)=1):Z0 f=⟨1,f.adds[0]!.sku,f.adds[0]!.qty,⟨[],[]⟩⟩:=by unfold Z0;rw[if_pos a]
theorem A6l{f:Facts}(a:¬(f.adds.length:Int)=1)(r:(f.recs.length:Int)=1∧f.recs[0]!.sku=E3):Z0 f=⟨6,E3,0,f.recs[0]!.past⟩:=by unfold Z0;rw[if_neg a,if_pos r]
theorem A9w{f:Facts}(a:¬(f.adds.length:Int)=1)(n:¬((f.recs.length:Int)=1∧f.recs[0]!.sku=E3))(r:(f.recs.length:Int)=1):Z0 f=⟨4,f.recs[0]!.sku,0,f.recs[0]!.past⟩:=by unfold Z0;rw[if_neg a,if_neg n,if_pos r]
theorem Ah1{f:Facts}(a:¬(f.adds.length:Int)=1)(n:¬((f.recs.length:Int)=1∧f.recs[0]!.sku=E3))(r:¬(f.recs.length:Int)=1):Z0 f=⟨5,E3,0,⟨[],[]⟩⟩:=by unfold Z0;rw[if_neg a,if_neg n,if_neg r]
theorem A1x{f:Facts}{p:Past}(h:(Z0 f).past=p):(⟨(Z0 f).kind,(Z0 f).sku,(Z0 f).qty,p⟩:Actn)=Z0 f:=by rw[← h]
theorem bef_le(g:Past)(x:Entry):A7 (.sl [[.sl (g.vec.map c3),.sl (g.cloud.map B1)],[.sl ((A6n x).vec.map c3),.nl]]) (.sl ([g,A6n x].map c26)):=by
 refine B69 rfl fun j a b ha hb=>?_
 match j with
 | 0 =>
  have ha:some [AV.sl (g.vec.map c3),.sl (g.cloud.map B1)]=some a:=ha
  have hb:some (c26 g)=some b:=hb
  cases ha
  cases hb
  exact ZLe.refl _
 | 1 =>
  have ha:some [AV.sl ((A6n x).vec.map c3),.nl]=some a:=ha
  have hb:some (c26 (A6n x))=some b:=hb
  cases ha
  cases hb
  exact ZLe.cons (A7.refl _) (ZLe.cons A7.nl ZLe.nil)
 | j+2=>cases(show(none:Option (List AV))=some a from ha)
theorem B6a{g:Past}(x:Entry)(h:g=A5 g):A1p [g,A6n x]*16≤140737488350000:=by
 have h1:=B60 h
 have e:A1p [g,A6n x]=g.cloud.length+1+((A6n x).cloud.length+1):=by simp [A1p]
 rw[e]
 show(g.cloud.length+1+(0+1))*16≤_
 omega
theorem con4(f:Facts)(rep:Int)(hb:szF f):Con Tryz.prog 4 [.agg (c36 f),.i .i64 rep] (.b true) :=
 by
 have rr:0≤(rep % 18446744073709551616).tmod 16∧(rep % 18446744073709551616).tmod 16 < 16:=by
  rw[Int.tmod_eq_emod_of_nonneg (by omega)]
  omega
 have r16:¬((rep % 18446744073709551616).tmod 16 < 0∨16≤(rep % 18446744073709551616).tmod 16):=by omega
 have nn:∀ {p:Prop},¬¬p→p:=Classical.not_not.1
 have hG:∀(l:List Dot) (i:Int),0≤i→i < l.length→(l.map c44)[i.toNat]?=some (c44 l[i.toNat]!):=fun l i h0 h=>by
  rw[List.getElem?_map,List.getElem?_eq_getElem (by omega),getElem!_pos l i.toNat (by omega)];rfl
 have hI:∀(l:List Int) (i:Int),0≤i→i < l.length→(l.map c3)[i.toNat]?=some (c3 l[i.toNat]!):=fun l i h0 h=>by
  rw[List.getElem?_map,List.getElem?_eq_getElem (by omega),getElem!_pos l i.toNat (by omega)];rfl
 refine sC B3 [.tmp 4] 146 Tryz.func4 ?_
 intro e0 cx
 refine sq<|rG cx [1,2] [2] z0<|sn<|sq<|sq<|rG cx [1,2,18] [2] (fT (con13 ) (oA 0 (.b (true)) z0))<|sn<|R6 (by kernel_rfl) (by kernel_rfl)<|sK<|sn<|sq<|rG cx [1,2,5,6] [2] (fT (con19 (f.gone) (by exact hb.1.1)) (oA 2 (.tup [.sl (List.map c44 (B9 f.gone).1),.b ((B9 f.gone).2)]) z0)) ?_
 refine sn<|sq<|sq<|rG cx [1,2,5,6,27] [2] (fT (con20 (f) (by(with_reducible assumption))) (tN 2 (evE f) (0:Int) (oA 1 (.i .i64 (evE f)) z0)))<|sn<|dC (¬evE f=0) (fun hh0=>?_) fun hh0=>?_
 refine sq<|rG cx [4] [] (fT (con17 (f) (by(with_reducible assumption))) (tT 2 (G2 hh0:AV.b (evE f !=0)=AV.b true) (oA 1 (.i .i64 (evE f)) z0)))<|sn<|rT<|nR ?_
 exact Y2 (r:=.b (true)) (obl:=[]) (by kernel_rfl) trivial (A7.refl _)
 refine sK<|sn<|sq<|sq<|rG cx [1,2,5,32] [2] (tO 1 ((B9 f.gone).2) z0)<|sn<|dC (¬(B9 f.gone).2=true) (fun h1=>?_) fun h1=>?_
 refine sq<|rG cx [4] [] (fT (con17 (f) (by(with_reducible assumption))) (tB 2 (evE f=0) (oA 1 (.i .i64 (evE f)) z0)))<|sn<|rT<|nR<|qR (.b (decide (evE f=0))) (.eq (by exact congrArg AV.b (decide_eq_true (nn hh0))))
 refine sK<|sn<|sq<|rG cx [1,2,5,7] [2,7] z0<|sn<|sq<|rG cx [1,2,5,7,8] [2,7] z0<|sn<|sq<|rg (A:=(AV.i IntKind.u64 (IntKind.u64.wrap rep)=AV.i IntKind.u64 (rep % (18446744073709551616:Int)))∧(AV.i IntKind.u64 ((rep % (18446744073709551616:Int)).tmod (16:Int))=AV.i IntKind.u64 ((rep % (18446744073709551616:Int)).tmod (16:Int)))∧(AV.i .i64 (IntKind.i64.wrap ((rep % (18446744073709551616:Int)).tmod (16:Int)))=AV.i .i64 ((rep % (18446744073709551616:Int)).tmod (16:Int)))) cx [(1,{ tell:=some (.i .u64 (rep % (18446744073709551616:Int))) }),(2,{ tell:=some (.i .u64 ((rep % (18446744073709551616:Int)).tmod (16:Int))) }),(3,{ tell:=some (.i .i64 ((rep % (18446744073709551616:Int)).tmod (16:Int))) })] [2,5,7,8,9] [2,7] ⟨(Ay1 rep),(by kernel_rfl),(B4 (by omega) (by omega))⟩ ?_
 refine sn<|sq<|rG cx [2,5,7,8,9,10] [2,7,10] z0<|sn<|sq<|bL 0<|rD cx [2,5,7,8,9,10,43] [2,7,10] (tL 2 c46 f.adds (zB 3 ((↑f.adds.length:Int)=1))) (fun h2=>?_) fun h2=>?_
 refine sq<|rG cx [2,5,7,10,11] [2,7,10,11] (fO ((0:Int)≤(0:Int)) (fP ((List.map c46 f.adds)[Int.toNat (0:Int)]?=some (c46 f.adds[(0:Nat)]!)) (by exact Ax0 _ (fun q=>by omega)) (fR 4 (fN 4 4 (oR 2 (c46 f.adds[(0:Nat)]!) z0))))) ?_
 refine sn<|sq<|rG cx [2,5,7,10,11] [2,7,10,11] z0<|sn<|sq<|rG cx [2,5,7,10,11,8] [2,7,10,11] z0<|sn<|sq<|rG cx [2,5,7,10,11,8,9] [2,7,10,11] z0<|sn<|sq<|rG cx [2,5,7,10,11,8,9,12] [2,7,10,11,64] (tT 1 (B4 (by have d:=(K4 (nn hh0) h2).2;omega) (by have d:=(K4 (nn hh0) h2).2;omega):AV.i .i64 (IntKind.i64.wrap (f.adds[(0:Nat)]!.dot.rep+1))=AV.i .i64 (f.adds[(0:Nat)]!.dot.rep+1)) (fP (f.adds[(0:Nat)]!.dot.rep+1=(↑(f.adds[(0:Nat)]!.dot.rep+1).toNat:Int)) (by have d:=(K4 (nn hh0) h2).2;omega) (fP (f.adds[(0:Nat)]!.dot.rep+1=(↑(f.adds[(0:Nat)]!.dot.rep+1).toNat:Int)) (by have d:=(K4 (nn hh0) h2).2;omega) (fP ((8:Nat)*(f.adds[(0:Nat)]!.dot.rep+1).toNat≤(281474976710656:Nat)) (by have d:=(K4 (nn hh0) h2).2;omega) (fP ((f.adds[(0:Nat)]!.dot.rep+1).toNat≤maxLen) (by have d:=(K4 (nn hh0) h2).2;simp only [Go.maxLen];omega) (fR 1 (fP (ZLe [AV.i .i64 (0:Int)] [AV.i .i64 (0:Int)]) (by(with_reducible exact ZLe.refl _)) (fP (List.replicate (f.adds[(0:Nat)]!.dot.rep+1).toNat [AV.i .i64 (0:Int)]=List.map c3 (List.replicate (f.adds[(0:Nat)]!.dot.rep+1).toNat (0:Int))) (by(with_reducible refine A5c ?_;kernel_rfl)) (oV 2 { row:=[.i .i64 ((0:Int))],rows:=some (List.map c3 (List.replicate (f.adds[(0:Nat)]!.dot.rep+1).toNat (0:Int))),n:=(f.adds[(0:Nat)]!.dot.rep+1).toNat } z0))))))))) ?_
 refine sn<|sq<|rG cx [2,5,7,10,8,9,12] [2,7,10,64] (tT 5 (B4 (by have d:=(K4 (nn hh0) h2).2;omega) (by have d:=(K4 (nn hh0) h2).2;omega):AV.i .i64 (IntKind.i64.wrap (f.adds[(0:Nat)]!.dot.num-1))=AV.i .i64 (f.adds[(0:Nat)]!.dot.num-1)) (fP (0≤f.adds[(0:Nat)]!.dot.rep) (by have d:=(K4 (nn hh0) h2).2;omega) (fP (f.adds[(0:Nat)]!.dot.rep.toNat <(List.map c3 (List.replicate (f.adds[(0:Nat)]!.dot.rep+1).toNat (0:Int))).length) (by have d:=(K4 (nn hh0) h2).2;rw[List.length_map,List.length_replicate];omega) (fR 1 (fP ((List.map c3 (List.replicate (f.adds[(0:Nat)]!.dot.rep+1).toNat (0:Int)))[f.adds[(0:Nat)]!.dot.rep.toNat]?=some (c3 (List.replicate (f.adds[(0:Nat)]!.dot.rep+1).toNat (0:Int))[f.adds[(0:Nat)]!.dot.rep.toNat]!)) (by have d:=(K4 (nn hh0) h2).2;exact hI (List.replicate _ 0) _ d.1 (by rw[List.length_replicate];omega)) (fR 1 (fP (0+(1:Nat)≤1) (by(first | omega | (simp only [List.length_map];omega))) (fP ((List.map c3 (List.replicate (f.adds[(0:Nat)]!.dot.rep+1).toNat (0:Int))).set f.adds[(0:Nat)]!.dot.rep.toNat (List.take (0) (c3 (List.replicate (f.adds[(0:Nat)]!.dot.rep+1).toNat (0:Int))[f.adds[(0:Nat)]!.dot.rep.toNat]!)++E0 (AV.i .i64 (f.adds[(0:Nat)]!.dot.num-1))++List.drop (0+(1:Nat)) (c3 (List.replicate (f.adds[(0:Nat)]!.dot.rep+1).toNat (0:Int))[f.adds[(0:Nat)]!.dot.rep.toNat]!))=List.map c3 ((List.replicate (f.adds[(0:Nat)]!.dot.rep+1).toNat (0:Int)).set f.adds[(0:Nat)]!.dot.rep.toNat (f.adds[(0:Nat)]!.dot.num-1))) (by(with_reducible refine A2c ?_;kernel_rfl)) (oV 7 { row:=(c3 (List.replicate (f.adds[(0:Nat)]!.dot.rep+1).toNat (0:Int))[f.adds[(0:Nat)]!.dot.rep.toNat]!),rows:=some (List.map c3 ((List.replicate (f.adds[(0:Nat)]!.dot.rep+1).toNat (0:Int)).set f.adds[(0:Nat)]!.dot.rep.toNat (f.adds[(0:Nat)]!.dot.num-1))) } z0))))))))) ?_
 refine sn<|rG cx [2,5,7,10,8,9] [2,7,10] (fP (Con Tryz.prog (21:Nat) [AV.sl [[AV.sl (List.map c3 f.gone.vec),AV.sl (List.map B1 f.gone.cloud)],[AV.sl (List.map c3 ((List.replicate (f.adds[(0:Nat)]!.dot.rep+1).toNat (0:Int)).set f.adds[(0:Nat)]!.dot.rep.toNat (f.adds[(0:Nat)]!.dot.num-1))),AV.nl]]] (AV.agg [AV.sl (List.map c3 (T0 [f.gone,{ vec:=(List.replicate (f.adds[(0:Nat)]!.dot.rep+1).toNat (0:Int)).set f.adds[(0:Nat)]!.dot.rep.toNat (f.adds[(0:Nat)]!.dot.num-1),cloud:=[]:Past }]).vec),AV.sl (List.map B1 (T0 [f.gone,{ vec:=(List.replicate (f.adds[(0:Nat)]!.dot.rep+1).toNat (0:Int)).set f.adds[(0:Nat)]!.dot.rep.toNat (f.adds[(0:Nat)]!.dot.num-1),cloud:=[]:Past }]).cloud)])) (by exact(con21 [f.gone,A6n f.adds[0]!] (B6a _ (A12.1 (A8h (nn hh0))).2.1)).le (ZLe.cons (bef_le _ _) ZLe.nil)) (oA 5 (.agg [.sl (List.map c3 (T0 [f.gone,{ vec:=(List.replicate (f.adds[(0:Nat)]!.dot.rep+1).toNat (0:Int)).set f.adds[(0:Nat)]!.dot.rep.toNat (f.adds[(0:Nat)]!.dot.num-1),cloud:=[]:Past }]).vec),.sl (List.map B1 (T0 [f.gone,{ vec:=(List.replicate (f.adds[(0:Nat)]!.dot.rep+1).toNat (0:Int)).set f.adds[(0:Nat)]!.dot.rep.toNat (f.adds[(0:Nat)]!.dot.num-1),cloud:=[]:Past }]).cloud)]) z0)) ?_
 refine bN<|sn<|sq<|rG cx [2,5,7,10,8,9,13] [2,7,10] z0<|sn<|sq<|sq<|rG cx [2,5,7,10,8,9,13,14] [2,7,10] z0<|sn<|bL 1<|G1 13 1013 46 4 (σ':=⟨[(2,.ptr (2) (0) (0) (0)),(5,.sl (List.map c44 (B9 f.gone).1)),(7,.ptr (7) (0) (0) (0)),(10,.ptr (10) (0) (0) (0)),(8,.s (f.adds[(0:Nat)]!.sku)),(9,.i .i64 (f.adds[(0:Nat)]!.dot.rep)),(13,.own 1013 0),(14,.i .i64 ((0:Int)))],[(2,⟨0,36,.var [.sl (List.map c46 f.adds),.sl (List.map c3 f.gone.vec),.sl (List.map B1 f.gone.cloud),.sl (List.map c54 f.recs)]⟩),(7,⟨0,30,.var [.i .i64 ((1:Int)),.s (f.adds[(0:Nat)]!.sku),.i .i64 (f.adds[(0:Nat)]!.qty),.nl,.nl]⟩),(10,⟨0,26,.var [.sl (List.map c3 (T0 [f.gone,{ vec:=(List.replicate (f.adds[(0:Nat)]!.dot.rep+1).toNat (0:Int)).set f.adds[(0:Nat)]!.dot.rep.toNat (f.adds[(0:Nat)]!.dot.num-1),cloud:=[]:Past }]).vec),.sl (List.map B1 (T0 [f.gone,{ vec:=(List.replicate (f.adds[(0:Nat)]!.dot.rep+1).toNat (0:Int)).set f.adds[(0:Nat)]!.dot.rep.toNat (f.adds[(0:Nat)]!.dot.num-1),cloud:=[]:Past }]).cloud)]⟩),(1013,⟨0,46,.row 4 (List.map c46 [])⟩)]⟩) (by kernel_rfl)<|sL (X:=Int×List Entry×List Int×List Span×List Record×Int×ByteArray×Int×List Int×List Span×List Entry) (fun x=>⟨[(2,.ptr (2) (0) (0) (0)),(5,.sl (List.map c44 (B9 f.gone).1)),(7,.ptr (7) (0) (0) (0)),(10,.ptr (10) (0) (0) (0)),(8,.s (f.adds[(0:Nat)]!.sku)),(9,.i .i64 (f.adds[(0:Nat)]!.dot.rep)),(13,.own 1013 0),(14,.i .i64 (x.1))],[(2,⟨0,36,.var [.sl (List.map c46 x.2.1),.sl (List.map c3 x.2.2.1),.sl (List.map B1 x.2.2.2.1),.sl (List.map c54 x.2.2.2.2.1)]⟩),(7,⟨0,30,.var [.i .i64 (x.2.2.2.2.2.1),.s (x.2.2.2.2.2.2.1),.i .i64 (x.2.2.2.2.2.2.2.1),.nl,.nl]⟩),(10,⟨0,26,.var [.sl (List.map c3 x.2.2.2.2.2.2.2.2.1),.sl (List.map B1 x.2.2.2.2.2.2.2.2.2.1)]⟩),(1013,⟨0,46,.row 4 (List.map c46 x.2.2.2.2.2.2.2.2.2.2)⟩)]⟩) (fun x ↦ decMk (B9 f.gone).1 x.1 x.2.1 x.2.2.1 x.2.2.2.1 x.2.2.2.2.1 x.2.2.2.2.2.1 x.2.2.2.2.2.2.1 x.2.2.2.2.2.2.2.1 x.2.2.2.2.2.2.2.2.1 x.2.2.2.2.2.2.2.2.2.1 x.2.2.2.2.2.2.2.2.2.2) (fun x ↦ Al3 f (B9 f.gone).1 x.1 x.2.1 x.2.2.1 x.2.2.2.1 x.2.2.2.2.1 x.2.2.2.2.2.1 x.2.2.2.2.2.2.1 x.2.2.2.2.2.2.2.1 x.2.2.2.2.2.2.2.2.1 x.2.2.2.2.2.2.2.2.2.1 x.2.2.2.2.2.2.2.2.2.2) [2,5,7,10,8,9,13,14] [2,7,10,1013] (((0:Int),f.adds,f.gone.vec,f.gone.cloud,f.recs,(1:Int),f.adds[(0:Nat)]!.sku,f.adds[(0:Nat)]!.qty,(T0 [f.gone,{ vec:=(List.replicate (f.adds[(0:Nat)]!.dot.rep+1).toNat (0:Int)).set f.adds[(0:Nat)]!.dot.rep.toNat (f.adds[(0:Nat)]!.dot.num-1),cloud:=[]:Past }]).vec,(T0 [f.gone,{ vec:=(List.replicate (f.adds[(0:Nat)]!.dot.rep+1).toNat (0:Int)).set f.adds[(0:Nat)]!.dot.rep.toNat (f.adds[(0:Nat)]!.dot.num-1),cloud:=[]:Past }]).cloud,[])) (show Al3 f (B9 f.gone).1 (0:Int) f.adds f.gone.vec f.gone.cloud f.recs (1:Int) f.adds[(0:Nat)]!.sku f.adds[(0:Nat)]!.qty (T0 [f.gone,{ vec:=(List.replicate (f.adds[(0:Nat)]!.dot.rep+1).toNat (0:Int)).set f.adds[(0:Nat)]!.dot.rep.toNat (f.adds[(0:Nat)]!.dot.num-1),cloud:=[]:Past }]).vec (T0 [f.gone,{ vec:=(List.replicate (f.adds[(0:Nat)]!.dot.rep+1).toNat (0:Int)).set f.adds[(0:Nat)]!.dot.rep.toNat (f.adds[(0:Nat)]!.dot.num-1),cloud:=[]:Past }]).cloud []from(by exact⟨⟨rfl,rfl,rfl,rfl⟩,by rw[eqA,Ah0 h2];exact⟨rfl,rfl,rfl⟩,by rw[A8i h2];exact⟨rfl,rfl⟩,A1w _ _⟩)) ?_
 rintro⟨i3,xx4,x5,x6,x7,k8,u9,q10,v11,c12,l13⟩ h_14
 obtain⟨h15,h16,h17,h18⟩:B6m f xx4 x5 x6 x7∧eqA f k8 u9 q10∧eqP (T4 f) v11 c12∧eqL (B9 f.gone).1 (A6i f) i3 l13:=h_14
 refine sq<|rD cx [2,5,7,10,8,9,13,14,116] [2,7,10,1013] (tL 2 c44 ((B9 f.gone).1) (zB 3 (i3 <(↑(B9 f.gone).1.length:Int)))) (fun h19=>?_) fun h19=>?_
 refine sK<|sn<|sq<|bL 2<|rG cx [2,5,7,10,8,9,13,14] [2,7,10,1013] (fP (0≤i3) (by exact h18.1) (fP ((List.map c44 (B9 f.gone).1)[i3.toNat]?=some (c44 (B9 f.gone).1[i3.toNat]!)) (by exact hG _ _ h18.1 h19) (fR 2 (fN 2 2 (tT 7 (B4 (by have b:=F8 h1 h18;omega) (by have b:=F8 h1 h18;omega):AV.i .i64 (IntKind.i64.wrap (1+i3))=AV.i .i64 (1+i3)) (fR 46 (fR 4 (fR 4 (fX c46 [{ dot:=(B9 f.gone).1[i3.toNat]!,sku:=f.adds[(0:Nat)]!.sku,qty:=1+i3:Entry }] 4 (fP ((List.map c46 l13).length+(List.map c46 [{ dot:=(B9 f.gone).1[i3.toNat]!,sku:=f.adds[(0:Nat)]!.sku,qty:=1+i3:Entry }]).length≤maxLen) (by have b:=F8 h1 h18;simp only [List.length_map,List.length_cons,List.length_nil,Go.maxLen];omega) (fP (((List.map c46 l13).length+(List.map c46 [{ dot:=(B9 f.gone).1[i3.toNat]!,sku:=f.adds[(0:Nat)]!.sku,qty:=1+i3:Entry }]).length)*(40:Nat)≤(140737488355328:Nat)) (by have b:=F8 h1 h18;simp only [List.length_map,List.length_cons,List.length_nil];omega) (fM c46 l13 [{ dot:=(B9 f.gone).1[i3.toNat]!,sku:=f.adds[(0:Nat)]!.sku,qty:=1+i3:Entry }] (oR 3 (c44 (B9 f.gone).1[i3.toNat]!) (oV 10 { rows:=some (List.map c46 (l13++[{ dot:=(B9 f.gone).1[i3.toNat]!,sku:=f.adds[(0:Nat)]!.sku,qty:=1+i3:Entry }])) } z0)))))))))))))) ?_
 refine bN<|sn<|rG cx [2,5,7,10,8,9,13,14] [2,7,10,1013] (tT 1 (B4 (by have b:=F8 h1 h18;omega) (by have b:=F8 h1 h18;omega):AV.i .i64 (IntKind.i64.wrap (i3+1))=AV.i .i64 (i3+1)) z0) ?_
 refine sn<|nX ((i3+1,xx4,x5,x6,x7,k8,u9,q10,v11,c12,l13++[{ dot:=(B9 f.gone).1[i3.toNat]!,sku:=f.adds[(0:Nat)]!.sku,qty:=1+i3:Entry }])) (show((↑(B9 f.gone).1.length:Int)-(i3+1)).toNat <((↑(B9 f.gone).1.length:Int)-i3).toNat from(by omega)) (show Al3 f (B9 f.gone).1 (i3+1) xx4 x5 x6 x7 k8 u9 q10 v11 c12 (l13++[{ dot:=(B9 f.gone).1[i3.toNat]!,sku:=f.adds[(0:Nat)]!.sku,qty:=1+i3:Entry }])from(by refine⟨h15,h16,h17,?_⟩;have z:=A1v h18 h19;rw[B2m h2]at z ⊢;exact z))
 refine eX 1<|nE<|nE<|bH<|sn<|sq<|rG cx [2,15,16] [2,15] (fP (Con Tryz.prog (15:Nat) [AV.sl (List.map c46 l13),AV.agg [AV.sl (List.map c3 v11),AV.sl (List.map B1 c12)],AV.i .i64 f.adds[(0:Nat)]!.dot.rep,AV.agg [AV.i .i64 (1:Int),AV.i .i64 (1000000000:Int)],AV.agg [AV.i .i64 k8,AV.s u9,AV.i .i64 q10,AV.nl,AV.nl]] (AV.tup [AV.agg [AV.sl (List.map c46 (C9 l13 { vec:=v11,cloud:=c12:Past } f.adds[(0:Nat)]!.dot.rep { lines:=(1:Int),count:=(1000000000:Int):Limits } { kind:=k8,sku:=u9,qty:=q10,past:={ vec:=[],cloud:=[]:Past }:Actn }).1.adds),AV.sl (List.map c3 (C9 l13 { vec:=v11,cloud:=c12:Past } f.adds[(0:Nat)]!.dot.rep { lines:=(1:Int),count:=(1000000000:Int):Limits } { kind:=k8,sku:=u9,qty:=q10,past:={ vec:=[],cloud:=[]:Past }:Actn }).1.gone.vec),AV.sl (List.map B1 (C9 l13 { vec:=v11,cloud:=c12:Past } f.adds[(0:Nat)]!.dot.rep { lines:=(1:Int),count:=(1000000000:Int):Limits } { kind:=k8,sku:=u9,qty:=q10,past:={ vec:=[],cloud:=[]:Past }:Actn }).1.gone.cloud),AV.sl (List.map c54 (C9 l13 { vec:=v11,cloud:=c12:Past } f.adds[(0:Nat)]!.dot.rep { lines:=(1:Int),count:=(1000000000:Int):Limits } { kind:=k8,sku:=u9,qty:=q10,past:={ vec:=[],cloud:=[]:Past }:Actn }).1.recs)],AV.i .i64 (C9 l13 { vec:=v11,cloud:=c12:Past } f.adds[(0:Nat)]!.dot.rep { lines:=(1:Int),count:=(1000000000:Int):Limits } { kind:=k8,sku:=u9,qty:=q10,past:={ vec:=[],cloud:=[]:Past }:Actn }).2])) (Con.le (Aw5 (l13) ({ vec:=v11,cloud:=c12:Past }) (f.adds[(0:Nat)]!.dot.rep) ({ lines:=(1:Int),count:=(1000000000:Int):Limits }) ({ kind:=k8,sku:=u9,qty:=q10,past:={ vec:=[],cloud:=[]:Past }:Actn }) (by have b:=F8 h1 h18;omega) (by obtain⟨rfl,rfl,rfl,rfl⟩:=h15;obtain⟨rfl,rfl,rfl⟩:=h16;obtain⟨rfl,rfl⟩:=h17;exact A1u (Q5 (nn hh0))) (by obtain⟨rfl,rfl,rfl,rfl⟩:=h15;obtain⟨rfl,rfl,rfl⟩:=h16;obtain⟨rfl,rfl⟩:=h17;exact(show szP ⟨[],[]⟩from⟨by decide,by decide⟩))) (ZLe.cons (A7.refl _) (ZLe.cons (A7.refl _) (ZLe.cons (A7.refl _) (ZLe.cons (A7.refl _) (ZLe.cons (A7.agg (ZLe.cons (A7.refl _) (ZLe.cons (A7.refl _) (ZLe.cons (A7.refl _) (ZLe.cons A7.nl (ZLe.cons A7.nl ZLe.nil)))))) ZLe.nil)))))) (oA 5 (.tup [.agg [.sl (List.map c46 (C9 l13 { vec:=v11,cloud:=c12:Past } f.adds[(0:Nat)]!.dot.rep { lines:=(1:Int),count:=(1000000000:Int):Limits } { kind:=k8,sku:=u9,qty:=q10,past:={ vec:=[],cloud:=[]:Past }:Actn }).1.adds),.sl (List.map c3 (C9 l13 { vec:=v11,cloud:=c12:Past } f.adds[(0:Nat)]!.dot.rep { lines:=(1:Int),count:=(1000000000:Int):Limits } { kind:=k8,sku:=u9,qty:=q10,past:={ vec:=[],cloud:=[]:Past }:Actn }).1.gone.vec),.sl (List.map B1 (C9 l13 { vec:=v11,cloud:=c12:Past } f.adds[(0:Nat)]!.dot.rep { lines:=(1:Int),count:=(1000000000:Int):Limits } { kind:=k8,sku:=u9,qty:=q10,past:={ vec:=[],cloud:=[]:Past }:Actn }).1.gone.cloud),.sl (List.map c54 (C9 l13 { vec:=v11,cloud:=c12:Past } f.adds[(0:Nat)]!.dot.rep { lines:=(1:Int),count:=(1000000000:Int):Limits } { kind:=k8,sku:=u9,qty:=q10,past:={ vec:=[],cloud:=[]:Past }:Actn }).1.recs)],.i .i64 ((C9 l13 { vec:=v11,cloud:=c12:Past } f.adds[(0:Nat)]!.dot.rep { lines:=(1:Int),count:=(1000000000:Int):Limits } { kind:=k8,sku:=u9,qty:=q10,past:={ vec:=[],cloud:=[]:Past }:Actn }).2)]) z0)) ?_
 refine sn<|sq<|A9 (σ':=⟨[(4,.b (decide ((C9 l13 { vec:=v11,cloud:=c12:Past } f.adds[(0:Nat)]!.dot.rep { lines:=(1:Int),count:=(1000000000:Int):Limits } { kind:=k8,sku:=u9,qty:=q10,past:={ vec:=[],cloud:=[]:Past }:Actn }).2=0∧(C9 l13 { vec:=v11,cloud:=c12:Past } f.adds[(0:Nat)]!.dot.rep { lines:=(1:Int),count:=(1000000000:Int):Limits } { kind:=k8,sku:=u9,qty:=q10,past:={ vec:=[],cloud:=[]:Past }:Actn }).1={ adds:=xx4,gone:={ vec:=x5,cloud:=x6:Past },recs:=x7:Facts })))],[]⟩) ?_ ?_
 refine A6 ((C9 l13 { vec:=v11,cloud:=c12:Past } f.adds[(0:Nat)]!.dot.rep { lines:=(1:Int),count:=(1000000000:Int):Limits } { kind:=k8,sku:=u9,qty:=q10,past:={ vec:=[],cloud:=[]:Past }:Actn }).2=0) (fun h21=>?_) (fun h21=>?_)
 refine rG cx [4] [] (tT 1 (A4 h21) (fT (B2g ((C9 l13 { vec:=v11,cloud:=c12:Past } f.adds[(0:Nat)]!.dot.rep { lines:=(1:Int),count:=(1000000000:Int):Limits } { kind:=k8,sku:=u9,qty:=q10,past:={ vec:=[],cloud:=[]:Past }:Actn }).1) ({ adds:=xx4,gone:={ vec:=x5,cloud:=x6:Past },recs:=x7:Facts }) ?g30 ?g31) (tD 7 (decide ((C9 l13 { vec:=v11,cloud:=c12:Past } f.adds[(0:Nat)]!.dot.rep { lines:=(1:Int),count:=(1000000000:Int):Limits } { kind:=k8,sku:=u9,qty:=q10,past:={ vec:=[],cloud:=[]:Past }:Actn }).1={ adds:=xx4,gone:={ vec:=x5,cloud:=x6:Past },recs:=x7:Facts })) ((C9 l13 { vec:=v11,cloud:=c12:Past } f.adds[(0:Nat)]!.dot.rep { lines:=(1:Int),count:=(1000000000:Int):Limits } { kind:=k8,sku:=u9,qty:=q10,past:={ vec:=[],cloud:=[]:Past }:Actn }).2=0∧(C9 l13 { vec:=v11,cloud:=c12:Past } f.adds[(0:Nat)]!.dot.rep { lines:=(1:Int),count:=(1000000000:Int):Limits } { kind:=k8,sku:=u9,qty:=q10,past:={ vec:=[],cloud:=[]:Past }:Actn }).1={ adds:=xx4,gone:={ vec:=x5,cloud:=x6:Past },recs:=x7:Facts }) (by simp only [eq_true h21,tsl]) (oA 5 (.b (decide ((C9 l13 { vec:=v11,cloud:=c12:Past } f.adds[(0:Nat)]!.dot.rep { lines:=(1:Int),count:=(1000000000:Int):Limits } { kind:=k8,sku:=u9,qty:=q10,past:={ vec:=[],cloud:=[]:Past }:Actn }).1={ adds:=xx4,gone:={ vec:=x5,cloud:=x6:Past },recs:=x7:Facts }))) z0)))) ?_;rotate_left 2
 exact⟨rfl,by kernel_rfl⟩
 refine rG cx [4] [] (tT 1 (A0 h21) (tD 7 false ((C9 l13 { vec:=v11,cloud:=c12:Past } f.adds[(0:Nat)]!.dot.rep { lines:=(1:Int),count:=(1000000000:Int):Limits } { kind:=k8,sku:=u9,qty:=q10,past:={ vec:=[],cloud:=[]:Past }:Actn }).2=0∧(C9 l13 { vec:=v11,cloud:=c12:Past } f.adds[(0:Nat)]!.dot.rep { lines:=(1:Int),count:=(1000000000:Int):Limits } { kind:=k8,sku:=u9,qty:=q10,past:={ vec:=[],cloud:=[]:Past }:Actn }).1={ adds:=xx4,gone:={ vec:=x5,cloud:=x6:Past },recs:=x7:Facts }) (by simp only [eq_false h21,tsl]) z0)) ?_
 exact⟨rfl,by kernel_rfl⟩
 refine sn<|rT<|qR (.b (decide ((C9 l13 { vec:=v11,cloud:=c12:Past } f.adds[(0:Nat)]!.dot.rep { lines:=(1:Int),count:=(1000000000:Int):Limits } { kind:=k8,sku:=u9,qty:=q10,past:={ vec:=[],cloud:=[]:Past }:Actn }).2=0∧(C9 l13 { vec:=v11,cloud:=c12:Past } f.adds[(0:Nat)]!.dot.rep { lines:=(1:Int),count:=(1000000000:Int):Limits } { kind:=k8,sku:=u9,qty:=q10,past:={ vec:=[],cloud:=[]:Past }:Actn }).1={ adds:=xx4,gone:={ vec:=x5,cloud:=x6:Past },recs:=x7:Facts }))) (.eq (by obtain⟨rfl,rfl,rfl,rfl⟩:=h15;obtain⟨rfl,rfl,rfl⟩:=h16;obtain⟨rfl,rfl⟩:=h17;exact congrArg AV.b (decide_eq_true (Ag9 (nn hh0) h1 h18 h19 (by have d:=(K4 (nn hh0) h2).2;omega) (fun _=>rfl) (A1x (by rw[Ah0 h2]))))))
 refine sq<|A9 (σ':=⟨[(2,.ptr (2) (0) (0) (0)),(5,.sl (List.map c44 (B9 f.gone).1)),(7,.ptr (7) (0) (0) (0)),(8,.s ({ data:=#[(65:UInt8)]:ByteArray })),(9,.i .i64 ((rep % (18446744073709551616:Int)).tmod (16:Int))),(10,.ptr (10) (0) (0) (0)),(78,.b (decide ((↑f.recs.length:Int)=1∧f.recs[(0:Nat)]!.sku={ data:=#[]:ByteArray })))],[(2,⟨0,36,.var [.sl (List.map c46 f.adds),.sl (List.map c3 f.gone.vec),.sl (List.map B1 f.gone.cloud),.sl (List.map c54 f.recs)]⟩),(7,⟨0,30,.var [.i .i64 ((5:Int)),.s ({ data:=#[]:ByteArray }),.i .i64 ((0:Int)),.nl,.nl]⟩),(10,⟨0,26,.var [.sl (List.map c3 f.gone.vec),.sl (List.map B1 f.gone.cloud)]⟩)]⟩) ?_ ?_
 refine A6 ((↑f.recs.length:Int)=1) (fun h23=>?_) (fun h23=>?_)
 refine rG cx [2,5,7,8,9,10,78] [2,7,10] (tL 2 c54 f.recs (tT 3 (A4 h23) (fO ((0:Int)≤(0:Int)) (fP ((List.map c54 f.recs)[Int.toNat (0:Int)]?=some (c54 f.recs[(0:Nat)]!)) (by exact Ax0 _ (fun q=>by omega)) (fR 3 (tT 10 (A59:AV.b (f.recs[(0:Nat)]!.sku.toList == { data:=#[]:ByteArray }.toList)=AV.b (decide (f.recs[(0:Nat)]!.sku={ data:=#[]:ByteArray }))) (tD 12 (decide (f.recs[(0:Nat)]!.sku={ data:=#[]:ByteArray })) ((↑f.recs.length:Int)=1∧f.recs[(0:Nat)]!.sku={ data:=#[]:ByteArray }) (by simp only [eq_true h23,tsl]) (oR 7 (c54 f.recs[(0:Nat)]!) z0)))))))) ?_
 exact⟨rfl,by kernel_rfl⟩
 refine rG cx [2,5,7,8,9,10,78] [2,7,10] (tL 2 c54 f.recs (tT 3 (A0 h23) (tD 12 false ((↑f.recs.length:Int)=1∧f.recs[(0:Nat)]!.sku={ data:=#[]:ByteArray }) (by simp only [eq_false h23,tsl]) z0))) ?_
 exact⟨rfl,by kernel_rfl⟩
 refine sn<|dC ((↑f.recs.length:Int)=1∧f.recs[(0:Nat)]!.sku={ data:=#[]:ByteArray }) (fun h24=>?_) fun h24=>?_
 refine rG cx [2,5,7,8,9,10] [2,7,10] (fO ((0:Int)≤(0:Int)) (fP ((List.map c54 f.recs)[Int.toNat (0:Int)]?=some (c54 f.recs[(0:Nat)]!)) (by exact Ax0 _ (fun q=>by omega)) (fR 3 (fN 2 2 (oR 2 (c54 f.recs[(0:Nat)]!) z0))))) ?_
 refine bN<|sn<|sq<|rG cx [2,5,7,8,9,10,13] [2,7,10] z0<|sn<|sq<|sq<|rG cx [2,5,7,8,9,10,13,14] [2,7,10] z0<|sn<|bL 1<|G1 13 1013 46 4 (σ':=⟨[(2,.ptr (2) (0) (0) (0)),(5,.sl (List.map c44 (B9 f.gone).1)),(7,.ptr (7) (0) (0) (0)),(8,.s ({ data:=#[(65:UInt8)]:ByteArray })),(9,.i .i64 ((rep % (18446744073709551616:Int)).tmod (16:Int))),(10,.ptr (10) (0) (0) (0)),(13,.own 1013 0),(14,.i .i64 ((0:Int)))],[(2,⟨0,36,.var [.sl (List.map c46 f.adds),.sl (List.map c3 f.gone.vec),.sl (List.map B1 f.gone.cloud),.sl (List.map c54 f.recs)]⟩),(7,⟨0,30,.var [.i .i64 ((6:Int)),.s ({ data:=#[]:ByteArray }),.i .i64 ((0:Int)),.sl (List.map c3 f.recs[(0:Nat)]!.past.vec),.sl (List.map B1 f.recs[(0:Nat)]!.past.cloud)]⟩),(10,⟨0,26,.var [.sl (List.map c3 f.gone.vec),.sl (List.map B1 f.gone.cloud)]⟩),(1013,⟨0,46,.row 4 (List.map c46 [])⟩)]⟩) (by kernel_rfl)<|sL (X:=Int×List Entry×List Int×List Span×List Record×Int×ByteArray×Int×List Int×List Span×List Int×List Span×List Entry) (fun x=>⟨[(2,.ptr (2) (0) (0) (0)),(5,.sl (List.map c44 (B9 f.gone).1)),(7,.ptr (7) (0) (0) (0)),(8,.s ({ data:=#[(65:UInt8)]:ByteArray })),(9,.i .i64 ((rep % (18446744073709551616:Int)).tmod (16:Int))),(10,.ptr (10) (0) (0) (0)),(13,.own 1013 0),(14,.i .i64 (x.1))],[(2,⟨0,36,.var [.sl (List.map c46 x.2.1),.sl (List.map c3 x.2.2.1),.sl (List.map B1 x.2.2.2.1),.sl (List.map c54 x.2.2.2.2.1)]⟩),(7,⟨0,30,.var [.i .i64 (x.2.2.2.2.2.1),.s (x.2.2.2.2.2.2.1),.i .i64 (x.2.2.2.2.2.2.2.1),.sl (List.map c3 x.2.2.2.2.2.2.2.2.1),.sl (List.map B1 x.2.2.2.2.2.2.2.2.2.1)]⟩),(10,⟨0,26,.var [.sl (List.map c3 x.2.2.2.2.2.2.2.2.2.2.1),.sl (List.map B1 x.2.2.2.2.2.2.2.2.2.2.2.1)]⟩),(1013,⟨0,46,.row 4 (List.map c46 x.2.2.2.2.2.2.2.2.2.2.2.2)⟩)]⟩) (fun x ↦ decMl (B9 f.gone).1 x.1 x.2.1 x.2.2.1 x.2.2.2.1 x.2.2.2.2.1 x.2.2.2.2.2.1 x.2.2.2.2.2.2.1 x.2.2.2.2.2.2.2.1 x.2.2.2.2.2.2.2.2.1 x.2.2.2.2.2.2.2.2.2.1 x.2.2.2.2.2.2.2.2.2.2.1 x.2.2.2.2.2.2.2.2.2.2.2.1 x.2.2.2.2.2.2.2.2.2.2.2.2) (fun x ↦ Al4 f (B9 f.gone).1 x.1 x.2.1 x.2.2.1 x.2.2.2.1 x.2.2.2.2.1 x.2.2.2.2.2.1 x.2.2.2.2.2.2.1 x.2.2.2.2.2.2.2.1 x.2.2.2.2.2.2.2.2.1 x.2.2.2.2.2.2.2.2.2.1 x.2.2.2.2.2.2.2.2.2.2.1 x.2.2.2.2.2.2.2.2.2.2.2.1 x.2.2.2.2.2.2.2.2.2.2.2.2) [2,5,7,8,9,10,13,14] [2,7,10,1013] (((0:Int),f.adds,f.gone.vec,f.gone.cloud,f.recs,(6:Int),{ data:=#[]:ByteArray },(0:Int),f.recs[(0:Nat)]!.past.vec,f.recs[(0:Nat)]!.past.cloud,f.gone.vec,f.gone.cloud,[])) (show Al4 f (B9 f.gone).1 (0:Int) f.adds f.gone.vec f.gone.cloud f.recs (6:Int) { data:=#[]:ByteArray } (0:Int) f.recs[(0:Nat)]!.past.vec f.recs[(0:Nat)]!.past.cloud f.gone.vec f.gone.cloud []from(by exact⟨⟨rfl,rfl,rfl,rfl⟩,by rw[eqA,A6l h2 h24];exact⟨rfl,rfl,rfl⟩,by rw[eqP,A6l h2 h24];exact⟨rfl,rfl⟩,by rw[A6k h2];exact⟨rfl,rfl⟩,A1w _ _⟩)) ?_
 rintro⟨i25,x26,x27,x28,x29,k30,u31,q32,v33,c34,v35,c36,l37⟩ h_38
 obtain⟨h39,h40,h41,h42,h43⟩:B6m f x26 x27 x28 x29∧eqA f k30 u31 q32∧eqP (Z0 f).past v33 c34∧eqP (T4 f) v35 c36∧eqL (B9 f.gone).1 (A6i f) i25 l37:=h_38
 refine sq<|rD cx [2,5,7,8,9,10,13,14,116] [2,7,10,1013] (tL 2 c44 ((B9 f.gone).1) (zB 3 (i25 <(↑(B9 f.gone).1.length:Int)))) (fun h44=>?_) fun h44=>?_
 refine sK<|sn<|sq<|bL 2<|rG cx [2,5,7,8,9,10,13,14] [2,7,10,1013] (fP (0≤i25) (by exact h43.1) (fP ((List.map c44 (B9 f.gone).1)[i25.toNat]?=some (c44 (B9 f.gone).1[i25.toNat]!)) (by exact hG _ _ h43.1 h44) (fR 2 (fN 2 2 (tT 7 (B4 (by have b:=F8 h1 h43;omega) (by have b:=F8 h1 h43;omega):AV.i .i64 (IntKind.i64.wrap (1+i25))=AV.i .i64 (1+i25)) (fR 46 (fR 4 (fR 4 (fX c46 [{ dot:=(B9 f.gone).1[i25.toNat]!,sku:={ data:=#[(65:UInt8)]:ByteArray },qty:=1+i25:Entry }] 4 (fP ((List.map c46 l37).length+(List.map c46 [{ dot:=(B9 f.gone).1[i25.toNat]!,sku:={ data:=#[(65:UInt8)]:ByteArray },qty:=1+i25:Entry }]).length≤maxLen) (by have b:=F8 h1 h43;simp only [List.length_map,List.length_cons,List.length_nil,Go.maxLen];omega) (fP (((List.map c46 l37).length+(List.map c46 [{ dot:=(B9 f.gone).1[i25.toNat]!,sku:={ data:=#[(65:UInt8)]:ByteArray },qty:=1+i25:Entry }]).length)*(40:Nat)≤(140737488355328:Nat)) (by have b:=F8 h1 h43;simp only [List.length_map,List.length_cons,List.length_nil];omega) (fM c46 l37 [{ dot:=(B9 f.gone).1[i25.toNat]!,sku:={ data:=#[(65:UInt8)]:ByteArray },qty:=1+i25:Entry }] (oR 3 (c44 (B9 f.gone).1[i25.toNat]!) (oV 10 { rows:=some (List.map c46 (l37++[{ dot:=(B9 f.gone).1[i25.toNat]!,sku:={ data:=#[(65:UInt8)]:ByteArray },qty:=1+i25:Entry }])) } z0)))))))))))))) ?_
 refine bN<|sn<|rG cx [2,5,7,8,9,10,13,14] [2,7,10,1013] (tT 1 (B4 (by have b:=F8 h1 h43;omega) (by have b:=F8 h1 h43;omega):AV.i .i64 (IntKind.i64.wrap (i25+1))=AV.i .i64 (i25+1)) z0) ?_
 refine sn<|nX ((i25+1,x26,x27,x28,x29,k30,u31,q32,v33,c34,v35,c36,l37++[{ dot:=(B9 f.gone).1[i25.toNat]!,sku:={ data:=#[(65:UInt8)]:ByteArray },qty:=1+i25:Entry }])) (show((↑(B9 f.gone).1.length:Int)-(i25+1)).toNat <((↑(B9 f.gone).1.length:Int)-i25).toNat from(by omega)) (show Al4 f (B9 f.gone).1 (i25+1) x26 x27 x28 x29 k30 u31 q32 v33 c34 v35 c36 (l37++[{ dot:=(B9 f.gone).1[i25.toNat]!,sku:={ data:=#[(65:UInt8)]:ByteArray },qty:=1+i25:Entry }])from(by refine⟨h39,h40,h41,h42,?_⟩;have h24:=A1v h43 h44;rw[A9v h2]at h24 ⊢;exact h24))
 refine eX 1<|nE<|nE<|bH<|sn<|sq<|rG cx [2,15,16] [2,15] (fT (Aw5 (l37) ({ vec:=v35,cloud:=c36:Past }) ((rep % (18446744073709551616:Int)).tmod (16:Int)) ({ lines:=(1:Int),count:=(1000000000:Int):Limits }) ({ kind:=k30,sku:=u31,qty:=q32,past:={ vec:=v33,cloud:=c34:Past }:Actn }) (by have b:=F8 h1 h43;omega) (by obtain⟨rfl,rfl,rfl,rfl⟩:=h39;obtain⟨rfl,rfl,rfl⟩:=h40;obtain⟨rfl,rfl⟩:=h41;obtain⟨rfl,rfl⟩:=h42;exact A1u (Q5 (nn hh0))) (by obtain⟨rfl,rfl,rfl,rfl⟩:=h39;obtain⟨rfl,rfl,rfl⟩:=h40;obtain⟨rfl,rfl⟩:=h41;obtain⟨rfl,rfl⟩:=h42;rw[A6l h2 h24];exact hb.2 _ (E1 (by omega)))) (oA 5 (.tup [.agg [.sl (List.map c46 (C9 l37 { vec:=v35,cloud:=c36:Past } ((rep % (18446744073709551616:Int)).tmod (16:Int)) { lines:=(1:Int),count:=(1000000000:Int):Limits } { kind:=k30,sku:=u31,qty:=q32,past:={ vec:=v33,cloud:=c34:Past }:Actn }).1.adds),.sl (List.map c3 (C9 l37 { vec:=v35,cloud:=c36:Past } ((rep % (18446744073709551616:Int)).tmod (16:Int)) { lines:=(1:Int),count:=(1000000000:Int):Limits } { kind:=k30,sku:=u31,qty:=q32,past:={ vec:=v33,cloud:=c34:Past }:Actn }).1.gone.vec),.sl (List.map B1 (C9 l37 { vec:=v35,cloud:=c36:Past } ((rep % (18446744073709551616:Int)).tmod (16:Int)) { lines:=(1:Int),count:=(1000000000:Int):Limits } { kind:=k30,sku:=u31,qty:=q32,past:={ vec:=v33,cloud:=c34:Past }:Actn }).1.gone.cloud),.sl (List.map c54 (C9 l37 { vec:=v35,cloud:=c36:Past } ((rep % (18446744073709551616:Int)).tmod (16:Int)) { lines:=(1:Int),count:=(1000000000:Int):Limits } { kind:=k30,sku:=u31,qty:=q32,past:={ vec:=v33,cloud:=c34:Past }:Actn }).1.recs)],.i .i64 ((C9 l37 { vec:=v35,cloud:=c36:Past } ((rep % (18446744073709551616:Int)).tmod (16:Int)) { lines:=(1:Int),count:=(1000000000:Int):Limits } { kind:=k30,sku:=u31,qty:=q32,past:={ vec:=v33,cloud:=c34:Past }:Actn }).2)]) z0)) ?_
 refine sn<|sq<|A9 (σ':=⟨[(4,.b (decide ((C9 l37 { vec:=v35,cloud:=c36:Past } ((rep % (18446744073709551616:Int)).tmod (16:Int)) { lines:=(1:Int),count:=(1000000000:Int):Limits } { kind:=k30,sku:=u31,qty:=q32,past:={ vec:=v33,cloud:=c34:Past }:Actn }).2=0∧(C9 l37 { vec:=v35,cloud:=c36:Past } ((rep % (18446744073709551616:Int)).tmod (16:Int)) { lines:=(1:Int),count:=(1000000000:Int):Limits } { kind:=k30,sku:=u31,qty:=q32,past:={ vec:=v33,cloud:=c34:Past }:Actn }).1={ adds:=x26,gone:={ vec:=x27,cloud:=x28:Past },recs:=x29:Facts })))],[]⟩) ?_ ?_
 refine A6 ((C9 l37 { vec:=v35,cloud:=c36:Past } ((rep % (18446744073709551616:Int)).tmod (16:Int)) { lines:=(1:Int),count:=(1000000000:Int):Limits } { kind:=k30,sku:=u31,qty:=q32,past:={ vec:=v33,cloud:=c34:Past }:Actn }).2=0) (fun h46=>?_) (fun h46=>?_)
 refine rG cx [4] [] (tT 1 (A4 h46) (fT (B2g ((C9 l37 { vec:=v35,cloud:=c36:Past } ((rep % (18446744073709551616:Int)).tmod (16:Int)) { lines:=(1:Int),count:=(1000000000:Int):Limits } { kind:=k30,sku:=u31,qty:=q32,past:={ vec:=v33,cloud:=c34:Past }:Actn }).1) ({ adds:=x26,gone:={ vec:=x27,cloud:=x28:Past },recs:=x29:Facts }) ?g48 ?g49) (tD 7 (decide ((C9 l37 { vec:=v35,cloud:=c36:Past } ((rep % (18446744073709551616:Int)).tmod (16:Int)) { lines:=(1:Int),count:=(1000000000:Int):Limits } { kind:=k30,sku:=u31,qty:=q32,past:={ vec:=v33,cloud:=c34:Past }:Actn }).1={ adds:=x26,gone:={ vec:=x27,cloud:=x28:Past },recs:=x29:Facts })) ((C9 l37 { vec:=v35,cloud:=c36:Past } ((rep % (18446744073709551616:Int)).tmod (16:Int)) { lines:=(1:Int),count:=(1000000000:Int):Limits } { kind:=k30,sku:=u31,qty:=q32,past:={ vec:=v33,cloud:=c34:Past }:Actn }).2=0∧(C9 l37 { vec:=v35,cloud:=c36:Past } ((rep % (18446744073709551616:Int)).tmod (16:Int)) { lines:=(1:Int),count:=(1000000000:Int):Limits } { kind:=k30,sku:=u31,qty:=q32,past:={ vec:=v33,cloud:=c34:Past }:Actn }).1={ adds:=x26,gone:={ vec:=x27,cloud:=x28:Past },recs:=x29:Facts }) (by simp only [eq_true h46,tsl]) (oA 5 (.b (decide ((C9 l37 { vec:=v35,cloud:=c36:Past } ((rep % (18446744073709551616:Int)).tmod (16:Int)) { lines:=(1:Int),count:=(1000000000:Int):Limits } { kind:=k30,sku:=u31,qty:=q32,past:={ vec:=v33,cloud:=c34:Past }:Actn }).1={ adds:=x26,gone:={ vec:=x27,cloud:=x28:Past },recs:=x29:Facts }))) z0)))) ?_;rotate_left 2
 exact⟨rfl,by kernel_rfl⟩
 refine rG cx [4] [] (tT 1 (A0 h46) (tD 7 false ((C9 l37 { vec:=v35,cloud:=c36:Past } ((rep % (18446744073709551616:Int)).tmod (16:Int)) { lines:=(1:Int),count:=(1000000000:Int):Limits } { kind:=k30,sku:=u31,qty:=q32,past:={ vec:=v33,cloud:=c34:Past }:Actn }).2=0∧(C9 l37 { vec:=v35,cloud:=c36:Past } ((rep % (18446744073709551616:Int)).tmod (16:Int)) { lines:=(1:Int),count:=(1000000000:Int):Limits } { kind:=k30,sku:=u31,qty:=q32,past:={ vec:=v33,cloud:=c34:Past }:Actn }).1={ adds:=x26,gone:={ vec:=x27,cloud:=x28:Past },recs:=x29:Facts }) (by simp only [eq_false h46,tsl]) z0)) ?_
 exact⟨rfl,by kernel_rfl⟩
 refine sn<|rT<|qR (.b (decide ((C9 l37 { vec:=v35,cloud:=c36:Past } ((rep % (18446744073709551616:Int)).tmod (16:Int)) { lines:=(1:Int),count:=(1000000000:Int):Limits } { kind:=k30,sku:=u31,qty:=q32,past:={ vec:=v33,cloud:=c34:Past }:Actn }).2=0∧(C9 l37 { vec:=v35,cloud:=c36:Past } ((rep % (18446744073709551616:Int)).tmod (16:Int)) { lines:=(1:Int),count:=(1000000000:Int):Limits } { kind:=k30,sku:=u31,qty:=q32,past:={ vec:=v33,cloud:=c34:Past }:Actn }).1={ adds:=x26,gone:={ vec:=x27,cloud:=x28:Past },recs:=x29:Facts }))) (.eq (by obtain⟨rfl,rfl,rfl,rfl⟩:=h39;obtain⟨rfl,rfl,rfl⟩:=h40;obtain⟨rfl,rfl⟩:=h41;obtain⟨rfl,rfl⟩:=h42;exact congrArg AV.b (decide_eq_true (Ag9 (nn hh0) h1 h43 h44 r16 (fun h24=>absurd h24 h2) (A1x rfl)))))
 refine rD cx [2,5,7,8,9,10,97] [2,7,10] (tL 2 c54 f.recs (zB 3 ((↑f.recs.length:Int)=1))) (fun h47=>?_) fun h47=>?_
 refine rA cx [2,5,7,8,9,10] [2,7,10] (fO ((0:Int)≤(0:Int)) (fP ((List.map c54 f.recs)[Int.toNat (0:Int)]?=some (c54 f.recs[(0:Nat)]!)) (by exact Ax0 _ (fun q=>by omega)) (fR 3 (fO ((0:Int)≤(0:Int)) (fP ((List.map c54 f.recs)[Int.toNat (0:Int)]?=some (c54 f.recs[(0:Nat)]!)) (by exact Ax0 _ (fun q=>by omega)) (fR 3 (fN 2 2 (oR 2 (c54 f.recs[(0:Nat)]!) (oR 7 (c54 f.recs[(0:Nat)]!) z0))))))))) ?_
 refine bN<|sn<|sq<|rG cx [2,5,7,8,9,10,13] [2,7,10] z0<|sn<|sq<|sq<|rG cx [2,5,7,8,9,10,13,14] [2,7,10] z0<|sn<|bL 1<|G1 13 1013 46 4 (σ':=⟨[(2,.ptr (2) (0) (0) (0)),(5,.sl (List.map c44 (B9 f.gone).1)),(7,.ptr (7) (0) (0) (0)),(8,.s ({ data:=#[(65:UInt8)]:ByteArray })),(9,.i .i64 ((rep % (18446744073709551616:Int)).tmod (16:Int))),(10,.ptr (10) (0) (0) (0)),(13,.own 1013 0),(14,.i .i64 ((0:Int)))],[(2,⟨0,36,.var [.sl (List.map c46 f.adds),.sl (List.map c3 f.gone.vec),.sl (List.map B1 f.gone.cloud),.sl (List.map c54 f.recs)]⟩),(7,⟨0,30,.var [.i .i64 ((4:Int)),.s (f.recs[(0:Nat)]!.sku),.i .i64 ((0:Int)),.sl (List.map c3 f.recs[(0:Nat)]!.past.vec),.sl (List.map B1 f.recs[(0:Nat)]!.past.cloud)]⟩),(10,⟨0,26,.var [.sl (List.map c3 f.gone.vec),.sl (List.map B1 f.gone.cloud)]⟩),(1013,⟨0,46,.row 4 (List.map c46 [])⟩)]⟩) (by kernel_rfl)<|sL (X:=Int×List Entry×List Int×List Span×List Record×Int×ByteArray×Int×List Int×List Span×List Int×List Span×List Entry) (fun x=>⟨[(2,.ptr (2) (0) (0) (0)),(5,.sl (List.map c44 (B9 f.gone).1)),(7,.ptr (7) (0) (0) (0)),(8,.s ({ data:=#[(65:UInt8)]:ByteArray })),(9,.i .i64 ((rep % (18446744073709551616:Int)).tmod (16:Int))),(10,.ptr (10) (0) (0) (0)),(13,.own 1013 0),(14,.i .i64 (x.1))],[(2,⟨0,36,.var [.sl (List.map c46 x.2.1),.sl (List.map c3 x.2.2.1),.sl (List.map B1 x.2.2.2.1),.sl (List.map c54 x.2.2.2.2.1)]⟩),(7,⟨0,30,.var [.i .i64 (x.2.2.2.2.2.1),.s (x.2.2.2.2.2.2.1),.i .i64 (x.2.2.2.2.2.2.2.1),.sl (List.map c3 x.2.2.2.2.2.2.2.2.1),.sl (List.map B1 x.2.2.2.2.2.2.2.2.2.1)]⟩),(10,⟨0,26,.var [.sl (List.map c3 x.2.2.2.2.2.2.2.2.2.2.1),.sl (List.map B1 x.2.2.2.2.2.2.2.2.2.2.2.1)]⟩),(1013,⟨0,46,.row 4 (List.map c46 x.2.2.2.2.2.2.2.2.2.2.2.2)⟩)]⟩) (fun x ↦ decMl (B9 f.gone).1 x.1 x.2.1 x.2.2.1 x.2.2.2.1 x.2.2.2.2.1 x.2.2.2.2.2.1 x.2.2.2.2.2.2.1 x.2.2.2.2.2.2.2.1 x.2.2.2.2.2.2.2.2.1 x.2.2.2.2.2.2.2.2.2.1 x.2.2.2.2.2.2.2.2.2.2.1 x.2.2.2.2.2.2.2.2.2.2.2.1 x.2.2.2.2.2.2.2.2.2.2.2.2) (fun x ↦ Al4 f (B9 f.gone).1 x.1 x.2.1 x.2.2.1 x.2.2.2.1 x.2.2.2.2.1 x.2.2.2.2.2.1 x.2.2.2.2.2.2.1 x.2.2.2.2.2.2.2.1 x.2.2.2.2.2.2.2.2.1 x.2.2.2.2.2.2.2.2.2.1 x.2.2.2.2.2.2.2.2.2.2.1 x.2.2.2.2.2.2.2.2.2.2.2.1 x.2.2.2.2.2.2.2.2.2.2.2.2) [2,5,7,8,9,10,13,14] [2,7,10,1013] (((0:Int),f.adds,f.gone.vec,f.gone.cloud,f.recs,(4:Int),f.recs[(0:Nat)]!.sku,(0:Int),f.recs[(0:Nat)]!.past.vec,f.recs[(0:Nat)]!.past.cloud,f.gone.vec,f.gone.cloud,[])) (show Al4 f (B9 f.gone).1 (0:Int) f.adds f.gone.vec f.gone.cloud f.recs (4:Int) f.recs[(0:Nat)]!.sku (0:Int) f.recs[(0:Nat)]!.past.vec f.recs[(0:Nat)]!.past.cloud f.gone.vec f.gone.cloud []from(by exact⟨⟨rfl,rfl,rfl,rfl⟩,by rw[eqA,A9w h2 h24 h47];exact⟨rfl,rfl,rfl⟩,by rw[eqP,A9w h2 h24 h47];exact⟨rfl,rfl⟩,by rw[A6k h2];exact⟨rfl,rfl⟩,A1w _ _⟩)) ?_
 rintro⟨i48,x49,x50,x51,x52,k53,u54,q55,v56,c57,v58,c59,l60⟩ h_61
 obtain⟨h62,h63,h64,h65,h66⟩:B6m f x49 x50 x51 x52∧eqA f k53 u54 q55∧eqP (Z0 f).past v56 c57∧eqP (T4 f) v58 c59∧eqL (B9 f.gone).1 (A6i f) i48 l60:=h_61
 refine sq<|rD cx [2,5,7,8,9,10,13,14,116] [2,7,10,1013] (tL 2 c44 ((B9 f.gone).1) (zB 3 (i48 <(↑(B9 f.gone).1.length:Int)))) (fun h67=>?_) fun h67=>?_
 refine sK<|sn<|sq<|bL 2<|rG cx [2,5,7,8,9,10,13,14] [2,7,10,1013] (fP (0≤i48) (by exact h66.1) (fP ((List.map c44 (B9 f.gone).1)[i48.toNat]?=some (c44 (B9 f.gone).1[i48.toNat]!)) (by exact hG _ _ h66.1 h67) (fR 2 (fN 2 2 (tT 7 (B4 (by have b:=F8 h1 h66;omega) (by have b:=F8 h1 h66;omega):AV.i .i64 (IntKind.i64.wrap (1+i48))=AV.i .i64 (1+i48)) (fR 46 (fR 4 (fR 4 (fX c46 [{ dot:=(B9 f.gone).1[i48.toNat]!,sku:={ data:=#[(65:UInt8)]:ByteArray },qty:=1+i48:Entry }] 4 (fP ((List.map c46 l60).length+(List.map c46 [{ dot:=(B9 f.gone).1[i48.toNat]!,sku:={ data:=#[(65:UInt8)]:ByteArray },qty:=1+i48:Entry }]).length≤maxLen) (by have b:=F8 h1 h66;simp only [List.length_map,List.length_cons,List.length_nil,Go.maxLen];omega) (fP (((List.map c46 l60).length+(List.map c46 [{ dot:=(B9 f.gone).1[i48.toNat]!,sku:={ data:=#[(65:UInt8)]:ByteArray },qty:=1+i48:Entry }]).length)*(40:Nat)≤(140737488355328:Nat)) (by have b:=F8 h1 h66;simp only [List.length_map,List.length_cons,List.length_nil];omega) (fM c46 l60 [{ dot:=(B9 f.gone).1[i48.toNat]!,sku:={ data:=#[(65:UInt8)]:ByteArray },qty:=1+i48:Entry }] (oR 3 (c44 (B9 f.gone).1[i48.toNat]!) (oV 10 { rows:=some (List.map c46 (l60++[{ dot:=(B9 f.gone).1[i48.toNat]!,sku:={ data:=#[(65:UInt8)]:ByteArray },qty:=1+i48:Entry }])) } z0)))))))))))))) ?_
 refine bN<|sn<|rG cx [2,5,7,8,9,10,13,14] [2,7,10,1013] (tT 1 (B4 (by have b:=F8 h1 h66;omega) (by have b:=F8 h1 h66;omega):AV.i .i64 (IntKind.i64.wrap (i48+1))=AV.i .i64 (i48+1)) z0) ?_
 refine sn<|nX ((i48+1,x49,x50,x51,x52,k53,u54,q55,v56,c57,v58,c59,l60++[{ dot:=(B9 f.gone).1[i48.toNat]!,sku:={ data:=#[(65:UInt8)]:ByteArray },qty:=1+i48:Entry }])) (show((↑(B9 f.gone).1.length:Int)-(i48+1)).toNat <((↑(B9 f.gone).1.length:Int)-i48).toNat from(by omega)) (show Al4 f (B9 f.gone).1 (i48+1) x49 x50 x51 x52 k53 u54 q55 v56 c57 v58 c59 (l60++[{ dot:=(B9 f.gone).1[i48.toNat]!,sku:={ data:=#[(65:UInt8)]:ByteArray },qty:=1+i48:Entry }])from(by refine⟨h62,h63,h64,h65,?_⟩;have h24:=A1v h66 h67;rw[A9v h2]at h24 ⊢;exact h24))
 refine eX 1<|nE<|nE<|bH<|sn<|sq<|rG cx [2,15,16] [2,15] (fT (Aw5 (l60) ({ vec:=v58,cloud:=c59:Past }) ((rep % (18446744073709551616:Int)).tmod (16:Int)) ({ lines:=(1:Int),count:=(1000000000:Int):Limits }) ({ kind:=k53,sku:=u54,qty:=q55,past:={ vec:=v56,cloud:=c57:Past }:Actn }) (by have b:=F8 h1 h66;omega) (by obtain⟨rfl,rfl,rfl,rfl⟩:=h62;obtain⟨rfl,rfl,rfl⟩:=h63;obtain⟨rfl,rfl⟩:=h64;obtain⟨rfl,rfl⟩:=h65;exact A1u (Q5 (nn hh0))) (by obtain⟨rfl,rfl,rfl,rfl⟩:=h62;obtain⟨rfl,rfl,rfl⟩:=h63;obtain⟨rfl,rfl⟩:=h64;obtain⟨rfl,rfl⟩:=h65;rw[A9w h2 h24 h47];exact hb.2 _ (E1 (by omega)))) (oA 5 (.tup [.agg [.sl (List.map c46 (C9 l60 { vec:=v58,cloud:=c59:Past } ((rep % (18446744073709551616:Int)).tmod (16:Int)) { lines:=(1:Int),count:=(1000000000:Int):Limits } { kind:=k53,sku:=u54,qty:=q55,past:={ vec:=v56,cloud:=c57:Past }:Actn }).1.adds),.sl (List.map c3 (C9 l60 { vec:=v58,cloud:=c59:Past } ((rep % (18446744073709551616:Int)).tmod (16:Int)) { lines:=(1:Int),count:=(1000000000:Int):Limits } { kind:=k53,sku:=u54,qty:=q55,past:={ vec:=v56,cloud:=c57:Past }:Actn }).1.gone.vec),.sl (List.map B1 (C9 l60 { vec:=v58,cloud:=c59:Past } ((rep % (18446744073709551616:Int)).tmod (16:Int)) { lines:=(1:Int),count:=(1000000000:Int):Limits } { kind:=k53,sku:=u54,qty:=q55,past:={ vec:=v56,cloud:=c57:Past }:Actn }).1.gone.cloud),.sl (List.map c54 (C9 l60 { vec:=v58,cloud:=c59:Past } ((rep % (18446744073709551616:Int)).tmod (16:Int)) { lines:=(1:Int),count:=(1000000000:Int):Limits } { kind:=k53,sku:=u54,qty:=q55,past:={ vec:=v56,cloud:=c57:Past }:Actn }).1.recs)],.i .i64 ((C9 l60 { vec:=v58,cloud:=c59:Past } ((rep % (18446744073709551616:Int)).tmod (16:Int)) { lines:=(1:Int),count:=(1000000000:Int):Limits } { kind:=k53,sku:=u54,qty:=q55,past:={ vec:=v56,cloud:=c57:Past }:Actn }).2)]) z0)) ?_
 refine sn<|sq<|A9 (σ':=⟨[(4,.b (decide ((C9 l60 { vec:=v58,cloud:=c59:Past } ((rep % (18446744073709551616:Int)).tmod (16:Int)) { lines:=(1:Int),count:=(1000000000:Int):Limits } { kind:=k53,sku:=u54,qty:=q55,past:={ vec:=v56,cloud:=c57:Past }:Actn }).2=0∧(C9 l60 { vec:=v58,cloud:=c59:Past } ((rep % (18446744073709551616:Int)).tmod (16:Int)) { lines:=(1:Int),count:=(1000000000:Int):Limits } { kind:=k53,sku:=u54,qty:=q55,past:={ vec:=v56,cloud:=c57:Past }:Actn }).1={ adds:=x49,gone:={ vec:=x50,cloud:=x51:Past },recs:=x52:Facts })))],[]⟩) ?_ ?_
 refine A6 ((C9 l60 { vec:=v58,cloud:=c59:Past } ((rep % (18446744073709551616:Int)).tmod (16:Int)) { lines:=(1:Int),count:=(1000000000:Int):Limits } { kind:=k53,sku:=u54,qty:=q55,past:={ vec:=v56,cloud:=c57:Past }:Actn }).2=0) (fun h69=>?_) (fun h69=>?_)
 refine rG cx [4] [] (tT 1 (A4 h69) (fT (B2g ((C9 l60 { vec:=v58,cloud:=c59:Past } ((rep % (18446744073709551616:Int)).tmod (16:Int)) { lines:=(1:Int),count:=(1000000000:Int):Limits } { kind:=k53,sku:=u54,qty:=q55,past:={ vec:=v56,cloud:=c57:Past }:Actn }).1) ({ adds:=x49,gone:={ vec:=x50,cloud:=x51:Past },recs:=x52:Facts }) ?g66 ?g67) (tD 7 (decide ((C9 l60 { vec:=v58,cloud:=c59:Past } ((rep % (18446744073709551616:Int)).tmod (16:Int)) { lines:=(1:Int),count:=(1000000000:Int):Limits } { kind:=k53,sku:=u54,qty:=q55,past:={ vec:=v56,cloud:=c57:Past }:Actn }).1={ adds:=x49,gone:={ vec:=x50,cloud:=x51:Past },recs:=x52:Facts })) ((C9 l60 { vec:=v58,cloud:=c59:Past } ((rep % (18446744073709551616:Int)).tmod (16:Int)) { lines:=(1:Int),count:=(1000000000:Int):Limits } { kind:=k53,sku:=u54,qty:=q55,past:={ vec:=v56,cloud:=c57:Past }:Actn }).2=0∧(C9 l60 { vec:=v58,cloud:=c59:Past } ((rep % (18446744073709551616:Int)).tmod (16:Int)) { lines:=(1:Int),count:=(1000000000:Int):Limits } { kind:=k53,sku:=u54,qty:=q55,past:={ vec:=v56,cloud:=c57:Past }:Actn }).1={ adds:=x49,gone:={ vec:=x50,cloud:=x51:Past },recs:=x52:Facts }) (by simp only [eq_true h69,tsl]) (oA 5 (.b (decide ((C9 l60 { vec:=v58,cloud:=c59:Past } ((rep % (18446744073709551616:Int)).tmod (16:Int)) { lines:=(1:Int),count:=(1000000000:Int):Limits } { kind:=k53,sku:=u54,qty:=q55,past:={ vec:=v56,cloud:=c57:Past }:Actn }).1={ adds:=x49,gone:={ vec:=x50,cloud:=x51:Past },recs:=x52:Facts }))) z0)))) ?_;rotate_left 2
 exact⟨rfl,by kernel_rfl⟩
 refine rG cx [4] [] (tT 1 (A0 h69) (tD 7 false ((C9 l60 { vec:=v58,cloud:=c59:Past } ((rep % (18446744073709551616:Int)).tmod (16:Int)) { lines:=(1:Int),count:=(1000000000:Int):Limits } { kind:=k53,sku:=u54,qty:=q55,past:={ vec:=v56,cloud:=c57:Past }:Actn }).2=0∧(C9 l60 { vec:=v58,cloud:=c59:Past } ((rep % (18446744073709551616:Int)).tmod (16:Int)) { lines:=(1:Int),count:=(1000000000:Int):Limits } { kind:=k53,sku:=u54,qty:=q55,past:={ vec:=v56,cloud:=c57:Past }:Actn }).1={ adds:=x49,gone:={ vec:=x50,cloud:=x51:Past },recs:=x52:Facts }) (by simp only [eq_false h69,tsl]) z0)) ?_
 exact⟨rfl,by kernel_rfl⟩
 refine sn<|rT<|qR (.b (decide ((C9 l60 { vec:=v58,cloud:=c59:Past } ((rep % (18446744073709551616:Int)).tmod (16:Int)) { lines:=(1:Int),count:=(1000000000:Int):Limits } { kind:=k53,sku:=u54,qty:=q55,past:={ vec:=v56,cloud:=c57:Past }:Actn }).2=0∧(C9 l60 { vec:=v58,cloud:=c59:Past } ((rep % (18446744073709551616:Int)).tmod (16:Int)) { lines:=(1:Int),count:=(1000000000:Int):Limits } { kind:=k53,sku:=u54,qty:=q55,past:={ vec:=v56,cloud:=c57:Past }:Actn }).1={ adds:=x49,gone:={ vec:=x50,cloud:=x51:Past },recs:=x52:Facts }))) (.eq (by obtain⟨rfl,rfl,rfl,rfl⟩:=h62;obtain⟨rfl,rfl,rfl⟩:=h63;obtain⟨rfl,rfl⟩:=h64;obtain⟨rfl,rfl⟩:=h65;exact congrArg AV.b (decide_eq_true (Ag9 (nn hh0) h1 h66 h67 r16 (fun h24=>absurd h24 h2) (A1x rfl)))))
 refine sK<|bN<|sn<|sq<|rG cx [2,5,7,8,9,10,13] [2,7,10] z0<|sn<|sq<|sq<|rG cx [2,5,7,8,9,10,13,14] [2,7,10] z0<|sn<|bL 1<|G1 13 1013 46 4 (σ':=⟨[(2,.ptr (2) (0) (0) (0)),(5,.sl (List.map c44 (B9 f.gone).1)),(7,.ptr (7) (0) (0) (0)),(8,.s ({ data:=#[(65:UInt8)]:ByteArray })),(9,.i .i64 ((rep % (18446744073709551616:Int)).tmod (16:Int))),(10,.ptr (10) (0) (0) (0)),(13,.own 1013 0),(14,.i .i64 ((0:Int)))],[(2,⟨0,36,.var [.sl (List.map c46 f.adds),.sl (List.map c3 f.gone.vec),.sl (List.map B1 f.gone.cloud),.sl (List.map c54 f.recs)]⟩),(7,⟨0,30,.var [.i .i64 ((5:Int)),.s ({ data:=#[]:ByteArray }),.i .i64 ((0:Int)),.nl,.nl]⟩),(10,⟨0,26,.var [.sl (List.map c3 f.gone.vec),.sl (List.map B1 f.gone.cloud)]⟩),(1013,⟨0,46,.row 4 (List.map c46 [])⟩)]⟩) (by kernel_rfl)<|sL (X:=Int×List Entry×List Int×List Span×List Record×Int×ByteArray×Int×List Int×List Span×List Entry) (fun x=>⟨[(2,.ptr (2) (0) (0) (0)),(5,.sl (List.map c44 (B9 f.gone).1)),(7,.ptr (7) (0) (0) (0)),(8,.s ({ data:=#[(65:UInt8)]:ByteArray })),(9,.i .i64 ((rep % (18446744073709551616:Int)).tmod (16:Int))),(10,.ptr (10) (0) (0) (0)),(13,.own 1013 0),(14,.i .i64 (x.1))],[(2,⟨0,36,.var [.sl (List.map c46 x.2.1),.sl (List.map c3 x.2.2.1),.sl (List.map B1 x.2.2.2.1),.sl (List.map c54 x.2.2.2.2.1)]⟩),(7,⟨0,30,.var [.i .i64 (x.2.2.2.2.2.1),.s (x.2.2.2.2.2.2.1),.i .i64 (x.2.2.2.2.2.2.2.1),.nl,.nl]⟩),(10,⟨0,26,.var [.sl (List.map c3 x.2.2.2.2.2.2.2.2.1),.sl (List.map B1 x.2.2.2.2.2.2.2.2.2.1)]⟩),(1013,⟨0,46,.row 4 (List.map c46 x.2.2.2.2.2.2.2.2.2.2)⟩)]⟩) (fun x ↦ decMk (B9 f.gone).1 x.1 x.2.1 x.2.2.1 x.2.2.2.1 x.2.2.2.2.1 x.2.2.2.2.2.1 x.2.2.2.2.2.2.1 x.2.2.2.2.2.2.2.1 x.2.2.2.2.2.2.2.2.1 x.2.2.2.2.2.2.2.2.2.1 x.2.2.2.2.2.2.2.2.2.2) (fun x ↦ Al3 f (B9 f.gone).1 x.1 x.2.1 x.2.2.1 x.2.2.2.1 x.2.2.2.2.1 x.2.2.2.2.2.1 x.2.2.2.2.2.2.1 x.2.2.2.2.2.2.2.1 x.2.2.2.2.2.2.2.2.1 x.2.2.2.2.2.2.2.2.2.1 x.2.2.2.2.2.2.2.2.2.2) [2,5,7,8,9,10,13,14] [2,7,10,1013] (((0:Int),f.adds,f.gone.vec,f.gone.cloud,f.recs,(5:Int),{ data:=#[]:ByteArray },(0:Int),f.gone.vec,f.gone.cloud,[])) (show Al3 f (B9 f.gone).1 (0:Int) f.adds f.gone.vec f.gone.cloud f.recs (5:Int) { data:=#[]:ByteArray } (0:Int) f.gone.vec f.gone.cloud []from(by exact⟨⟨rfl,rfl,rfl,rfl⟩,by rw[eqA,Ah1 h2 h24 h47];exact⟨rfl,rfl,rfl⟩,by rw[A6k h2];exact⟨rfl,rfl⟩,A1w _ _⟩)) ?_
 rintro⟨i70,x71,x72,x73,x74,k75,u76,q77,v78,c79,l80⟩ h_81
 obtain⟨h82,h83,h84,h85⟩:B6m f x71 x72 x73 x74∧eqA f k75 u76 q77∧eqP (T4 f) v78 c79∧eqL (B9 f.gone).1 (A6i f) i70 l80:=h_81
 refine sq<|rD cx [2,5,7,8,9,10,13,14,116] [2,7,10,1013] (tL 2 c44 ((B9 f.gone).1) (zB 3 (i70 <(↑(B9 f.gone).1.length:Int)))) (fun h86=>?_) fun h86=>?_
 refine sK<|sn<|sq<|bL 2<|rG cx [2,5,7,8,9,10,13,14] [2,7,10,1013] (fP (0≤i70) (by exact h85.1) (fP ((List.map c44 (B9 f.gone).1)[i70.toNat]?=some (c44 (B9 f.gone).1[i70.toNat]!)) (by exact hG _ _ h85.1 h86) (fR 2 (fN 2 2 (tT 7 (B4 (by have b:=F8 h1 h85;omega) (by have b:=F8 h1 h85;omega):AV.i .i64 (IntKind.i64.wrap (1+i70))=AV.i .i64 (1+i70)) (fR 46 (fR 4 (fR 4 (fX c46 [{ dot:=(B9 f.gone).1[i70.toNat]!,sku:={ data:=#[(65:UInt8)]:ByteArray },qty:=1+i70:Entry }] 4 (fP ((List.map c46 l80).length+(List.map c46 [{ dot:=(B9 f.gone).1[i70.toNat]!,sku:={ data:=#[(65:UInt8)]:ByteArray },qty:=1+i70:Entry }]).length≤maxLen) (by have b:=F8 h1 h85;simp only [List.length_map,List.length_cons,List.length_nil,Go.maxLen];omega) (fP (((List.map c46 l80).length+(List.map c46 [{ dot:=(B9 f.gone).1[i70.toNat]!,sku:={ data:=#[(65:UInt8)]:ByteArray },qty:=1+i70:Entry }]).length)*(40:Nat)≤(140737488355328:Nat)) (by have b:=F8 h1 h85;simp only [List.length_map,List.length_cons,List.length_nil];omega) (fM c46 l80 [{ dot:=(B9 f.gone).1[i70.toNat]!,sku:={ data:=#[(65:UInt8)]:ByteArray },qty:=1+i70:Entry }] (oR 3 (c44 (B9 f.gone).1[i70.toNat]!) (oV 10 { rows:=some (List.map c46 (l80++[{ dot:=(B9 f.gone).1[i70.toNat]!,sku:={ data:=#[(65:UInt8)]:ByteArray },qty:=1+i70:Entry }])) } z0)))))))))))))) ?_
 refine bN<|sn<|rG cx [2,5,7,8,9,10,13,14] [2,7,10,1013] (tT 1 (B4 (by have b:=F8 h1 h85;omega) (by have b:=F8 h1 h85;omega):AV.i .i64 (IntKind.i64.wrap (i70+1))=AV.i .i64 (i70+1)) z0) ?_
 refine sn<|nX ((i70+1,x71,x72,x73,x74,k75,u76,q77,v78,c79,l80++[{ dot:=(B9 f.gone).1[i70.toNat]!,sku:={ data:=#[(65:UInt8)]:ByteArray },qty:=1+i70:Entry }])) (show((↑(B9 f.gone).1.length:Int)-(i70+1)).toNat <((↑(B9 f.gone).1.length:Int)-i70).toNat from(by omega)) (show Al3 f (B9 f.gone).1 (i70+1) x71 x72 x73 x74 k75 u76 q77 v78 c79 (l80++[{ dot:=(B9 f.gone).1[i70.toNat]!,sku:={ data:=#[(65:UInt8)]:ByteArray },qty:=1+i70:Entry }])from(by refine⟨h82,h83,h84,?_⟩;have h24:=A1v h85 h86;rw[A9v h2]at h24 ⊢;exact h24))
 refine eX 1<|nE<|nE<|bH<|sn<|sq<|rG cx [2,15,16] [2,15] (fP (Con Tryz.prog (15:Nat) [AV.sl (List.map c46 l80),AV.agg [AV.sl (List.map c3 v78),AV.sl (List.map B1 c79)],AV.i .i64 ((rep % (18446744073709551616:Int)).tmod (16:Int)),AV.agg [AV.i .i64 (1:Int),AV.i .i64 (1000000000:Int)],AV.agg [AV.i .i64 k75,AV.s u76,AV.i .i64 q77,AV.nl,AV.nl]] (AV.tup [AV.agg [AV.sl (List.map c46 (C9 l80 { vec:=v78,cloud:=c79:Past } ((rep % (18446744073709551616:Int)).tmod (16:Int)) { lines:=(1:Int),count:=(1000000000:Int):Limits } { kind:=k75,sku:=u76,qty:=q77,past:={ vec:=[],cloud:=[]:Past }:Actn }).1.adds),AV.sl (List.map c3 (C9 l80 { vec:=v78,cloud:=c79:Past } ((rep % (18446744073709551616:Int)).tmod (16:Int)) { lines:=(1:Int),count:=(1000000000:Int):Limits } { kind:=k75,sku:=u76,qty:=q77,past:={ vec:=[],cloud:=[]:Past }:Actn }).1.gone.vec),AV.sl (List.map B1 (C9 l80 { vec:=v78,cloud:=c79:Past } ((rep % (18446744073709551616:Int)).tmod (16:Int)) { lines:=(1:Int),count:=(1000000000:Int):Limits } { kind:=k75,sku:=u76,qty:=q77,past:={ vec:=[],cloud:=[]:Past }:Actn }).1.gone.cloud),AV.sl (List.map c54 (C9 l80 { vec:=v78,cloud:=c79:Past } ((rep % (18446744073709551616:Int)).tmod (16:Int)) { lines:=(1:Int),count:=(1000000000:Int):Limits } { kind:=k75,sku:=u76,qty:=q77,past:={ vec:=[],cloud:=[]:Past }:Actn }).1.recs)],AV.i .i64 (C9 l80 { vec:=v78,cloud:=c79:Past } ((rep % (18446744073709551616:Int)).tmod (16:Int)) { lines:=(1:Int),count:=(1000000000:Int):Limits } { kind:=k75,sku:=u76,qty:=q77,past:={ vec:=[],cloud:=[]:Past }:Actn }).2])) (Con.le (Aw5 (l80) ({ vec:=v78,cloud:=c79:Past }) ((rep % (18446744073709551616:Int)).tmod (16:Int)) ({ lines:=(1:Int),count:=(1000000000:Int):Limits }) ({ kind:=k75,sku:=u76,qty:=q77,past:={ vec:=[],cloud:=[]:Past }:Actn }) (by have b:=F8 h1 h85;omega) (by obtain⟨rfl,rfl,rfl,rfl⟩:=h82;obtain⟨rfl,rfl,rfl⟩:=h83;obtain⟨rfl,rfl⟩:=h84;exact A1u (Q5 (nn hh0))) (by obtain⟨rfl,rfl,rfl,rfl⟩:=h82;obtain⟨rfl,rfl,rfl⟩:=h83;obtain⟨rfl,rfl⟩:=h84;exact(show szP ⟨[],[]⟩from⟨by decide,by decide⟩))) (ZLe.cons (A7.refl _) (ZLe.cons (A7.refl _) (ZLe.cons (A7.refl _) (ZLe.cons (A7.refl _) (ZLe.cons (A7.agg (ZLe.cons (A7.refl _) (ZLe.cons (A7.refl _) (ZLe.cons (A7.refl _) (ZLe.cons A7.nl (ZLe.cons A7.nl ZLe.nil)))))) ZLe.nil)))))) (oA 5 (.tup [.agg [.sl (List.map c46 (C9 l80 { vec:=v78,cloud:=c79:Past } ((rep % (18446744073709551616:Int)).tmod (16:Int)) { lines:=(1:Int),count:=(1000000000:Int):Limits } { kind:=k75,sku:=u76,qty:=q77,past:={ vec:=[],cloud:=[]:Past }:Actn }).1.adds),.sl (List.map c3 (C9 l80 { vec:=v78,cloud:=c79:Past } ((rep % (18446744073709551616:Int)).tmod (16:Int)) { lines:=(1:Int),count:=(1000000000:Int):Limits } { kind:=k75,sku:=u76,qty:=q77,past:={ vec:=[],cloud:=[]:Past }:Actn }).1.gone.vec),.sl (List.map B1 (C9 l80 { vec:=v78,cloud:=c79:Past } ((rep % (18446744073709551616:Int)).tmod (16:Int)) { lines:=(1:Int),count:=(1000000000:Int):Limits } { kind:=k75,sku:=u76,qty:=q77,past:={ vec:=[],cloud:=[]:Past }:Actn }).1.gone.cloud),.sl (List.map c54 (C9 l80 { vec:=v78,cloud:=c79:Past } ((rep % (18446744073709551616:Int)).tmod (16:Int)) { lines:=(1:Int),count:=(1000000000:Int):Limits } { kind:=k75,sku:=u76,qty:=q77,past:={ vec:=[],cloud:=[]:Past }:Actn }).1.recs)],.i .i64 ((C9 l80 { vec:=v78,cloud:=c79:Past } ((rep % (18446744073709551616:Int)).tmod (16:Int)) { lines:=(1:Int),count:=(1000000000:Int):Limits } { kind:=k75,sku:=u76,qty:=q77,past:={ vec:=[],cloud:=[]:Past }:Actn }).2)]) z0)) ?_
 refine sn<|sq<|A9 (σ':=⟨[(4,.b (decide ((C9 l80 { vec:=v78,cloud:=c79:Past } ((rep % (18446744073709551616:Int)).tmod (16:Int)) { lines:=(1:Int),count:=(1000000000:Int):Limits } { kind:=k75,sku:=u76,qty:=q77,past:={ vec:=[],cloud:=[]:Past }:Actn }).2=0∧(C9 l80 { vec:=v78,cloud:=c79:Past } ((rep % (18446744073709551616:Int)).tmod (16:Int)) { lines:=(1:Int),count:=(1000000000:Int):Limits } { kind:=k75,sku:=u76,qty:=q77,past:={ vec:=[],cloud:=[]:Past }:Actn }).1={ adds:=x71,gone:={ vec:=x72,cloud:=x73:Past },recs:=x74:Facts })))],[]⟩) ?_ ?_
 refine A6 ((C9 l80 { vec:=v78,cloud:=c79:Past } ((rep % (18446744073709551616:Int)).tmod (16:Int)) { lines:=(1:Int),count:=(1000000000:Int):Limits } { kind:=k75,sku:=u76,qty:=q77,past:={ vec:=[],cloud:=[]:Past }:Actn }).2=0) (fun h88=>?_) (fun h88=>?_)
 refine rG cx [4] [] (tT 1 (A4 h88) (fT (B2g ((C9 l80 { vec:=v78,cloud:=c79:Past } ((rep % (18446744073709551616:Int)).tmod (16:Int)) { lines:=(1:Int),count:=(1000000000:Int):Limits } { kind:=k75,sku:=u76,qty:=q77,past:={ vec:=[],cloud:=[]:Past }:Actn }).1) ({ adds:=x71,gone:={ vec:=x72,cloud:=x73:Past },recs:=x74:Facts }) ?g82 ?g83) (tD 7 (decide ((C9 l80 { vec:=v78,cloud:=c79:Past } ((rep % (18446744073709551616:Int)).tmod (16:Int)) { lines:=(1:Int),count:=(1000000000:Int):Limits } { kind:=k75,sku:=u76,qty:=q77,past:={ vec:=[],cloud:=[]:Past }:Actn }).1={ adds:=x71,gone:={ vec:=x72,cloud:=x73:Past },recs:=x74:Facts })) ((C9 l80 { vec:=v78,cloud:=c79:Past } ((rep % (18446744073709551616:Int)).tmod (16:Int)) { lines:=(1:Int),count:=(1000000000:Int):Limits } { kind:=k75,sku:=u76,qty:=q77,past:={ vec:=[],cloud:=[]:Past }:Actn }).2=0∧(C9 l80 { vec:=v78,cloud:=c79:Past } ((rep % (18446744073709551616:Int)).tmod (16:Int)) { lines:=(1:Int),count:=(1000000000:Int):Limits } { kind:=k75,sku:=u76,qty:=q77,past:={ vec:=[],cloud:=[]:Past }:Actn }).1={ adds:=x71,gone:={ vec:=x72,cloud:=x73:Past },recs:=x74:Facts }) (by simp only [eq_true h88,tsl]) (oA 5 (.b (decide ((C9 l80 { vec:=v78,cloud:=c79:Past } ((rep % (18446744073709551616:Int)).tmod (16:Int)) { lines:=(1:Int),count:=(1000000000:Int):Limits } { kind:=k75,sku:=u76,qty:=q77,past:={ vec:=[],cloud:=[]:Past }:Actn }).1={ adds:=x71,gone:={ vec:=x72,cloud:=x73:Past },recs:=x74:Facts }))) z0)))) ?_;rotate_left 2
 exact⟨rfl,by kernel_rfl⟩
 refine rG cx [4] [] (tT 1 (A0 h88) (tD 7 false ((C9 l80 { vec:=v78,cloud:=c79:Past } ((rep % (18446744073709551616:Int)).tmod (16:Int)) { lines:=(1:Int),count:=(1000000000:Int):Limits } { kind:=k75,sku:=u76,qty:=q77,past:={ vec:=[],cloud:=[]:Past }:Actn }).2=0∧(C9 l80 { vec:=v78,cloud:=c79:Past } ((rep % (18446744073709551616:Int)).tmod (16:Int)) { lines:=(1:Int),count:=(1000000000:Int):Limits } { kind:=k75,sku:=u76,qty:=q77,past:={ vec:=[],cloud:=[]:Past }:Actn }).1={ adds:=x71,gone:={ vec:=x72,cloud:=x73:Past },recs:=x74:Facts }) (by simp only [eq_false h88,tsl]) z0)) ?_
 exact⟨rfl,by kernel_rfl⟩
 refine sn<|rT<|qR (.b (decide ((C9 l80 { vec:=v78,cloud:=c79:Past } ((rep % (18446744073709551616:Int)).tmod (16:Int)) { lines:=(1:Int),count:=(1000000000:Int):Limits } { kind:=k75,sku:=u76,qty:=q77,past:={ vec:=[],cloud:=[]:Past }:Actn }).2=0∧(C9 l80 { vec:=v78,cloud:=c79:Past } ((rep % (18446744073709551616:Int)).tmod (16:Int)) { lines:=(1:Int),count:=(1000000000:Int):Limits } { kind:=k75,sku:=u76,qty:=q77,past:={ vec:=[],cloud:=[]:Past }:Actn }).1={ adds:=x71,gone:={ vec:=x72,cloud:=x73:Past },recs:=x74:Facts }))) (.eq (by obtain⟨rfl,rfl,rfl,rfl⟩:=h82;obtain⟨rfl,rfl,rfl⟩:=h83;obtain⟨rfl,rfl⟩:=h84;exact congrArg AV.b (decide_eq_true (Ag9 (nn hh0) h1 h85 h86 r16 (fun h24=>absurd h24 h2) (A1x (by rw[Ah1 h2 h24 h47]))))))
 case g30=>revert hh0 h1 h2 i3 xx4 x5 x6 x7 k8 u9 q10 v11 c12 l13 h15 h16 h17 h18 h19 h21;intro h k a i x1 x2 x3 x4 kk u q v c l e1 e2 e3 e4 hi;intro _;exact(A1d (V1 ⟨l,_,_,⟨1,1000000000⟩,_⟩)).1
 case g31=>revert hh0 h1 h2 i3 xx4 x5 x6 x7 k8 u9 q10 v11 c12 l13 h15 h16 h17 h18 h19 h21;intro h k a i x1 x2 x3 x4 kk u q v c l e1 e2 e3 e4 hi;intro _;exact Nat.le_trans (A1d (V1 ⟨l,_,_,⟨1,1000000000⟩,_⟩)).2 (by decide)
 case g48=>revert hh0 h1 h2 h24 i25 x26 x27 x28 x29 k30 u31 q32 v33 c34 v35 c36 l37 h39 h40 h41 h42 h43 h44 h46;intro h k a z i x1 x2 x3 x4 kk u q v c v2 c2 l e1 e2 e3 e5 e4 hi;intro _;exact(A1d (V1 ⟨l,_,_,⟨1,1000000000⟩,_⟩)).1
 case g49=>revert hh0 h1 h2 h24 i25 x26 x27 x28 x29 k30 u31 q32 v33 c34 v35 c36 l37 h39 h40 h41 h42 h43 h44 h46;intro h k a z i x1 x2 x3 x4 kk u q v c v2 c2 l e1 e2 e3 e5 e4 hi;intro _;exact Nat.le_trans (A1d (V1 ⟨l,_,_,⟨1,1000000000⟩,_⟩)).2 (by decide)
 case g66=>revert hh0 h1 h2 h24 h47 i48 x49 x50 x51 x52 k53 u54 q55 v56 c57 v58 c59 l60 h62 h63 h64 h65 h66 h67 h69;intro h k a z z1 i x1 x2 x3 x4 kk u q v c v2 c2 l e1 e2 e3 e5 e4 hi;intro _;exact(A1d (V1 ⟨l,_,_,⟨1,1000000000⟩,_⟩)).1
 case g67=>revert hh0 h1 h2 h24 h47 i48 x49 x50 x51 x52 k53 u54 q55 v56 c57 v58 c59 l60 h62 h63 h64 h65 h66 h67 h69;intro h k a z z1 i x1 x2 x3 x4 kk u q v c v2 c2 l e1 e2 e3 e5 e4 hi;intro _;exact Nat.le_trans (A1d (V1 ⟨l,_,_,⟨1,1000000000⟩,_⟩)).2 (by decide)
 case g82=>revert hh0 h1 h2 h24 h47 i70 x71 x72 x73 x74 k75 u76 q77 v78 c79 l80 h82 h83 h84 h85 h86 h88;intro h k a z z1 i x1 x2 x3 x4 kk u q v c l e1 e2 e3 e4 hi;intro _;exact(A1d (V1 ⟨l,_,_,⟨1,1000000000⟩,_⟩)).1
 case g83=>revert hh0 h1 h2 h24 h47 i70 x71 x72 x73 x74 k75 u76 q77 v78 c79 l80 h82 h83 h84 h85 h86 h88;intro h k a z z1 i x1 x2 x3 x4 kk u q v c l e1 e2 e3 e4 hi;intro _;exact Nat.le_trans (A1d (V1 ⟨l,_,_,⟨1,1000000000⟩,_⟩)).2 (by decide)
end Go.Proofs.YtphcaholhacnpaaGreat
namespace Go.E
open Go.RowKit Go.ChangeShapes Go.WideShapes Go.ChangeAt
def TyA(T:Tab)(L n t:Nat)(av:AV):Prop :=
 match look T t with
 | some ti=>if ti.isAgg then ∃ cs,av=.agg cs∧TyC T L n t cs else TyC T L n t [av]
 | none=>False
def B2n(T:Tab)(L n:Nat):List Nat→List AV→Prop
 | [],[]=>True
 | t :: ts,a :: aL=>TyA T L n t a∧B2n T L n ts aL
 | _,_=>False
section
variable {P : Program} {T : Tab} {H : Type} {enc : TypeId × Value → H} {W : World} {spare : Nat → Bool} {held : Bool}
theorem A3v(hT:TabOk P T){n t:Nat}{ti:TI}(hti:look T t=some ti)(hp:K8 T n t=true)(hg:ti.isAgg=false){r:Reach}{base:Nat}{v:Value}(hv:Value.okWide P W r base t v):v.oneCell'=true∨∃ x,v=x∧v.cells=#[v]:=by
 have hu:=(hT t ti hti).1
 unfold Value.okWide at hv
 rw[hu]at hv
 cases n with
 | zero=>simp [K8]at hp
 | succ n =>
  unfold K8 at hp
  rw[hti]at hp
  simp only at hp
  unfold TI.isAgg at hg
  cases hd:ti.desc with
  | bool=>rw[hd]at hv;simp only [Cell.okWide,hu,hd,Cell.ok]at hv;cases v <;> simp_all [Value.oneCell',Value.cells]
  | int k=>rw[hd]at hv;simp only [Cell.okWide,hu,hd,Cell.ok]at hv;cases v <;> simp_all [Value.oneCell',Value.cells]
  | string=>rw[hd]at hv;simp only [Cell.okWide,hu,hd,Cell.ok]at hv;cases v <;> simp_all [Value.oneCell',Value.cells]
  | slice e=>rw[hd]at hv;simp only [Cell.okWide,hu,hd,Cell.ok]at hv;cases v <;> simp_all [Value.oneCell',Value.cells]
  | struct fs=>rw[hd]at hg;simp at hg
  | array k e=>rw[hd]at hg;simp at hg
  | _=>rw[hd]at hp;first | exact absurd hp Bool.false_ne_true | cases hp
theorem B2o(hT:TabOk P T){n t:Nat}(hp:K8 T n t=true){r:Reach}{base:Nat}{v:Value}{d:DataW H}{ps:List MemPlace}(hv:Value.okWide P W r base t v)
  (hd:DataW.Trod enc P W 0 spare held t v d ps) (hw:∀ m∈d.weights P t,m≤reachBytes) {L:Nat} (hL:bulkD d≤L):∃ av,RelV0 (fun k=>k < W.heap.size) W av v∧TyA T L n t av:=by
 obtain⟨ti,hti⟩:=P8 hp
 obtain⟨fuel,hf⟩:=hd
 obtain⟨avs,hc,hty⟩:=B0s hT n t hp fuel _ _ _ hf hw L hL
 by_cases hg:ti.isAgg=true
 ·have hu:=(hT t ti hti).1
  have hv':=hv
  unfold Value.okWide at hv'
  rw[hu]at hv'
  have:∃ cs,v=.agg cs:=by
   unfold TI.isAgg at hg
   split at hg
   ·rename_i fs hd;rw[hd]at hv';obtain⟨cs,h,_⟩:=hv';exact⟨cs,h⟩
   ·rename_i k e hd;rw[hd]at hv';obtain⟨cs,h,_⟩:=hv';exact⟨cs,h⟩
   ·cases hg
  obtain⟨cs,rfl⟩:=this
  refine⟨.agg avs,?_,by unfold TyA;rw[hti];simp only [hg,if_true];exact⟨avs,rfl,hty⟩⟩
  have:=RelV0.agg (S:=fun k=>k < W.heap.size) (w:=W) avs cs.toList (by rw[hc.1];simp [Value.cells]) (fun u hu=>hc.2.1 u (by simpa [Value.cells]using hu)) (fun j a u ha hu=>hc.2.2 j a u ha (by simpa [Value.cells]using hu))
  simpa using this
 ·have hg':ti.isAgg=false:=by simpa using hg
  have h1:v.cells.toList=[v]:=by
   rcases A3v hT hti hp hg' hv with h | ⟨_,_,h⟩
   ·cases v <;> simp_all [Value.oneCell',Value.cells]
   ·rw[h]
  rw[h1]at hc
  obtain⟨c1,_,c3⟩:=hc
  match avs,c1,c3,hty with
  | [a],_,c3,hty=>exact⟨a,c3 0 a v rfl rfl,by unfold TyA;rw[hti];simp only [hg',Bool.false_eq_true,if_false];exact hty⟩
theorem A8j(hT:TabOk P T){L n:Nat}{r:Reach}{base:Nat}:∀(ts:List Nat) (vs:List Value) (ds:List (DataW H)) (ps:List MemPlace),(∀ t∈ts,K8 T n t=true) →
  (∀(j:Nat) t v,ts[j]?=some t→vs[j]?=some v→Value.okWide P W r base t v)→DataW.TrodAll enc P W 0 spare held ts vs ds ps→(∀ m∈DataW.weightsEach P ts ds,m≤reachBytes)→bulkDs ds≤L →
  ∃ avs:List AV,avs.length=vs.length∧(∀(j:Nat) (a:AV) (u:Value),avs[j]?=some a→vs[j]?=some u→RelV0 (fun k=>k < W.heap.size) W a u)∧B2n T L n ts avs∧ds.length=ts.length
 | [],[],[],ps,_,_,_,_,_=>⟨[],rfl,fun j a u ha=>by simp at ha,trivial,rfl⟩
 | t :: ts,v :: vs,d :: ds,ps,hp,hv,hA,hw,hL=>by
  simp only [bulkDs]at hL
  obtain⟨p,q,h1,h2,_⟩:=hA
  obtain⟨a,e1,e2⟩:=B2o hT (hp t (by simp)) (hv 0 t v rfl rfl) h1 (fun m hm=>hw m (by simp only [DataW.weightsEach,List.mem_append];exact .inl hm)) (L:=L) (by omega)
  obtain⟨aL,f1,f2,f3,f4⟩:=A8j (L:=L) hT ts vs ds q (fun t ht=>hp t (List.mem_cons_of_mem _ ht)) (fun j t v ht hv'=>hv (j+1) t v (by simpa using ht) (by simpa using hv')) h2 (fun m hm=>hw m (by simp only [DataW.weightsEach,List.mem_append];exact .inr hm)) (by omega)
  refine⟨a :: aL,by simp [f1],fun j b u hb hu=>?_,⟨e2,f3⟩,by simp [f4]⟩
  cases j with
  | zero=>simp at hb hu;subst hb hu;exact e1
  | succ j=>exact f2 j b u (by simpa using hb) (by simpa using hu)
 | [],_ :: _,_,_,_,_,hA,_,_=>hA.elim
 | [],[],_ :: _,_,_,_,hA,_,_=>hA.elim
 | _ :: _,[],_,_,_,_,hA,_,_=>hA.elim
 | _ :: _,_ :: _,[],_,_,_,hA,_,_=>hA.elim
theorem A0m(hl:laidOutB P=true){W':World}(hb:Below W.heap.size W W'):∀(ts:List Nat) (vs:List Value) (ds:List (DataW H)) (ps:List MemPlace),(∀ t∈ts,P.readableRec t=true∧t < P.types.size) →
  (∀ x∈ps,x.block < W.heap.size)→DataW.TrodAll enc P W 0 (fun _=>true) true ts vs ds ps→DataW.TrodAll enc P W' 0 (fun b=>decide (b < W.heap.size)) true ts vs ds ps
 | [],[],[],ps,_,_,h=>h
 | t :: ts,v :: vs,d :: ds,ps,hr,hlt,h=>by
  obtain⟨p,q,h1,h2,rfl⟩:=h
  exact⟨p,q,Below.trod hl (hr t (by simp)).1 (hr t (by simp)).2 h1 hb (fun x hx=>hlt x (List.mem_append_left _ hx)),
   A0m hl hb ts vs ds q (fun t ht=>hr t (List.mem_cons_of_mem _ ht)) (fun x hx=>hlt x (List.mem_append_right _ hx)) h2,rfl⟩
 | [],_ :: _,_,_,_,_,hA=>hA.elim
 | [],[],_ :: _,_,_,_,hA=>hA.elim
 | _ :: _,[],_,_,_,_,hA=>hA.elim
 | _ :: _,_ :: _,[],_,_,_,hA=>hA.elim
end
theorem B2p{T:Tab}{C:Checked}{f:FuncId}{fn:Func}{s:ChangeSpec}{H:Type}{enc:TypeId×Value→H}(ts:List Nat)(tb L n:Nat)
  (hT:TabOk C.prog T) (hl:laidOutB C.prog=true)
  (hts:fn.params=ts.toArray) (htb:fn.resultTypes=#[tb]) (hub:C.prog.underlying tb=some .bool) (hpl:ts.all (fun t=>K8 T n t && C.prog.readableRec t && Nat.blt t C.prog.types.size)=true)
  (hvars:s.vars=[]) (hspec:∀ ds:List (DataW H),ds.length=ts.length→s.fn H (ds++[])={ results:=[.lit (.bool true)],args:=ds })
  (hcon:∀ avs,B2n T L n ts avs→Con C.prog f avs (.b true)) {W:World} {base:Nat} {args:Array Value} {ds gs:List (DataW H)} {before:List MemPlace} {us:List Nat}
  (hval:∀(j:Nat) t v,fn.params[j]?=some t→args[j]?=some v→Value.okWide C.prog W .any base t v) (hW:DataW.Whole enc C.prog fn.params.toList s.vars false W args.toList ds gs before)
  (hsz:(DataW.weightsEach C.prog (fn.params.toList++us) (ds++gs)).all (·≤reachBytes)=true) (hbk:bulkDs (ds++gs)≤L) :
  Calls C.prog f args W fun e W'=>∃ v,e=.returned v∧s.post enc C.prog fn false true false false W args v W':=by
 have hW':=hW
 obtain⟨p,q,hA,hV,rfl,_,_⟩:=hW
 rw[hvars]at hV
 obtain⟨rfl,rfl⟩:=trodVars_none hV
 rw[List.append_nil]at hW' hbk
 have hpars:fn.params.toList=ts:=by rw[hts]
 have hA':DataW.TrodAll enc C.prog W 0 (fun _=>true) true ts args.toList ds p:=by rw[← hpars];exact hA
 have hpl':∀ t∈ts,K8 T n t=true∧C.prog.readableRec t=true∧t < C.prog.types.size:=by
  intro t ht
  have:=List.all_eq_true.1 hpl t ht
  simp only [Bool.and_eq_true]at this
  exact⟨this.1.1,this.1.2,by simpa using this.2⟩
 have hw:∀ m∈DataW.weightsEach C.prog ts ds,m≤reachBytes:=by
  intro m hm
  have hsz':=hsz
  rw[List.append_nil,hpars]at hsz'
  have hsub:∀(ts us:List Nat) (ds:List (DataW H)),∀ m∈DataW.weightsEach C.prog ts ds,m∈DataW.weightsEach C.prog (ts++us) ds:=by
   intro ts us ds
   induction ts generalizing ds with
   | nil=>intro m hm;cases ds <;> simp [DataW.weightsEach]at hm
   | cons t ts ih =>
    intro m hm
    cases ds with
    | nil=>simp [DataW.weightsEach]at hm
    | cons d ds =>
     simp only [DataW.weightsEach,List.cons_append,List.mem_append]at hm ⊢
     rcases hm with hm | hm
     ·exact .inl hm
     ·exact .inr (ih ds m hm)
  have:=List.all_eq_true.1 hsz' m (hsub ts _ ds m hm)
  simpa using this
 obtain⟨avs,h1,h2,h3,h4⟩:=A8j hT ts args.toList ds p (fun t ht=>(hpl' t ht).1) (fun j t v ht hv=>hval j t v (by rw[hts];simpa using ht) (by simpa using hv)) hA' hw hbk
 have hlt:∀ x∈p,x.block < W.heap.size:=fun x hx=>hW'.lt x hx
 have hsp:=hspec ds h4
 have:=(hcon avs h3).2 W (fun k=>k < W.heap.size) args.toList (fun _ h=>h) (by rw[h1]) h2
 rw[Array.toArray_toList]at this
 refine this.mono fun e W' ⟨v,he,hr,hb⟩=>?_
 cases hr with
 | b =>
  refine⟨_,he,ds,[],p,[],p,[],hW',?_,?_,?_,hb.frame _,fun h=>by cases h⟩
  ·rw[hsp,htb]
   exact trodAll_mk1 (shut_bool hub true)
  ·rw[hsp,hpars]
   exact A0m hl hb ts args.toList ds p (fun t ht=>(hpl' t ht).2) hlt hA'
  ·rw[hsp,hvars]
   rfl
theorem Al5{T:Tab}{C:Checked}{os:Os}{f:FuncId}{fn:Func}{s:ChangeSpec}{conds:List PathCond}{H:Type}{enc:TypeId×Value→H}(ts:List Nat)(tb n:Nat)
  (hT:TabOk C.prog T) (hl:laidOutB C.prog=true) (own:ownKnob C.prog.godebug=none) (started:os.Started) (noInit:C.prog.inits.idxOf? f=none) (hfn:C.prog.funcs[f]?=some fn)
  (hts:fn.params=ts.toArray) (htb:fn.resultTypes=#[tb]) (hub:C.prog.underlying tb=some .bool) (hpl:ts.all (fun t=>K8 T n t && C.prog.readableRec t && Nat.blt t C.prog.types.size)=true)
  (hvars:s.vars=[]) (hspec:∀ ds:List (DataW H),ds.length=ts.length→s.fn H (ds++[])={ results:=[.lit (.bool true)],args:=ds })
  (witness:∃(w:World) (tape:Tape) (i:Input),w.os=os∧(w.forCall tape i).Shaped C.prog∧i.vars=[]∧Input.okWide C.prog (w.forCall tape i) .any w.heap.size f i ∧
   s.pre6 enc C.prog fn conds false (w.forCall tape i).memory i.args∧({}:Assume).holds C.prog (lone (Frame.enter C.prog f i.args .normal) [] (w.forCall tape i)))
  (hcon:∀ L avs,B2n T L n ts avs→Con C.prog f avs (.b true)) :
  ReturnsInHanded {} C os f .any (s.pre6 enc C.prog fn conds false) (s.post enc C.prog fn false true false false):=by
 refine returnsInHanded_of_change_sized own started noInit hfn witness ?_
 intro W base args ds gs before hval hW _ hsz _
 exact B2p ts tb (bulkDs (ds++gs)) n hT hl hts htb hub hpl hvars hspec (hcon _) hval hW hsz (Nat.le_refl _)
theorem Q6{α:Type}{g:α→List AV}{Q:α→Prop}{C:List AV→Prop}(h:∀ r,C r→∃ x,r=g x∧Q x):∀(rows:List (List AV)),(∀ r∈rows,C r)→∃ xs:List α,rows=xs.map g∧∀ x∈xs,Q x
 | [],_=>⟨[],rfl,fun x hx=>by simp at hx⟩
 | r :: rows,hr=>by
  obtain⟨x,h1,h2⟩:=h r (hr r (by simp))
  obtain⟨xs,h3,h4⟩:=Q6 h rows fun q hq=>hr q (List.mem_cons_of_mem _ hq)
  refine⟨x :: xs,by rw[h1,h3];rfl,fun y hy=>?_⟩
  rcases List.mem_cons.1 hy with rfl | hy
  ·exact h2
  ·exact h4 y hy
end Go.E
namespace Go.Proofs.YtphcaholhacnpaaGreat
open Go.E
set_option maxRecDepth 100000
set_option maxHeartbeats 4000000
open Go.ChangeShapes Go.WideShapes Go.ChangeAt Go.RowKit Go
theorem Tryz.own:Go.ownKnob Tryz.prog.godebug=none:=by kernel_rfl
theorem Tryz.laidOut:laidOutB Tryz.prog=true:=by kernel_rfl
def inr(n:Int):Prop:=-9223372036854775808≤n∧n≤9223372036854775807
theorem ty3{L n:Nat}{cs:List AV}(h:TyC tab L (n+1) 3 cs):∃ x,cs=c3 x∧inr x:=by
 obtain⟨x,rfl,h1,h2⟩:=h
 exact⟨x,rfl,h1,h2⟩
theorem ty44{L n:Nat}{cs:List AV}(h:TyC tab L (n+2) 44 cs):∃ d:Dot,cs=c44 d∧inr d.rep∧inr d.num:=by
 obtain⟨a,b,rfl,ha,c,d,rfl,hc,rfl⟩:=h
 obtain⟨x,rfl,hx⟩:=ty3 ha
 obtain⟨y,rfl,hy⟩:=ty3 hc
 exact⟨⟨x,y⟩,rfl,hx,hy⟩
theorem one_eq{a b:AV}(h:[a]=[b]):a=b:=by simpa using h
theorem ta3{L:Nat}{a:AV}(h:TyA tab L 9 3 a):∃ x,a=.i .i64 x∧inr x:=by
 obtain⟨x,hx,k⟩:=ty3 (L:=L) (n:=8) (cs:=[a]) h
 exact⟨x,one_eq hx,k⟩
theorem ty9{L n:Nat}{cs:List AV}(h:TyC tab L (n+1) 9 cs):∃ s:ByteArray,cs=[.s s]∧s.size≤140737488351232:=by
 obtain⟨s,rfl,_,h2,_⟩:=h
 exact⟨s,rfl,h2⟩
theorem ty141{L n:Nat}{cs:List AV}(h:TyC tab L (n+2) 141 cs):∃ d:Span,cs=B1 d∧inr d.rep∧inr d.lo∧inr d.hi:=by
 obtain⟨a,b,rfl,ha,c,d,rfl,hc,e,f,rfl,he,rfl⟩:=h
 obtain⟨x,rfl,hx⟩:=ty3 ha
 obtain⟨y,rfl,hy⟩:=ty3 hc
 obtain⟨z,rfl,hz⟩:=ty3 he
 exact⟨⟨x,y,z⟩,rfl,hx,hy,hz⟩
def inE(e:Entry):Prop:=inr e.dot.rep∧inr e.dot.num∧e.sku.size≤140737488351232∧inr e.qty
theorem ty46{L n:Nat}{cs:List AV}(h:TyC tab L (n+3) 46 cs):∃ e:Entry,cs=c46 e∧inE e:=by
 obtain⟨a,b,rfl,ha,c,d,rfl,hc,e,f,rfl,he,rfl⟩:=h
 obtain⟨x,rfl,hx⟩:=ty44 ha
 obtain⟨y,rfl,hy⟩:=ty9 hc
 obtain⟨z,rfl,hz⟩:=ty3 he
 exact⟨⟨x,y,z⟩,rfl,hx.1,hx.2,hy,hz⟩
theorem ty22{L n:Nat}{cs:List AV}(h:TyC tab L (n+4) 22 cs):∃ xs:List Entry,cs=[.sl (xs.map c46)]∧((∀ x∈xs,inE x)∧xs.length*40≤140737488351232)∧xs.length≤L:=by
 obtain⟨rows,rfl,h1,h2,hL,h3⟩:=h
 obtain⟨xs,rfl,hx⟩:=Q6 (fun r hr=>ty46 hr) rows h3
 exact⟨xs,rfl,⟨hx,by rw[List.length_map]at h2;exact h2⟩,by rw[List.length_map]at hL;exact hL⟩
mutual
theorem bulk_eq {H : Type} : ∀ d : DataW H, Rows.uptoBulk d = bulkD d
  | .lit l => by cases l <;> simp [Rows.uptoBulk, bulkD]
  | .nil => by simp [Rows.uptoBulk, bulkD]
  | .ptr d => by simp only [Rows.uptoBulk, bulkD, bulk_eq d]
  | .slice elems spare => by simp only [Rows.uptoBulk, bulkD, bulks_eq elems, bulks_eq spare]
  | .agg parts => by simp only [Rows.uptoBulk, bulkD, bulks_eq parts]
  | .iface _ d => by simp only [Rows.uptoBulk, bulkD, bulk_eq d]
  | .map entries => by simp only [Rows.uptoBulk, bulkD, bulkm_eq entries]
  | .held _ => by simp [Rows.uptoBulk, bulkD]
theorem bulks_eq {H : Type} : ∀ l : List (DataW H), Rows.uptoBulkAll l = bulkDs l
  | [] => by simp [Rows.uptoBulkAll, bulkDs]
  | d :: r => by simp only [Rows.uptoBulkAll, bulkDs, bulk_eq d, bulks_eq r]
theorem bulkm_eq {H : Type} : ∀ l : List (Lit × DataW H), Rows.uptoBulkEntries l = bulkDm l
  | [] => by simp [Rows.uptoBulkEntries, bulkDm]
  | x :: r => by simp only [Rows.uptoBulkEntries, bulkDm, bulke_eq x, bulkm_eq r]
theorem bulke_eq {H : Type} : ∀ x : Lit × DataW H, Rows.uptoBulkEntry x = bulkDe x
  | (l, d) => by cases l <;> simp only [Rows.uptoBulkEntry, bulkDe, bulk_eq d]
end
end Go.Proofs.YtphcaholhacnpaaGreat
namespace Go.Proofs.YtphcaholhacnpaaGreat
open Go.E
set_option maxRecDepth 100000
set_option maxHeartbeats 4000000
def inPL(L:Nat)(p:Past):Prop:=szP p∧p.cloud.length≤L∧p.vec.length≤L
theorem ly23{L n:Nat}{cs:List AV}(h:TyC tab L (n+2) 23 cs):∃ xs:List Int,cs=c23 xs∧xs.length*8≤140737488351232∧xs.length≤L:=by
 obtain⟨rows,rfl,h1,h2,hL,h3⟩:=h
 obtain⟨xs,rfl,hx⟩:=Q6 (fun r hr=>ty3 hr) rows h3
 exact⟨xs,rfl,by rw[List.length_map]at h2;exact h2,by rw[List.length_map]at hL;exact hL⟩
theorem ly24{L n:Nat}{cs:List AV}(h:TyC tab L (n+3) 24 cs):∃ xs:List Span,cs=[.sl (xs.map B1)]∧xs.length*24≤140737488351232∧xs.length≤L:=by
 obtain⟨rows,rfl,h1,h2,hL,h3⟩:=h
 obtain⟨xs,rfl,hx⟩:=Q6 (fun r hr=>ty141 hr) rows h3
 exact⟨xs,rfl,by rw[List.length_map]at h2;exact h2,by rw[List.length_map]at hL;exact hL⟩
theorem ly26{L n:Nat}{cs:List AV}(h:TyC tab L (n+4) 26 cs):∃ p:Past,cs=c26 p∧inPL L p:=by
 obtain⟨a,b,rfl,ha,c,d,rfl,hc,rfl⟩:=h
 obtain⟨x,rfl,hx⟩:=ly23 (L:=L) (n:=n+1) ha
 obtain⟨y,rfl,hy⟩:=ly24 hc
 exact⟨⟨x,y⟩,rfl,⟨by simp only;omega,by simp only;omega⟩,hy.2,hx.2⟩
theorem ly54{L n:Nat}{cs:List AV}(h:TyC tab L (n+5) 54 cs):∃ r:Record,cs=c54 r∧inPL L r.past:=by
 obtain⟨a,b,rfl,ha,c,d,rfl,hc,rfl⟩:=h
 obtain⟨x,rfl,hx⟩:=ty9 (L:=L) (n:=n+3) ha
 obtain⟨y,rfl,hy⟩:=ly26 hc
 exact⟨⟨x,y⟩,rfl,hy⟩
def inRL(L:Nat)(rs:List Record):Prop:=(∀ r∈rs,inPL L r.past)∧rs.length*64≤140737488351232∧rs.length≤L
theorem ly34{L n:Nat}{cs:List AV}(h:TyC tab L (n+6) 34 cs):∃ rs:List Record,cs=[.sl (rs.map c54)]∧inRL L rs:=by
 obtain⟨rows,rfl,h1,h2,hL,h3⟩:=h
 obtain⟨xs,rfl,hx⟩:=Q6 (fun r hr=>ly54 hr) rows h3
 exact⟨xs,rfl,hx,by rw[List.length_map]at h2;exact h2,by rw[List.length_map]at hL;exact hL⟩
def inFL(L:Nat)(f:Facts):Prop:=(f.adds.length*40≤140737488351232∧f.adds.length≤L)∧inPL L f.gone∧inRL L f.recs
theorem ly36{L n:Nat}{cs:List AV}(h:TyC tab L (n+7) 36 cs):∃ f:Facts,cs=c36 f∧inFL L f:=by
 obtain⟨a,b,rfl,ha,c,d,rfl,hc,e,g,rfl,he,rfl⟩:=h
 obtain⟨x,rfl,hx⟩:=ty22 (L:=L) (n:=n+2) ha
 obtain⟨y,rfl,hy⟩:=ly26 (L:=L) (n:=n+2) hc
 obtain⟨z,rfl,hz⟩:=ly34 he
 exact⟨⟨x,y,z⟩,rfl,⟨hx.1.2,hx.2⟩,hy,hz⟩
theorem ta36{L:Nat}{a:AV}(h:TyA tab L 9 36 a):∃ f:Facts,a=.agg (c36 f)∧inFL L f:=by
 obtain⟨cs,rfl,h2⟩:=(show ∃ cs,a=.agg cs∧TyC tab L 9 36 cs from h)
 obtain⟨d,rfl,k⟩:=ly36 (L:=L) (n:=2) h2
 exact⟨d,rfl,k⟩
theorem inF_sz{L:Nat}{f:Facts}(h:inFL L f):szF f:=⟨h.2.1.1,fun r hr=>(h.2.2.1 r hr).1⟩
end Go.Proofs.YtphcaholhacnpaaGreat
namespace Go.Proofs.YtphcaholhacnpaaGreat
open Go.E
set_option maxRecDepth 100000
set_option maxHeartbeats 4000000
theorem Tryz.rowedM:Go.mapsRowed Tryz.prog=true:=by kernel_rfl
theorem Tryz.stopsH:Tryz.prog.stopsHeard=true:=by kernel_rfl
theorem Tryz.mayE:Tryz.prog.mayEnter=true:=by kernel_rfl
end Go.Proofs.YtphcaholhacnpaaGreat
