/- Lf: lines: Sort, Find and what the document says of them. Conditions: sizes. Tt: tomb: in plain words. Conditions: none. Lq: entries in form: how many there are. Conditions: none. Tu: tomb: Check, Less, Within, Order. Conditions: sizes. Lm: lines: Dots, Inside, Outside. Conditions: sizes. Tv: the document's Check, Less, Within, Order, Copy, Equal. Conditions: sizes. Tw: the law of Within, Order, Less. Conditions: sizes. Kf: keep.Covers, Bars, Fold, Apply. Conditions: sizes. Kg: keep.Covers, Bars, Fold, Apply. Conditions: sizes. EZ: what has been drawn is never taken back: a call leaves the count of draws no smaller. Conditions: none. ET3: slices.SortFunc at a row whose cells lead on, by a comparing call that may lay blocks: the row comes into the one order. Conditions: the comparing is a total order of what the row holds. Ko: records put in order, each once, in plain words. Conditions: none. Lh: lines: Union, and the library's Grow and Concat at entries. Conditions: sizes. Ks: records: slices.SortFunc, CompactFunc, Grow and Concat at them, keep.Sort, keep.Union. Conditions: sizes. Kt: records in the documents: ordered, Union, Bars. Conditions: sizes. Lpa: entries in form, in plain words (first part). Conditions: none. -/
import Derived.Below
import Derived.OwnWalk
import Derived.WalkKit
import Derived.KernelRfl
import Derived.Laws.MakeOwn
import Derived.Laws.OwnMore
import Derived.Laws.Slices
import Derived.Laws.CopyOwn
import Derived.Laws.AppendOwnNone
import Derived.Laws.Rows
import Derived.Orders
import Derived.Test.YtaiepnaokhpmcaaGreatProg
import Derived.DataReads
import Derived.ChangeOld
import Derived.DataElems
import Derived.SizedLaws
import Derived.ChangeKeysEq
import Derived.Sort.LotA
import Derived.Shelf.SlSortFuncK.RowK2
import Derived.Lib.Walk
import Derived.Shelf.SlLaysE0
import Derived.Shelf.RegionOpenPlain
import Derived.Deep.LoopGhost
import Derived.Lib.SliceRun
import Derived.Shelf.SlSortFuncK.SWK
import Derived.Deep.Cut
import Derived.Deep.CutRange
import Derived.Deep.DeepCutAuto
import Derived.Lib.ReflectliteSwap
import Derived.Laws.Externs
import Derived.Lib.ReflectliteSlice
import Derived.Shelf.SlSortCmp.NoneTotal
import Derived.Lib.Bytealg
import Derived.Calls
import Derived.Lib.AppendZeros
import Derived.Test.YtaiepnaokhpmcaaGreatZu4
set_option linter.unusedVariables false
set_option linter.unusedSimpArgs false
set_option linter.unusedSectionVars false
namespace Go.Proofs.YtaiepnaokhpmcaaGreat
open Go.E
set_option maxRecDepth 100000
set_option maxHeartbeats 4000000
def inv57(s:List Entry)(i:Int)(l:List Entry):Prop:=0≤i∧i≤s.length∧P8 s i.toNat=some l∧(l.length:Int)≤i
def At5(s:List Entry)(i:Int)(a l:List Entry):Prop:=a=s∧0≤i∧i≤s.length∧P8 s i.toNat=some l∧(l.length:Int)≤i
def dec25c(s:List Entry)(i:Int)(a l:List Entry):Nat:=(s.length-i).toNat
def C6(es:List Entry)(d:Dot):Entry×Bool:=match es.find? (fun e=>decide (e.dot=d))with | some e=>(e,true) | none=>(default,false)
def B06(es:List Entry)(d:Dot)(i r n a b:Int)(s:ByteArray)(q:Int):Prop:=0≤i∧i≤es.length∧r=d.rep∧n=d.num∧∀ j:Nat,(j:Int) < i→¬ es[j]!.dot=d
def dec28(es:List Entry)(i r n a b:Int)(s:ByteArray)(q:Int):Nat:=(es.length-i).toNat
theorem Ae2{es:List Entry}{i:Nat}(hi:i < es.length)(hb:¬ R8 es[i]! = 0)(hok:∀ j:Nat,j < i→R8 es[j]! = 0):U3 es=([],R8 es[i]!):=by
 have:=B7h hi hb hok
 unfold U3
 rw[this,if_neg hb]
theorem A2a{es:List Entry}(hok:∀ j:Nat,j < es.length→R8 es[j]! = 0):U3 es=A29 (A54 es):=by
 unfold U3
 rw[if_pos (Bi5 hok)]
theorem A2v{s l:List Entry}{i:Int}(h0:0≤i)(h:P8 s i.toNat=some l) :
  P8 s (i+1).toNat=if ¬(0 < i∧s[(i-1).toNat]!.dot=s[i.toNat]!.dot)then some (l++[s[i.toNat]!])else if s[(i-1).toNat]! = s[i.toNat]! then some l else none:=by
 have e:(i+1).toNat=i.toNat+1:=by omega
 have e2:(i-1).toNat=i.toNat-1:=by omega
 rw[e,P8,h,e2]
 have hc:(i.toNat=0∨s[i.toNat-1]!.dot≠s[i.toNat]!.dot)↔¬(0 < i∧s[i.toNat-1]!.dot=s[i.toNat]!.dot):=by
  constructor
  ·rintro(h | h) ⟨h1,h2⟩
   ·omega
   ·exact h h2
  ·intro h
   by_cases z:i.toNat=0
   ·exact .inl z
   ·exact .inr fun g=>h ⟨by omega,g⟩
 simp only [hc]
theorem B7i{s l:List Entry}{i:Int}(h0:0≤i)(h:P8 s i.toNat=some l)(hi:i < s.length)(hl:(l.length:Int)≤i)(hc:¬(0 < i∧s[(i-1).toNat]!.dot=s[i.toNat]!.dot)):inv57 s (i+1) (l++[s[i.toNat]!]) :=
 ⟨by omega,by omega,by rw[A2v h0 h,if_pos hc],by simp;omega⟩
theorem B3w{s l:List Entry}{i:Int}(h0:0≤i)(h:P8 s i.toNat=some l)(hi:i < s.length)(hl:(l.length:Int)≤i)(hc:0 < i∧s[(i-1).toNat]!.dot=s[i.toNat]!.dot)(he:¬ ¬ s[(i-1).toNat]! = s[i.toNat]!):inv57 s (i+1) l :=
 ⟨by omega,by omega,by rw[A2v h0 h,if_neg (fun k=>k hc),if_pos (Classical.not_not.1 he)],by omega⟩
theorem A72{s l:List Entry}{i:Int}(h0:0≤i)(h:P8 s i.toNat=some l)(hi:i < s.length)(hc:0 < i∧s[(i-1).toNat]!.dot=s[i.toNat]!.dot)(he:¬ s[(i-1).toNat]! = s[i.toNat]!):A29 s=([],10):=by
 have h1:P8 s (i+1).toNat=none:=by rw[A2v h0 h,if_neg (fun k=>k hc),if_neg he]
 have h2:=A71 h1 (s.length-(i+1).toNat)
 rw[show(i+1).toNat+(s.length-(i+1).toNat)=s.length by omega]at h2
 unfold A29
 rw[h2]
theorem At6{s l:List Entry}{i:Int}(h0:0≤i)(h:P8 s i.toNat=some l)(h1:i≤s.length)(hi:¬ i < s.length):A29 s=(l,0):=by
 unfold A29
 rw[show s.length=i.toNat by omega,h]
theorem A8q{es:List Entry}{d:Dot}:∀ {i:Nat},i < es.length→es[i]!.dot=d→(∀ j:Nat,j < i→¬ es[j]!.dot=d)→C6 es d=(es[i]!,true):=by
 induction es with
 | nil=>intro i hi;simp at hi
 | cons e es ih =>
  intro i hi hb hok
  cases i with
  | zero =>
   have hb':e.dot=d:=by simpa using hb
   unfold C6
   simp [List.find?_cons,hb']
  | succ i =>
   have h0:¬ e.dot=d:=by simpa using hok 0 (by omega)
   have:=ih (i:=i) (by simpa using hi) (by simpa using hb) (fun j hj=>by simpa using hok (j+1) (by omega))
   unfold C6 at this ⊢
   simpa [List.find?_cons,h0]using this
theorem A8r{es:List Entry}{d:Dot}(h:∀ j:Nat,j < es.length→¬ es[j]!.dot=d):C6 es d=(default,false):=by
 unfold C6
 have:es.find? (fun e=>decide (e.dot=d))=none:=by
  rw[List.find?_eq_none]
  intro x hx
  obtain⟨j,hj,rfl⟩:=List.mem_iff_getElem.1 hx
  have:=h j hj
  rw[getElem!_pos es j hj]at this
  simpa using this
 rw[this]
theorem con118(es:List Entry)(hl:es.length*40≤140737488355328):Con Tryz.prog 118 [.sl (es.map c45)] (.tup [.sl ((U3 es).1.map c45),.i .i64 (U3 es).2]) :=
 by
 have hL:(es.mergeSort fun x y=>!ltE y x).length=es.length:=by simp
 have hS:=A55 es
 refine lN 0 c45 (es) Tryz.func118 fun hl_0=>sC B1 [.tmp 2,.tmp 3] 62 Tryz.func118 ?_
 intro e0 cx
 refine sq<|rG cx [0] [] z0<|sn<|sq<|sq<|rG cx [0,11,12,13] [] (tL 1 c45 es z0)<|sn<|bL 0<|sL (X:=Int) (fun x=>⟨[(0,.sl (List.map c45 es)),(11,.sl (List.map c45 es)),(12,.i .i64 ((↑es.length:Int))),(13,.i .i64 (x))],[]⟩) (fun x ↦ dec30i es x) (fun x ↦ B3v es x) [0,11,12,13] [] ((0:Int)) (show B3v es (0:Int)from ?g0) ?_;rotate_left
 intro i0 h_1
 obtain⟨hh2,hh3,hh4⟩:0≤i0∧i0≤(↑es.length:Int)∧∀(j:Nat),(↑j:Int) < i0→R8 es[j]! =(0:Int):=h_1
 refine rE cx [0,11,12,13,14] [] (zB 0 (i0 <(↑es.length:Int))) (fun h5=>?_) fun h5=>?_
 refine sK<|sn<|sq<|bL 1<|sq<|rG cx [0,11,12,13,5] [5] (fA (0≤i0) (fG c45 es i0.toNat (fR 4 (fN 4 4 (oR 0 (c45 es[i0.toNat]!) z0)))))<|sn<|sq<|rG cx [0,11,12,13,6] [] (fT (At1 (es[i0.toNat]!)) (oA 1 (.i .i64 (R8 es[i0.toNat]!)) z0))<|sn<|sq<|rG cx [0,11,12,13,6,20] [] (tN 1 (R8 es[i0.toNat]!) (0:Int) z0)<|sn<|dC (¬R8 es[i0.toNat]! =(0:Int)) (fun h6=>?_) fun h6=>?_
 refine sq<|rG cx [2,3] [] z0<|sn<|rT<|bR<|nR<|nR<|bR<|nR<|qR (.tup [.nl,.i .i64 (R8 es[i0.toNat]!)]) (B8.tup (ZLe.cons (B8.nl' (show List.map c45 (U3 es).1=[]from ?g2)) (ZLe.cons (B8.eq (show AV.i .i64 (R8 es[i0.toNat]!)=AV.i .i64 (U3 es).2 from ?g1)) ZLe.nil)));rotate_left 2
 refine sK<|bN<|sn<|rG cx [0,11,12,13] [] (tW 0 (i0+1) z0)<|sn<|nX (i0+1) (show((↑es.length:Int)-(i0+1)).toNat <((↑es.length:Int)-i0).toNat from(by omega)) (show B3v es (i0+1)from ?g3);rotate_left
 refine eX 0<|nE<|nE<|bH<|sn<|sq<|rG cx [7] [24,7] (fT (con159 (es) (by(with_reducible assumption))) (oV 1 { val:=some (.own (45:Nat) (4:Nat)),rows:=some (List.map c45 es) } z0))<|sn<|sq<|rG cx [7] [24,7] (fR (AV.own (24) (0)) (fP (Y4 Tryz.prog (160:FuncId) (161:FuncId) (some (22:Nat)) true (45:Nat) (4:Nat) (List.map c45 es) (List.map c45 (es.mergeSort fun x y ↦ !ltE y x))) (io160 (es) (by omega)) (oV 3 { rows:=some (List.map c45 (es.mergeSort fun x y ↦ !ltE y x)) } z0)))<|sn<|sq<|rG cx [7,8] [24,7] z0<|sn<|sq<|sq<|rG cx [7,8,29,30,31] [24,7] (tL 1 c45 (es.mergeSort fun x y ↦ !ltE y x) z0)<|sn<|bL 2<|H8 8 1008 45 4 (σ':=⟨[(7,.ptr (7) (0) (0) (0)),(8,.own 1008 0),(29,.own 24 0),(30,.i .i64 ((↑(es.mergeSort fun x y ↦ !ltE y x).length:Int))),(31,.i .i64 ((0:Int)))],[(24,⟨0,45,.row 4 (List.map c45 (es.mergeSort fun x y ↦ !ltE y x))⟩),(7,⟨0,22,.var [.own 24 0]⟩),(1008,⟨0,45,.row 4 (List.map c45 [])⟩)]⟩) (by kernel_rfl)<|sL (X:=Int×List Entry×List Entry) (fun x=>⟨[(7,.ptr (7) (0) (0) (0)),(8,.own 1008 0),(29,.own 24 0),(30,.i .i64 ((↑(es.mergeSort fun x y ↦ !ltE y x).length:Int))),(31,.i .i64 (x.1))],[(24,⟨0,45,.row 4 (List.map c45 x.2.1)⟩),(7,⟨0,22,.var [.own 24 0]⟩),(1008,⟨0,45,.row 4 (List.map c45 x.2.2)⟩)]⟩) (fun x ↦ dec25c (A54 es) x.1 x.2.1 x.2.2) (fun x ↦ At5 (A54 es) x.1 x.2.1 x.2.2) [7,8,29,30,31] [24,7,1008] (((0:Int),es.mergeSort fun x y ↦ !ltE y x,[])) (show At5 (A54 es) (0:Int) (es.mergeSort fun x y ↦ !ltE y x) []from ?g4) ?_;rotate_left
 rintro⟨ii7,a8,l9⟩ h_10
 obtain⟨h11,h12,h13,h14,h15⟩:a8=A54 es∧0≤ii7∧ii7≤(↑(A54 es).length:Int)∧P8 (A54 es) ii7.toNat=some l9∧(↑l9.length:Int)≤ii7:=h_10
 refine rE cx [7,8,29,30,31,32] [24,7,1008] (zB 0 (ii7 <(↑(es.mergeSort fun x y ↦ !ltE y x).length:Int))) (fun h16=>?_) fun h16=>?_
 refine sK<|sn<|sq<|bL 3<|sq<|rG cx [7,8,29,30,31,10,9] [24,7,1008,10] (fA (0≤ii7) (fP (ii7.toNat <(List.map c45 a8).length) ?g5 (fR 4 (fP (E.rowAt { ver:=0,ty:=45,k:=BK.row (4) (List.map c45 a8):Blk } ii7.toNat (c45 a8[ii7.toNat]!)) ?g6 (fP (0+(4:Nat)≤(c45 a8[ii7.toNat]!).length) ?g7 (oR 2 (c45 a8[ii7.toNat]!) z0)))))) ?_;rotate_left 3
 refine sn<|sq<|sq<|B4 (σ':=⟨[(7,.ptr (7) (0) (0) (0)),(8,.own 1008 0),(29,.own 24 0),(30,.i .i64 ((↑(es.mergeSort fun x y ↦ !ltE y x).length:Int))),(31,.i .i64 (ii7)),(10,.ptr (10) (0) (0) (0)),(9,.i .i64 (ii7)),(48,.b (decide ((0:Int) < ii7∧a8[(ii7-1).toNat]!.dot=a8[ii7.toNat]!.dot)))],[(24,⟨0,45,.row 4 (List.map c45 a8)⟩),(7,⟨0,22,.var [.own 24 0]⟩),(1008,⟨0,45,.row 4 (List.map c45 l9)⟩),(10,⟨0,45,.var [.i .i64 (a8[ii7.toNat]!.dot.rep),.i .i64 (a8[ii7.toNat]!.dot.num),.s (a8[ii7.toNat]!.sku),.i .i64 (a8[ii7.toNat]!.qty)]⟩)]⟩) ?_ ?_
 refine A4 ((0:Int) < ii7) (fun h18=>?_) (fun h18=>?_)
 refine rA cx [7,8,29,30,31,10,9,48] [24,7,1008,10] (tT 1 (A6 h18) (tT 5 (B6 (by omega) ?g8:AV.i .i64 (IntKind.i64.wrap (ii7-1))=AV.i .i64 (ii7-1)) (fO (0≤ii7-1) (fP ((ii7-1).toNat <(List.map c45 a8).length) ?g9 (fR 4 (fP (E.rowAt { ver:=0,ty:=45,k:=BK.row (4) (List.map c45 a8):Blk } (ii7-1).toNat (c45 a8[(ii7-1).toNat]!)) ?g10 (fP (0+(2:Nat)≤(c45 a8[(ii7-1).toNat]!).length) ?g11 (fT (eq43 a8[(ii7-1).toNat]!.dot a8[ii7.toNat]!.dot) (tD 12 (decide (a8[(ii7-1).toNat]!.dot=a8[ii7.toNat]!.dot)) ((0:Int) < ii7∧a8[(ii7-1).toNat]!.dot=a8[ii7.toNat]!.dot) (by simp only [eq_true h18,tsl]) (oR 8 (c45 a8[(ii7-1).toNat]!) (oA 11 (.b (decide (a8[(ii7-1).toNat]!.dot=a8[ii7.toNat]!.dot))) z0))))))))))) ?_;rotate_left 4
 exact⟨rfl,by kernel_rfl⟩
 refine rA cx [7,8,29,30,31,10,9,48] [24,7,1008,10] (tT 1 (A3 h18) (tD 12 false ((0:Int) < ii7∧a8[(ii7-1).toNat]!.dot=a8[ii7.toNat]!.dot) (by simp only [eq_false h18,tsl]) z0)) ?_
 exact⟨rfl,by kernel_rfl⟩
 refine sn<|dC ((0:Int) < ii7∧a8[(ii7-1).toNat]!.dot=a8[ii7.toNat]!.dot) (fun h19=>?_) fun h19=>?_
 refine sq<|sq<|rA cx [7,8,29,30,31,55] [24,7,1008] (tT 2 (B6 (by omega) ?g12:AV.i .i64 (IntKind.i64.wrap (ii7-1))=AV.i .i64 (ii7-1)) (fO (0≤ii7-1) (fP ((ii7-1).toNat <(List.map c45 a8).length) ?g13 (fR 4 (fP (E.rowAt { ver:=0,ty:=45,k:=BK.row (4) (List.map c45 a8):Blk } (ii7-1).toNat (c45 a8[(ii7-1).toNat]!)) ?g14 (fP (0+(4:Nat)≤(c45 a8[(ii7-1).toNat]!).length) ?g15 (fT (V1 (Bn5 a8[(ii7-1).toNat]! a8[ii7.toNat]!)) (oR 4 (c45 a8[(ii7-1).toNat]!) (oA 6 (.b (decide ¬a8[(ii7-1).toNat]! = a8[ii7.toNat]!)) z0))))))))) ?_;rotate_left 4
 refine sn<|dC (¬a8[(ii7-1).toNat]! = a8[ii7.toNat]!) (fun h20=>?_) fun h20=>?_
 refine sq<|rG cx [2,3] [] z0<|sn<|rT<|nR<|nR<|bR<|nR<|nR<|bR<|nR<|qR (.tup [.nl,.i .i64 ((10:Int))]) (B8.tup (ZLe.cons (B8.nl' (show List.map c45 (U3 es).1=[]from ?g17)) (ZLe.cons (B8.eq (show AV.i .i64 10=AV.i .i64 (U3 es).2 from ?g16)) ZLe.nil)));rotate_left 2
 refine sK<|sn<|eX 3<|nE<|bH<|sn<|rG cx [7,8,29,30,31] [24,7,1008] (tT 0 (B6 (by omega) ?g18:AV.i .i64 (IntKind.i64.wrap (ii7+1))=AV.i .i64 (ii7+1)) z0) ?_;rotate_left
 refine sn<|nX ((ii7+1,a8,l9)) (show((↑(A54 es).length:Int)-(ii7+1)).toNat <((↑(A54 es).length:Int)-ii7).toNat from ?g19) (show At5 (A54 es) (ii7+1) a8 l9 from ?g20);rotate_left 2
 refine sK<|sn<|rG cx [7,8,29,30,31] [24,7,1008] (fR 45 (fR 4 (fR 4 (fX c45 [a8[ii7.toNat]!] 4 (fP ((List.map c45 l9).length+(List.map c45 [a8[ii7.toNat]!]).length≤maxLen) ?g21 (fP (((List.map c45 l9).length+(List.map c45 [a8[ii7.toNat]!]).length)*(40:Nat)≤(140737488355328:Nat)) ?g22 (fM c45 l9 [a8[ii7.toNat]!] (oV 3 { rows:=some (List.map c45 (l9++[a8[ii7.toNat]!])) } z0)))))))) ?_;rotate_left 2
 refine bN<|sn<|rG cx [7,8,29,30,31] [24,7,1008] (tT 0 (B6 (by omega) ?g23:AV.i .i64 (IntKind.i64.wrap (ii7+1))=AV.i .i64 (ii7+1)) z0) ?_;rotate_left
 refine sn<|nX ((ii7+1,a8,l9++[a8[ii7.toNat]!])) (show((↑(A54 es).length:Int)-(ii7+1)).toNat <((↑(A54 es).length:Int)-ii7).toNat from ?g24) (show At5 (A54 es) (ii7+1) a8 (l9++[a8[ii7.toNat]!])from ?g25);rotate_left 2
 refine eX 2<|nE<|nE<|bH<|sn<|sq<|rG cx [2,3] [1008] z0<|sn<|rT<|qR (.tup [.sl (List.map c45 l9),.i .i64 ((0:Int))]) (B8.tup (ZLe.cons (B8.eq (show AV.sl (List.map c45 l9)=AV.sl (List.map c45 (U3 es).1)from ?g27)) (ZLe.cons (B8.eq (show AV.i .i64 0=AV.i .i64 (U3 es).2 from ?g26)) ZLe.nil)));rotate_left 2
 rotate_left
 revert i0 hh2 hh3 hh4 h5 h6;rotate_left
 revert i0 hh2 hh3 hh4 h5 h6;rotate_left
 revert i0 hh2 hh3 hh4 h5 h6;rotate_left
 revert i0 hh2 hh3 hh4 h5;rotate_left
 revert i0 hh2 hh3 hh4 h5 ii7 a8 l9 h11 h12 h13 h14 h15 h16;rotate_left
 revert i0 hh2 hh3 hh4 h5 ii7 a8 l9 h11 h12 h13 h14 h15 h16;rotate_left
 revert i0 hh2 hh3 hh4 h5 ii7 a8 l9 h11 h12 h13 h14 h15 h16;rotate_left
 revert i0 hh2 hh3 hh4 h5 ii7 a8 l9 h11 h12 h13 h14 h15 h16 h18;rotate_left
 revert i0 hh2 hh3 hh4 h5 ii7 a8 l9 h11 h12 h13 h14 h15 h16 h18;rotate_left
 revert i0 hh2 hh3 hh4 h5 ii7 a8 l9 h11 h12 h13 h14 h15 h16 h18;rotate_left
 revert i0 hh2 hh3 hh4 h5 ii7 a8 l9 h11 h12 h13 h14 h15 h16 h18;rotate_left
 revert i0 hh2 hh3 hh4 h5 ii7 a8 l9 h11 h12 h13 h14 h15 h16 h19;rotate_left
 revert i0 hh2 hh3 hh4 h5 ii7 a8 l9 h11 h12 h13 h14 h15 h16 h19;rotate_left
 revert i0 hh2 hh3 hh4 h5 ii7 a8 l9 h11 h12 h13 h14 h15 h16 h19;rotate_left
 revert i0 hh2 hh3 hh4 h5 ii7 a8 l9 h11 h12 h13 h14 h15 h16 h19;rotate_left
 revert i0 hh2 hh3 hh4 h5 ii7 a8 l9 h11 h12 h13 h14 h15 h16 h19 h20;rotate_left
 revert i0 hh2 hh3 hh4 h5 ii7 a8 l9 h11 h12 h13 h14 h15 h16 h19 h20;rotate_left
 revert i0 hh2 hh3 hh4 h5 ii7 a8 l9 h11 h12 h13 h14 h15 h16 h19 h20;rotate_left
 revert i0 hh2 hh3 hh4 h5 ii7 a8 l9 h11 h12 h13 h14 h15 h16 h19 h20;rotate_left
 revert i0 hh2 hh3 hh4 h5 ii7 a8 l9 h11 h12 h13 h14 h15 h16 h19 h20;rotate_left
 revert i0 hh2 hh3 hh4 h5 ii7 a8 l9 h11 h12 h13 h14 h15 h16 h19;rotate_left
 revert i0 hh2 hh3 hh4 h5 ii7 a8 l9 h11 h12 h13 h14 h15 h16 h19;rotate_left
 revert i0 hh2 hh3 hh4 h5 ii7 a8 l9 h11 h12 h13 h14 h15 h16 h19;rotate_left
 revert i0 hh2 hh3 hh4 h5 ii7 a8 l9 h11 h12 h13 h14 h15 h16 h19;rotate_left
 revert i0 hh2 hh3 hh4 h5 ii7 a8 l9 h11 h12 h13 h14 h15 h16 h19;rotate_left
 revert i0 hh2 hh3 hh4 h5 ii7 a8 l9 h11 h12 h13 h14 h15 h16;rotate_left
 revert i0 hh2 hh3 hh4 h5 ii7 a8 l9 h11 h12 h13 h14 h15 h16;rotate_left
 case g1=>intro i h0 h1 h2 h3 h4;rw[Ae2 (by omega) h4 (fun j hj=>h2 j (by omega))]
 case g2=>intro i h0 h1 h2 h3 h4;rw[Ae2 (by omega) h4 (fun j hj=>h2 j (by omega))];rfl
 case g3 =>
  intro i h0 h1 h2 h3 h4
  refine⟨by omega,by omega,fun j hj=>?_⟩
  by_cases e:j=i.toNat
  ·rw[e];exact Classical.not_not.1 h4
  ·exact h2 j (by omega)
 case g4=>intro i h0 h1 h2 h3;exact⟨rfl,by omega,by omega,rfl,by simp⟩
 case g16=>intro i h0 h1 h2 h3 i7 a l k0 k1 k2 k3 k4 k5 k6 k7;subst k0;rw[A2a (fun j hj=>h2 j (by omega)),A72 k1 k3 (by omega) k6 k7]
 case g17=>intro i h0 h1 h2 h3 i7 a l k0 k1 k2 k3 k4 k5 k6 k7;subst k0;rw[A2a (fun j hj=>h2 j (by omega)),A72 k1 k3 (by omega) k6 k7];rfl
 case g20=>intro i h0 h1 h2 h3 i7 a l k0 k1 k2 k3 k4 k5 k6 k7;subst k0;exact⟨rfl,B3w k1 k3 (by omega) k4 k6 k7⟩
 case g25=>intro i h0 h1 h2 h3 i7 a l k0 k1 k2 k3 k4 k5 k6;subst k0;exact⟨rfl,B7i k1 k3 (by omega) k4 k6⟩
 case g26=>intro i h0 h1 h2 h3 i7 a l k0 k1 k2 k3 k4 k5;rw[A2a (fun j hj=>h2 j (by omega)),At6 k1 k3 k2 (by omega)]
 case g27=>intro i h0 h1 h2 h3 i7 a l k0 k1 k2 k3 k4 k5;rw[A2a (fun j hj=>h2 j (by omega)),At6 k1 k3 k2 (by omega)]
 all_goals intros
 all_goals (try subst_vars)
 all_goals first
  | omega
  | (simp only [List.length_map,List.length_append,List.length_cons,List.length_nil,Go.maxLen];omega)
  | exact F7 (by omega)
  | exact Nat.le_of_ble_eq_true rfl
  | exact⟨by omega,by omega,fun j hj=>by omega⟩
theorem con67(es:List Entry)(d:Dot):Con Tryz.prog 67 [.sl (es.map c45),.agg (c43 d)] (.tup [.agg (c45 (C6 es d).1),.b (C6 es d).2]) :=
 by
 refine lN 0 c45 (es) Tryz.func67 fun hl_0=>sC B1 [.cell 4 45,.tmp 5] 21 Tryz.func67 ?_
 intro e0 cx
 refine sq<|rG cx [0,3,4] [3,4] z0<|sn<|sq<|sq<|rG cx [3,4,8,9,10] [3,4] (tL 1 c45 es z0)<|sn<|bL 0<|sL (X:=Int×Int×Int×Int×Int×ByteArray×Int) (fun x=>⟨[(3,.ptr (3) (0) (0) (0)),(4,.ptr (4) (0) (0) (0)),(8,.sl (List.map c45 es)),(9,.i .i64 ((↑es.length:Int))),(10,.i .i64 (x.1))],[(3,⟨0,43,.var [.i .i64 (x.2.1),.i .i64 (x.2.2.1)]⟩),(4,⟨0,45,.var [.i .i64 (x.2.2.2.1),.i .i64 (x.2.2.2.2.1),.s (x.2.2.2.2.2.1),.i .i64 (x.2.2.2.2.2.2)]⟩)]⟩) (fun x ↦ dec28 es x.1 x.2.1 x.2.2.1 x.2.2.2.1 x.2.2.2.2.1 x.2.2.2.2.2.1 x.2.2.2.2.2.2) (fun x ↦ B06 es d x.1 x.2.1 x.2.2.1 x.2.2.2.1 x.2.2.2.2.1 x.2.2.2.2.2.1 x.2.2.2.2.2.2) [3,4,8,9,10] [3,4] (((0:Int),d.rep,d.num,(0:Int),(0:Int),{ data:=#[]:ByteArray },(0:Int))) (show B06 es d (0:Int) d.rep d.num (0:Int) (0:Int) { data:=#[]:ByteArray } (0:Int)from(by exact⟨by omega,by omega,rfl,rfl,fun j hj=>by omega⟩)) ?_
 rintro⟨i0,r1,n2,a3,b4,s5,q6⟩ h_7
 obtain⟨h8,h9,h10,h11,h12⟩:0≤i0∧i0≤(↑es.length:Int)∧r1=d.rep∧n2=d.num∧∀(j:Nat),(↑j:Int) < i0→¬es[j]!.dot=d:=h_7
 refine rE cx [3,4,8,9,10,11] [3,4] (zB 0 (i0 <(↑es.length:Int))) (fun h13=>?_) fun h13=>?_
 refine sK<|sn<|sq<|bL 1<|sq<|rG cx [3,4,8,9,10,7] [3,4,7] (fA (0≤i0) (fG c45 es i0.toNat (fR 4 (fN 4 4 (oR 0 (c45 es[i0.toNat]!) z0)))))<|sn<|sq<|rG cx [3,4,8,9,10,7,17] [3,4,7] (fT (eq43 es[i0.toNat]!.dot { rep:=r1,num:=n2:Dot }) (oA 3 (.b (decide (es[i0.toNat]!.dot={ rep:=r1,num:=n2:Dot }))) z0))<|sn<|dC (es[i0.toNat]!.dot={ rep:=r1,num:=n2:Dot }) (fun h14=>?_) fun h14=>?_
 refine sq<|rG cx [4,5] [4] z0<|sn<|rT<|bR<|nR<|nR<|bR<|nR<|qR (.tup [.agg [.i .i64 (es[i0.toNat]!.dot.rep),.i .i64 (es[i0.toNat]!.dot.num),.s (es[i0.toNat]!.sku),.i .i64 (es[i0.toNat]!.qty)],.b (true)]) (B8.tup (ZLe.cons (B8.eq (show AV.agg [AV.i .i64 es[i0.toNat]!.dot.rep,AV.i .i64 es[i0.toNat]!.dot.num,AV.s es[i0.toNat]!.sku,AV.i .i64 es[i0.toNat]!.qty]=AV.agg [AV.i .i64 (C6 es d).1.dot.rep,AV.i .i64 (C6 es d).1.dot.num,AV.s (C6 es d).1.sku,AV.i .i64 (C6 es d).1.qty]from(by exact(by subst h10 h11;rw[A8q (by omega) h14 (fun j hj=>h12 j (by omega))])))) (ZLe.cons (B8.eq (show AV.b true=AV.b (C6 es d).2 from(by exact(by subst h10 h11;rw[A8q (by omega) h14 (fun j hj=>h12 j (by omega))])))) ZLe.nil)))
 refine sK<|bN<|sn<|rG cx [3,4,8,9,10] [3,4] (tW 0 (i0+1) z0)<|sn<|nX ((i0+1,r1,n2,a3,b4,s5,q6)) (show((↑es.length:Int)-(i0+1)).toNat <((↑es.length:Int)-i0).toNat from(by omega)) (show B06 es d (i0+1) r1 n2 a3 b4 s5 q6 from ?g3);rotate_left
 refine eX 0<|nE<|nE<|bH<|sn<|sq<|rG cx [4,5] [4] z0<|sn<|rT<|qR (.tup [.agg [.i .i64 ((0:Int)),.i .i64 ((0:Int)),.s ({ data:=#[]:ByteArray }),.i .i64 ((0:Int))],.b (false)]) (B8.tup (ZLe.cons (B8.eq (show AV.agg [AV.i .i64 (0:Int),AV.i .i64 (0:Int),AV.s { data:=#[]:ByteArray },AV.i .i64 (0:Int)]=AV.agg [AV.i .i64 (C6 es d).1.dot.rep,AV.i .i64 (C6 es d).1.dot.num,AV.s (C6 es d).1.sku,AV.i .i64 (C6 es d).1.qty]from(by exact(by rw[A8r (fun j hj=>h12 j (by omega))];rfl)))) (ZLe.cons (B8.eq (show AV.b false=AV.b (C6 es d).2 from(by exact(by rw[A8r (fun j hj=>h12 j (by omega))])))) ZLe.nil)))
 case g3=>revert i0 r1 n2 a3 b4 s5 q6 h8 h9 h10 h11 h12 h13 h14;exact(fun i r n a b s q h0 h1 h2 h3 h4 h5 h6=>⟨by omega,by omega,h2,h3,fun j hj=>by
   subst h2 h3
   by_cases e:j=i.toNat
   ·rw[e];exact h6
   ·exact h4 j (by omega)⟩)
theorem con40(es:List Entry)(d:Dot):Con Tryz.prog 40 [.sl (es.map c45),.agg (c43 d)] (.tup [.agg (c45 (C6 es d).1),.b (C6 es d).2]) :=
 by
 refine lN 0 c45 (es) Tryz.func40 fun hl_0=>sC B1 [.cell 4 45,.tmp 5] 25 Tryz.func40 ?_
 intro e0 cx
 refine sq<|rG cx [0,3,4] [3,4] z0<|sn<|sq<|sq<|rG cx [0,3,4,6] [3,4] z0<|sn<|bL 0<|sL (X:=Int×Int×Int×Int×Int×ByteArray×Int) (fun x=>⟨[(0,.sl (List.map c45 es)),(3,.ptr (3) (0) (0) (0)),(4,.ptr (4) (0) (0) (0)),(6,.i .i64 (x.1))],[(3,⟨0,43,.var [.i .i64 (x.2.1),.i .i64 (x.2.2.1)]⟩),(4,⟨0,45,.var [.i .i64 (x.2.2.2.1),.i .i64 (x.2.2.2.2.1),.s (x.2.2.2.2.2.1),.i .i64 (x.2.2.2.2.2.2)]⟩)]⟩) (fun x ↦ dec28 es x.1 x.2.1 x.2.2.1 x.2.2.2.1 x.2.2.2.2.1 x.2.2.2.2.2.1 x.2.2.2.2.2.2) (fun x ↦ B06 es d x.1 x.2.1 x.2.2.1 x.2.2.2.1 x.2.2.2.2.1 x.2.2.2.2.2.1 x.2.2.2.2.2.2) [0,3,4,6] [3,4] (((0:Int),d.rep,d.num,(0:Int),(0:Int),{ data:=#[]:ByteArray },(0:Int))) (show B06 es d (0:Int) d.rep d.num (0:Int) (0:Int) { data:=#[]:ByteArray } (0:Int)from(by exact⟨by omega,by omega,rfl,rfl,fun j hj=>by omega⟩)) ?_
 rintro⟨i0,r1,n2,a3,b4,s5,q6⟩ h_7
 obtain⟨h8,h9,h10,h11,h12⟩:0≤i0∧i0≤(↑es.length:Int)∧r1=d.rep∧n2=d.num∧∀(j:Nat),(↑j:Int) < i0→¬es[j]!.dot=d:=h_7
 refine sq<|rD cx [0,3,4,6,10] [3,4] (tL 2 c45 es (zB 3 (i0 <(↑es.length:Int)))) (fun h13=>?_) fun h13=>?_
 refine sK<|sn<|sq<|bL 1<|sq<|rA cx [0,3,4,6,19] [3,4] (fA (0≤i0) (fG c45 es i0.toNat (fR 4 (fN 2 4 (fT (eq43 es[i0.toNat]!.dot { rep:=r1,num:=n2:Dot }) (oR 2 (c45 es[i0.toNat]!) (oA 6 (.b (decide (es[i0.toNat]!.dot={ rep:=r1,num:=n2:Dot }))) z0)))))))<|sn<|dC (es[i0.toNat]!.dot={ rep:=r1,num:=n2:Dot }) (fun h14=>?_) fun h14=>?_
 refine sq<|rG cx [4,5] [4] (fA (0≤i0) (fG c45 es i0.toNat (fR 4 (fN 4 4 (oR 2 (c45 es[i0.toNat]!) z0)))))<|sn<|rT<|bR<|nR<|nR<|bR<|nR<|qR (.tup [.agg [.i .i64 (es[i0.toNat]!.dot.rep),.i .i64 (es[i0.toNat]!.dot.num),.s (es[i0.toNat]!.sku),.i .i64 (es[i0.toNat]!.qty)],.b (true)]) (B8.tup (ZLe.cons (B8.eq (show AV.agg [AV.i .i64 es[i0.toNat]!.dot.rep,AV.i .i64 es[i0.toNat]!.dot.num,AV.s es[i0.toNat]!.sku,AV.i .i64 es[i0.toNat]!.qty]=AV.agg [AV.i .i64 (C6 es d).1.dot.rep,AV.i .i64 (C6 es d).1.dot.num,AV.s (C6 es d).1.sku,AV.i .i64 (C6 es d).1.qty]from(by exact(by subst h10 h11;rw[A8q (by omega) h14 (fun j hj=>h12 j (by omega))])))) (ZLe.cons (B8.eq (show AV.b true=AV.b (C6 es d).2 from(by exact(by subst h10 h11;rw[A8q (by omega) h14 (fun j hj=>h12 j (by omega))])))) ZLe.nil)))
 refine sK<|bN<|sn<|rG cx [0,3,4,6] [3,4] (tW 1 (i0+1) z0)<|sn<|nX ((i0+1,r1,n2,a3,b4,s5,q6)) (show((↑es.length:Int)-(i0+1)).toNat <((↑es.length:Int)-i0).toNat from(by omega)) (show B06 es d (i0+1) r1 n2 a3 b4 s5 q6 from ?g3);rotate_left
 refine eX 0<|nE<|nE<|bH<|sn<|sq<|rG cx [4,5] [4] z0<|sn<|rT<|qR (.tup [.agg [.i .i64 ((0:Int)),.i .i64 ((0:Int)),.s ({ data:=#[]:ByteArray }),.i .i64 ((0:Int))],.b (false)]) (B8.tup (ZLe.cons (B8.eq (show AV.agg [AV.i .i64 (0:Int),AV.i .i64 (0:Int),AV.s { data:=#[]:ByteArray },AV.i .i64 (0:Int)]=AV.agg [AV.i .i64 (C6 es d).1.dot.rep,AV.i .i64 (C6 es d).1.dot.num,AV.s (C6 es d).1.sku,AV.i .i64 (C6 es d).1.qty]from(by exact(by rw[A8r (fun j hj=>h12 j (by omega))];rfl)))) (ZLe.cons (B8.eq (show AV.b false=AV.b (C6 es d).2 from(by exact(by rw[A8r (fun j hj=>h12 j (by omega))])))) ZLe.nil)))
 case g3=>revert i0 r1 n2 a3 b4 s5 q6 h8 h9 h10 h11 h12 h13 h14;exact(fun i r n a b s q h0 h1 h2 h3 h4 h5 h6=>⟨by omega,by omega,h2,h3,fun j hj=>by
   subst h2 h3
   by_cases e:j=i.toNat
   ·rw[e];exact h6
   ·exact h4 j (by omega)⟩)
end Go.Proofs.YtaiepnaokhpmcaaGreat
namespace Go.Proofs.YtaiepnaokhpmcaaGreat
open Go.E
set_option maxRecDepth 100000
set_option maxHeartbeats 4000000
def bsN(l:List Record)(r:Record):Int:=(l.countP fun x=>decide (C3 x r < 0):Nat)
def bsF(l:List Record)(r:Record):Bool:=l.any fun x=>decide (C3 x r=0)
def isBs(l:List Record)(r:Record)(i j:Int):Prop:=(∀ k:Nat,(k:Int) < i→C3 l[k]! r < 0)∧∀ k:Nat,j≤k→k < l.length→¬ C3 l[k]! r < 0
def B7j(l:List Record)(r:Record)(i j:Int):Prop:=0≤i∧i≤j∧j≤l.length∧isBs l r i j
theorem Bi6{l:List Record}(h:upR l){i j:Nat}(hij:i < j)(hj:j < l.length):C3 l[i]! l[j]! < 0:=by
 have:=List.pairwise_iff_getElem.1 h i j (by omega) hj hij
 rwa [getElem!_pos l i (by omega),getElem!_pos l j hj]
theorem bs_lo{l:List Record}{r:Record}{i j h:Int}(hu:upR l)(h0:0≤i)(h1:i≤h)(h2:h < j)(h3:j≤l.length)(hc:C3 l[h.toNat]! r < 0)(hi:isBs l r i j):B7j l r (h+1) j:=by
 refine⟨by omega,by omega,h3,fun k hk=>?_,hi.2⟩
 by_cases e:k=h.toNat
 ·rw[e];exact hc
 ·exact Z7.lt (Bi6 hu (i:=k) (j:=h.toNat) (by omega) (by omega)) (by omega)
theorem bs_hi{l:List Record}{r:Record}{i j h:Int}(hu:upR l)(h0:0≤i)(h1:i≤h)(h2:h < j)(h3:j≤l.length)(hc:¬ C3 l[h.toNat]! r < 0)(hi:isBs l r i j):B7j l r i h:=by
 refine⟨h0,h1,by omega,hi.1,fun k hk hl=>?_⟩
 by_cases e:k=h.toNat
 ·rw[e];exact hc
 ·intro c
  exact hc (Z7.lt (Bi6 hu (i:=h.toNat) (j:=k) (by omega) hl) (by omega))
theorem bs_end{l:List Record}{r:Record}{i j:Int}(h0:0≤i)(hij:i≤j)(h:¬ i < j)(hj:j≤l.length)(hi:isBs l r i j):bsN l r=i:=by
 have e:l.countP (fun x=>decide (C3 x r < 0))=i.toNat:=by
  have h1:(l.take i.toNat).countP (fun x=>decide (C3 x r < 0))=i.toNat:=by
   have:(l.take i.toNat).length=i.toNat:=by rw[List.length_take];omega
   conv=>rhs;rw[← this]
   rw[List.countP_eq_length]
   intro x hx
   obtain⟨k,hk,rfl⟩:=List.mem_iff_getElem.1 hx
   rw[List.getElem_take]
   have hk':k < i.toNat:=by rw[this]at hk;exact hk
   have:=hi.1 k (by omega)
   rw[getElem!_pos l k (by omega)]at this
   simpa using this
  have h2:(l.drop i.toNat).countP (fun x=>decide (C3 x r < 0))=0:=by
   rw[List.countP_eq_zero]
   intro x hx
   obtain⟨k,hk,rfl⟩:=List.mem_iff_getElem.1 hx
   rw[List.length_drop]at hk
   rw[List.getElem_drop]
   have:=hi.2 (i.toNat+k) (by omega) (by omega)
   rw[getElem!_pos l _ (by omega)]at this
   simpa using this
  have:=List.countP_append (p:=fun x=>decide (C3 x r < 0)) (l₁:=l.take i.toNat) (l₂:=l.drop i.toNat)
  rw[List.take_append_drop]at this
  omega
 unfold bsN
 rw[e]
 omega
theorem B7k{l:List Record}{r:Record}{i j:Int}(hu:upR l)(h0:0≤i)(hij:i≤j)(h:¬ i < j)(hj:j≤l.length)(hi:isBs l r i j):bsF l r=decide (i < l.length∧C3 l[i.toNat]! r=0):=by
 rw[Bool.eq_iff_iff]
 unfold bsF
 rw[List.any_eq_true,decide_eq_true_iff]
 constructor
 ·rintro⟨x,hx,k⟩
  rw[decide_eq_true_iff]at k
  obtain⟨n,hn,rfl⟩:=List.mem_iff_getElem.1 hx
  have hn':i≤n:=Int.not_lt.1 fun c=>by
   have:=hi.1 n c
   rw[getElem!_pos l n hn]at this
   omega
  have he:n=i.toNat:=by
   apply Classical.byContradiction
   intro c
   have h1:=Bi6 hu (i:=i.toNat) (j:=n) (by omega) hn
   rw[getElem!_pos l n hn]at h1
   have h2:=hi.2 i.toNat (by omega) (by omega)
   exact h2 (Z7.lt h1 (by omega))
  subst he
  exact⟨by omega,by rw[getElem!_pos l _ hn];exact k⟩
 ·rintro⟨h1,h2⟩
  exact⟨l[i.toNat]!,D6 (by omega),by rw[decide_eq_true_iff];exact h2⟩
theorem B3x{l:List Record}{r:Record}(hl:∀ x∈l,x.past=A5 x.past)(hr:r.past=A5 r.past):bsF l r=decide (r∈l):=by
 rw[Bool.eq_iff_iff]
 unfold bsF
 rw[List.any_eq_true,decide_eq_true_iff]
 constructor
 ·rintro⟨x,hx,k⟩
  rw[decide_eq_true_iff]at k
  rw[← A8g (hl x hx) hr k]
  exact hx
 ·intro h
  exact⟨r,h,by rw[decide_eq_true_iff];exact Z7.self r⟩
noncomputable def B3y(es:List Entry)(e:Entry):Bool:=decide (C6 es e.dot=(e,true))
noncomputable def D2(a b:Facts):Facts:=⟨a.adds.filter fun e=>!B3y b.adds e,D5 a.gone b.gone,a.recs.filter fun r=>decide (¬ r∈b.recs)⟩
noncomputable def I9(f:Facts):Bool:=decide ((f.adds.length:Int)=0∧E3 f.gone=0∧(f.recs.length:Int)=0)
noncomputable def T0(a b:Facts):Bool:=okF a && okF b
noncomputable def I1(f:Facts):Int:=if okF f=true then 0 else 1
noncomputable def A8(a b:Facts):Bool×Int:=if T0 a b=true then(I9 (D2 a b),0)else(false,1)
noncomputable def E7(a b:Facts):Int×Int:=if T0 a b=true then((if I9 (D2 a b)=true∧I9 (D2 b a)=true then 0 else if I9 (D2 a b)=true then 1 else if I9 (D2 b a)=true then 2 else 3),0)else(0,1)
def zeroF:Facts:=⟨[],⟨[],[]⟩,[]⟩
noncomputable def D7(a b:Facts):Facts×Int:=if T0 a b=true then(D2 a b,0)else(zeroF,1)
theorem E6{f:Facts}:okF f=true↔E5 f.adds=0∧f.gone=A5 f.gone∧G9 f.recs=0:=by rw[B9v,decide_eq_true_iff]
theorem A2b{rs:List Record}(h:G9 rs=0):∀ r∈rs,r.past=A5 r.past:=fun r hr=>(A8h.1 (((P7 rs).1 h).1 r hr)).2.1
theorem rec_up{rs:List Record}(h:G9 rs=0):upR rs:=((P7 rs).1 h).2
theorem G0{a b:Facts}:T0 a b=true↔okF a=true∧okF b=true:=by unfold T0;rw[Bool.and_eq_true]
def Bn9(a b:Facts)(i:Int)(o:List Entry):Prop:=o=(a.adds.take i.toNat).filter fun e=>!B3y b.adds e
def Bo0(a b:Facts)(i:Int)(o:List Record):Prop:=o=(a.recs.take i.toNat).filter fun r=>decide (¬ r∈b.recs)
theorem A2c{α:Type}[Inhabited α]{p:α→Bool}{l o:List α}{i:Int}(h0:0≤i)(hi:i < l.length)(ho:o=(l.take i.toNat).filter p):(l.take (i+1).toNat).filter p=o++if p l[i.toNat]! = true then[l[i.toNat]!]else[]:=by
 rw[← D9 h0 hi,List.filter_append,ho]
 congr 1
 generalize l[i.toNat]! = x
 split
 ·rename_i h;simp [List.filter_cons,h]
 ·rename_i h;simp [List.filter_cons,h]
end Go.Proofs.YtaiepnaokhpmcaaGreat
namespace Go.Proofs.YtaiepnaokhpmcaaGreat
open Go.E
set_option maxRecDepth 100000
set_option maxHeartbeats 4000000
theorem Ae3{e:Entry}(h:R8 e=0):0≤e.dot.rep∧e.dot.rep < 16∧1≤e.dot.num∧e.dot.num≤1000000000:=by
 unfold R8 at h
 split at h
 ·cases h
 ·split at h
  ·cases h
  ·omega
theorem A0x{es:List Entry}(h:okL es=true){i:Nat}(hi:i < es.length):R8 es[i]! = 0∧(i=0∨dLt es[i-1]!.dot es[i]!.dot=true):=(X6 _ _).1 ((K2 _ _).1 h i hi)
theorem B3z{es:List Entry}(h:okL es=true):∀ i:Nat,i < es.length→(i:Int)+1≤es[i]!.dot.rep*1000000000+es[i]!.dot.num
 | 0,hi=>by have:=Ae3 (A0x h hi).1;omega
 | i+1,hi=>by
  have h1:=B3z h i (by omega)
  have h2:=Ae3 (A0x h hi).1
  have h3:=Ae3 (A0x h (show i < es.length by omega)).1
  have h4:=(A0x h hi).2
  rcases h4 with h4 | h4
  ·omega
  ·simp only [Nat.add_sub_cancel,dLt,decide_eq_true_eq]at h4
   omega
theorem R1{es:List Entry}(h:okL es=true):es.length≤16000000000:=by
 by_cases h0:es.length=0
 ·omega
 ·have h1:=B3z h (es.length-1) (by omega)
  have h2:=Ae3 (A0x h (show es.length-1 < es.length by omega)).1
  omega
theorem L8{es:List Entry}(h:E5 es=0):okL es=true:=by
 unfold E5 at h
 split at h
 ·assumption
 ·cases h
theorem At7{es:List Entry}(h:¬ E5 es=0):¬ okL es=true:=fun k=>h (by unfold E5;rw[if_pos k])
end Go.Proofs.YtaiepnaokhpmcaaGreat
namespace Go.Proofs.YtaiepnaokhpmcaaGreat
open Go.E
set_option maxRecDepth 100000
set_option maxHeartbeats 4000000
def szG(f:Facts):Prop:=szF f∧f.recs.length*64≤140737488351232
def B9w(a b:Facts)(x1:List Entry)(x2:List Int)(x3:List Span)(x4:List Record)(y1:List Entry)(y2:List Int)(y3:List Span)(y4:List Record):Prop:=x1=a.adds∧x2=a.gone.vec∧x3=a.gone.cloud∧x4=a.recs∧y1=b.adds∧y2=b.gone.vec∧y3=b.gone.cloud∧y4=b.recs
def B7l(a b:Facts)(i:Int)(x1:List Entry)(x2:List Int)(x3:List Span)(x4:List Record)(y1:List Entry)(y2:List Int)(y3:List Span)(y4:List Record)(o:List Entry):Prop :=
 B9w a b x1 x2 x3 x4 y1 y2 y3 y4∧0≤i∧i≤a.adds.length∧(o.length:Int)≤i∧Bn9 a b i o
def decTl(a:Facts)(i:Int)(x1:List Entry)(x2:List Int)(x3:List Span)(x4:List Record)(y1:List Entry)(y2:List Int)(y3:List Span)(y4:List Record)(o:List Entry):Nat:=(a.adds.length-i).toNat
def B7m(a b:Facts)(i:Int)(y1:List Entry)(y2:List Int)(y3:List Span)(y4:List Record)(gv:List Int)(gc:List Span)(o:List Entry)(q:List Record):Prop :=
 y4=b.recs∧gv=(D5 a.gone b.gone).vec∧gc=(D5 a.gone b.gone).cloud∧o=(D2 a b).adds∧0≤i∧i≤a.recs.length∧(q.length:Int)≤i∧Bo0 a b i q
def decTm(a:Facts)(i:Int)(y1:List Entry)(y2:List Int)(y3:List Span)(y4:List Record)(gv:List Int)(gc:List Span)(o:List Entry)(q:List Record):Nat:=(a.recs.length-i).toNat
def B7n(l:List Record)(r:Record)(i j:Int)(s:ByteArray)(v:List Int)(c:List Span):Prop:=s=r.sku∧v=r.past.vec∧c=r.past.cloud∧B7j l r i j
def decBu(l:List Record)(i j:Int)(s:ByteArray)(v:List Int)(c:List Span):Nat:=(j-i).toNat
theorem K6{f:Facts}:I1 f=0↔okF f=true:=by
 unfold I1
 by_cases h:okF f=true
 ·rw[if_pos h];exact⟨fun _=>h,fun _=>rfl⟩
 ·rw[if_neg h];exact⟨fun k=>by omega,fun k=>absurd k h⟩
theorem A56{x:Int}(h:0≤x):x.fdiv (2 ^ min (Int.toNat 1) IntKind.u64.bits)=x / 2:=by
 show x.fdiv 2=x / 2
 exact Int.fdiv_eq_ediv_of_nonneg x (by decide)
theorem A8s{a b:Facts}(ha:szF a):szF (D2 a b):=by
 refine⟨⟨?_,?_⟩,fun r hr=>?_⟩
 ·have:=(N5 fun r=>A89 (B5 [a.gone] r) (B5 [b.gone] r)).1
  have e:(D5 a.gone b.gone).cloud.length≤8000000000:=this
  show(D5 a.gone b.gone).cloud.length*16≤_
  omega
 ·have:=(N5 fun r=>A89 (B5 [a.gone] r) (B5 [b.gone] r)).2
  show(D5 a.gone b.gone).vec.length≤_
  have e:(D5 a.gone b.gone).vec.length≤16:=this
  omega
 ·have hr:r∈a.recs.filter fun r=>decide (¬ r∈b.recs):=hr
  exact ha.2 r (List.mem_filter.1 hr).1
theorem B40{es:List Entry}{e:Entry}:B3y es e=true↔¬(¬(C6 es e.dot).2=true∨¬(C6 es e.dot).1=e):=by
 unfold B3y
 rw[decide_eq_true_iff]
 constructor
 ·intro h
  rw[h]
  simp
 ·intro h
  have h1:(C6 es e.dot).2=true:=Classical.byContradiction fun k=>h (.inl k)
  have h2:(C6 es e.dot).1=e:=Classical.byContradiction fun k=>h (.inr k)
  exact Prod.ext h2 h1
theorem B07(f:Facts)(hb:szF f):Con Tryz.prog 39 [.agg (c29 f)] (.i .i64 (I1 f)) :=
 by
 have no:(¬E5 f.adds=0∨¬f.gone=A5 f.gone∨¬G9 f.recs=0)↔¬ okF f=true:=by
  rw[E6]
  constructor
  ·rintro(h | h | h) k
   ·exact h k.1
   ·exact h k.2.1
   ·exact h k.2.2
  ·intro h
   by_cases a:E5 f.adds=0
   ·by_cases b:f.gone=A5 f.gone
    ·exact .inr (.inr fun c=>h ⟨a,b,c⟩)
    ·exact .inr (.inl b)
   ·exact .inl a
 refine sC B1 [.tmp 2] 19 Tryz.func39 ?_
 intro e0 cx
 refine sq<|rG cx [1] [1] z0<|sn<|sq<|sq<|B4 (σ':=⟨[(18,.b (decide (¬E5 f.adds=0∨¬f.gone=A5 f.gone∨¬G9 f.recs=0)))],[]⟩) ?_ ?_
 refine A4 (¬E5 f.adds=0) (fun h1=>?_) (fun h1=>?_)
 refine rG cx [18] [] (fT (A4w (f.adds)) (tT 3 (C4 h1:AV.b (E5 f.adds !=0)=AV.b true) (tD 15 true (¬E5 f.adds=0∨¬f.gone=A5 f.gone∨¬G9 f.recs=0) (by simp only [eq_false h1,tsl]) (oA 2 (.i .i64 (E5 f.adds)) z0)))) ?_
 exact⟨rfl,by kernel_rfl⟩
 refine A4 (¬f.gone=A5 f.gone) (fun h2=>?_) (fun h2=>?_)
 refine rg (A:=_∧(AV.b (E5 f.adds !=0)=AV.b (decide ¬E5 f.adds=0))∧_∧_∧_∧(AV.b true=AV.b (decide (¬E5 f.adds=0∨¬f.gone=A5 f.gone∨¬G9 f.recs=0)))) cx [(2,{ val:=some (.i .i64 (E5 f.adds)) }),(3,{ tell:=some (.b (decide ¬E5 f.adds=0)) }),(4,{ tell:=some (.b (false)) }),(7,{ val:=some (.b (decide (f.gone=A5 f.gone))),tell:=some (.b (false)) }),(15,{ tell:=some (.b (decide (¬E5 f.adds=0∨¬f.gone=A5 f.gone∨¬G9 f.recs=0))) })] [18] [] ⟨(A4w (f.adds)),(N4),(A3 h1),(A3 h2),(B2f (f.gone) (by exact hb.1.1)),(by first | (simp only [eq_false h1,eq_false h2,tsl];done) | simp_all)⟩ ?_
 exact⟨rfl,by kernel_rfl⟩
 refine rG cx [18] [] (fT (A4w (f.adds)) (tN 3 (E5 f.adds) (0:Int) (tT 4 (A3 h1) (fT (B2f (f.gone) (by exact hb.1.1)) (tQ 8 (f.gone=A5 f.gone) (tT 9 (A3 h2) (fT (Az7 (f.recs) (by exact Ad8 hb.2)) (tN 14 (G9 f.recs) (0:Int) (tT 15 (by first | (simp only [eq_false h1,eq_false h2,tsl];done) | simp_all:AV.b (decide ¬G9 f.recs=0)=AV.b (decide (¬E5 f.adds=0∨¬f.gone=A5 f.gone∨¬G9 f.recs=0))) (oA 2 (.i .i64 (E5 f.adds)) (oA 7 (.b (decide (f.gone=A5 f.gone))) (oA 13 (.i .i64 (G9 f.recs)) z0)))))))))))) ?_
 exact⟨rfl,by kernel_rfl⟩
 refine sn<|dC (¬E5 f.adds=0∨¬f.gone=A5 f.gone∨¬G9 f.recs=0) (fun h3=>?_) fun h3=>?_
 refine sq<|rG cx [2] [] z0<|sn<|rT<|nR<|qR (.i .i64 ((1:Int))) (.eq (by unfold I1;rw[if_neg (no.1 h3)]))
 refine sK<|sn<|sq<|rG cx [2] [] z0<|sn<|rT<|qR (.i .i64 ((0:Int))) (.eq (by unfold I1;rw[if_pos (Classical.not_not.1 fun k=>h3 (no.2 k))]))
theorem B7o(a b:Facts)(ha:szF a)(hb:szF b):Con Tryz.prog 56 [.agg (c29 a),.agg (c29 b)] (.b (T0 a b)) :=
 by
 refine sC B1 [.tmp 4] 13 Tryz.func56 ?_
 intro e0 cx
 refine sq<|rG cx [2,3] [2,3] z0<|sn<|sq<|B4 (σ':=⟨[(4,.b (decide (I1 a=0∧I1 b=0)))],[]⟩) ?_ ?_
 refine A4 (I1 a=0) (fun h_1=>?_) (fun h_1=>?_)
 refine rG cx [4] [] (fT (B07 (a) (by(with_reducible assumption))) (tT 2 (A6 h_1) (fT (B07 (b) (by(with_reducible assumption))) (tB 6 (I1 b=0) (tD 8 (decide (I1 b=0)) (I1 a=0∧I1 b=0) (by simp only [eq_true h_1,tsl]) (oA 1 (.i .i64 (I1 a)) (oA 5 (.i .i64 (I1 b)) z0))))))) ?_
 exact⟨rfl,by kernel_rfl⟩
 refine rG cx [4] [] (fT (B07 (a) (by(with_reducible assumption))) (tT 2 (A3 h_1) (tD 8 false (I1 a=0∧I1 b=0) (by simp only [eq_false h_1,tsl]) (oA 1 (.i .i64 (I1 a)) z0)))) ?_
 exact⟨rfl,by kernel_rfl⟩
 refine sn<|rT<|qR (.b (decide (I1 a=0∧I1 b=0))) (.eq ?g0);rotate_left
 case g0 =>
  refine congrArg AV.b ?_
  rw[Bool.eq_iff_iff,decide_eq_true_iff,K6,K6,G0]
theorem con105(l:List Record)(r:Record)(hu:upR l)(hl:Az6 l)(hr:szR r)(hn:l.length≤4611686018427387904):Con Tryz.prog 105 [.sl (l.map c81),.agg (c81 r),.fn (.func 106) [] []] (.tup [.i .i64 (bsN l r),.b (bsF l r)]) :=
 by
 refine lN 0 c81 (l) Tryz.func105 fun hl_0=>sC B1 [.tmp 6,.tmp 7] 49 Tryz.func105 ?_
 intro e0 cx
 refine sq<|rG cx [0,2,4] [4] z0<|sn<|sq<|rG cx [0,2,4,8] [4] (tL 1 c81 l z0)<|sn<|sq<|rG cx [0,2,4,8,9,10] [4] z0<|sn<|sq<|bL 0<|sL (X:=Int×Int×ByteArray×List Int×List Span) (fun x=>⟨[(0,.sl (List.map c81 l)),(2,.fn (Fn.func (106:FuncId)) [] []),(4,.ptr (4) (0) (0) (0)),(8,.i .i64 ((↑l.length:Int))),(9,.i .i64 (x.1)),(10,.i .i64 (x.2.1))],[(4,⟨0,81,.var [.s (x.2.2.1),.sl (List.map c3 x.2.2.2.1),.sl (List.map B7 x.2.2.2.2)]⟩)]⟩) (fun x ↦ decBu l x.1 x.2.1 x.2.2.1 x.2.2.2.1 x.2.2.2.2) (fun x ↦ B7n l r x.1 x.2.1 x.2.2.1 x.2.2.2.1 x.2.2.2.2) [0,2,4,8,9,10] [4] (((0:Int),(↑l.length:Int),r.sku,r.past.vec,r.past.cloud)) (show B7n l r (0:Int) (↑l.length:Int) r.sku r.past.vec r.past.cloud from ?g0) ?_;rotate_left
 rintro⟨i0,j1,s2,v3,c4⟩ h_5
 obtain⟨h6,h7,h8,h9⟩:s2=r.sku∧v3=r.past.vec∧c4=r.past.cloud∧B7j l r i0 j1:=h_5
 refine sq<|rD cx [0,2,4,8,9,10,17] [4] (zB 2 (i0 < j1)) (fun h10=>?_) fun h10=>?_
 refine sK<|sn<|bL 1<|sq<|rg (A:=(AV.i .i64 (IntKind.i64.wrap (i0+j1))=AV.i .i64 (i0+j1))∧(AV.i IntKind.u64 (IntKind.u64.wrap (i0+j1))=AV.i IntKind.u64 (i0+j1))∧(AV.i .i64 (IntKind.i64.wrap ((i0+j1).fdiv ((2:Int) ^ min (Int.toNat (1:Int)) IntKind.u64.bits)))=AV.i .i64 ((i0+j1).fdiv ((2:Int) ^ min (Int.toNat (1:Int)) IntKind.u64.bits)))) cx [(2,{ tell:=some (.i .i64 (i0+j1)) }),(3,{ tell:=some (.i .u64 (i0+j1)) }),(5,{ tell:=some (.i .i64 ((i0+j1).fdiv ((2:Int) ^ min (Int.toNat (1:Int)) IntKind.u64.bits))) })] [0,2,4,8,9,10,11] [4] ⟨(B6 ?g1 ?g2),(B5x ?g3 ?g4),(B6 ?g5 ?g6)⟩ ?_;rotate_left 6
 refine sn<|sq<|rA cx [0,2,4,8,9,10,11,31] [4] (fP (0≤(i0+j1).fdiv ((2:Int) ^ min (Int.toNat (1:Int)) IntKind.u64.bits)) ?g7 (fP ((List.map c81 l)[((i0+j1).fdiv ((2:Int) ^ min (Int.toNat (1:Int)) IntKind.u64.bits)).toNat]?=some (c81 l[((i0+j1).fdiv ((2:Int) ^ min (Int.toNat (1:Int)) IntKind.u64.bits)).toNat]!)) ?g8 (fR 3 (fN 3 3 (fT (Ac7 (l[((i0+j1).fdiv ((2:Int) ^ min (Int.toNat (1:Int)) IntKind.u64.bits)).toNat]!) ({ sku:=s2,past:={ vec:=v3,cloud:=c4:Past }:Record }) ?g9 ?g10) (tB 7 (C3 l[((i0+j1).fdiv ((2:Int) ^ min (Int.toNat (1:Int)) IntKind.u64.bits)).toNat]! { sku:=s2,past:={ vec:=v3,cloud:=c4:Past }:Record } <(0:Int)) (oR 3 (c81 l[((i0+j1).fdiv ((2:Int) ^ min (Int.toNat (1:Int)) IntKind.u64.bits)).toNat]!) (oA 6 (.i .i64 (C3 l[((i0+j1).fdiv ((2:Int) ^ min (Int.toNat (1:Int)) IntKind.u64.bits)).toNat]! { sku:=s2,past:={ vec:=v3,cloud:=c4:Past }:Record })) z0)))))))) ?_;rotate_left 4
 refine sn<|dC (C3 l[((i0+j1).fdiv ((2:Int) ^ min (Int.toNat (1:Int)) IntKind.u64.bits)).toNat]! { sku:=s2,past:={ vec:=v3,cloud:=c4:Past }:Record } <(0:Int)) (fun h11=>?_) fun h11=>?_
 refine rG cx [0,2,4,8,9,10] [4] (tT 1 (B6 ?g11 ?g12:AV.i .i64 (IntKind.i64.wrap ((i0+j1).fdiv ((2:Int) ^ min (Int.toNat (1:Int)) IntKind.u64.bits)+1))=AV.i .i64 ((i0+j1).fdiv ((2:Int) ^ min (Int.toNat (1:Int)) IntKind.u64.bits)+1)) z0) ?_;rotate_left 2
 refine bN<|sn<|nX (((i0+j1).fdiv ((2:Int) ^ min (Int.toNat (1:Int)) IntKind.u64.bits)+1,j1,s2,v3,c4)) (show(j1-((i0+j1).fdiv ((2:Int) ^ min (Int.toNat (1:Int)) IntKind.u64.bits)+1)).toNat <(j1-i0).toNat from ?g13) (show B7n l r ((i0+j1).fdiv ((2:Int) ^ min (Int.toNat (1:Int)) IntKind.u64.bits)+1) j1 s2 v3 c4 from ?g14);rotate_left 2
 refine rG cx [0,2,4,8,9,10] [4] z0<|bN<|sn<|nX ((i0,(i0+j1).fdiv ((2:Int) ^ min (Int.toNat (1:Int)) IntKind.u64.bits),s2,v3,c4)) (show((i0+j1).fdiv ((2:Int) ^ min (Int.toNat (1:Int)) IntKind.u64.bits)-i0).toNat <(j1-i0).toNat from ?g15) (show B7n l r i0 ((i0+j1).fdiv ((2:Int) ^ min (Int.toNat (1:Int)) IntKind.u64.bits)) s2 v3 c4 from ?g16);rotate_left 2
 refine eX 0<|nE<|nE<|bH<|sn<|sq<|B4 (σ':=⟨[(6,.i .i64 (i0)),(7,.b (decide (i0 <(↑l.length:Int)∧C3 l[i0.toNat]! { sku:=s2,past:={ vec:=v3,cloud:=c4:Past }:Record }=(0:Int))))],[]⟩) ?_ ?_
 refine A4 (i0 <(↑l.length:Int)) (fun h13=>?_) (fun h13=>?_)
 refine rA cx [6,7] [] (tT 3 (A6 h13) (fP (0≤i0) ?g17 (fP ((List.map c81 l)[i0.toNat]?=some (c81 l[i0.toNat]!)) ?g18 (fR 3 (fN 3 3 (fT (Ac7 (l[i0.toNat]!) ({ sku:=s2,past:={ vec:=v3,cloud:=c4:Past }:Record }) ?g19 ?g20) (tB 12 (C3 l[i0.toNat]! { sku:=s2,past:={ vec:=v3,cloud:=c4:Past }:Record }=(0:Int)) (tD 15 (decide (C3 l[i0.toNat]! { sku:=s2,past:={ vec:=v3,cloud:=c4:Past }:Record }=(0:Int))) (i0 <(↑l.length:Int)∧C3 l[i0.toNat]! { sku:=s2,past:={ vec:=v3,cloud:=c4:Past }:Record }=(0:Int)) (by simp only [eq_true h13,tsl]) (oR 8 (c81 l[i0.toNat]!) (oA 11 (.i .i64 (C3 l[i0.toNat]! { sku:=s2,past:={ vec:=v3,cloud:=c4:Past }:Record })) z0)))))))))) ?_;rotate_left 4
 exact⟨rfl,by kernel_rfl⟩
 refine rA cx [6,7] [] (tT 3 (A3 h13) (tD 15 false (i0 <(↑l.length:Int)∧C3 l[i0.toNat]! { sku:=s2,past:={ vec:=v3,cloud:=c4:Past }:Record }=(0:Int)) (by simp only [eq_false h13,tsl]) z0)) ?_
 exact⟨rfl,by kernel_rfl⟩
 refine sn<|rT<|qR (.tup [.i .i64 (i0),.b (decide (i0 <(↑l.length:Int)∧C3 l[i0.toNat]! { sku:=s2,past:={ vec:=v3,cloud:=c4:Past }:Record }=(0:Int)))]) (B8.tup (ZLe.cons (B8.eq (show AV.i .i64 i0=AV.i .i64 (bsN l r)from ?g22)) (ZLe.cons (B8.eq (show AV.b (decide (i0 <(↑l.length:Int)∧C3 l[i0.toNat]! { sku:=s2,past:={ vec:=v3,cloud:=c4:Past }:Record }=(0:Int)))=AV.b (bsF l r)from ?g21)) ZLe.nil)));rotate_left 2
 rotate_left
 revert i0 j1 s2 v3 c4 h6 h7 h8 h9 h10;rotate_left
 revert i0 j1 s2 v3 c4 h6 h7 h8 h9 h10;rotate_left
 revert i0 j1 s2 v3 c4 h6 h7 h8 h9 h10;rotate_left
 revert i0 j1 s2 v3 c4 h6 h7 h8 h9 h10;rotate_left
 revert i0 j1 s2 v3 c4 h6 h7 h8 h9 h10;rotate_left
 revert i0 j1 s2 v3 c4 h6 h7 h8 h9 h10;rotate_left
 revert i0 j1 s2 v3 c4 h6 h7 h8 h9 h10;rotate_left
 revert i0 j1 s2 v3 c4 h6 h7 h8 h9 h10;rotate_left
 revert i0 j1 s2 v3 c4 h6 h7 h8 h9 h10;rotate_left
 revert i0 j1 s2 v3 c4 h6 h7 h8 h9 h10;rotate_left
 revert i0 j1 s2 v3 c4 h6 h7 h8 h9 h10 h11;rotate_left
 revert i0 j1 s2 v3 c4 h6 h7 h8 h9 h10 h11;rotate_left
 revert i0 j1 s2 v3 c4 h6 h7 h8 h9 h10 h11;rotate_left
 revert i0 j1 s2 v3 c4 h6 h7 h8 h9 h10 h11;rotate_left
 revert i0 j1 s2 v3 c4 h6 h7 h8 h9 h10 h11;rotate_left
 revert i0 j1 s2 v3 c4 h6 h7 h8 h9 h10 h11;rotate_left
 revert i0 j1 s2 v3 c4 h6 h7 h8 h9 h10 h13;rotate_left
 revert i0 j1 s2 v3 c4 h6 h7 h8 h9 h10 h13;rotate_left
 revert i0 j1 s2 v3 c4 h6 h7 h8 h9 h10 h13;rotate_left
 revert i0 j1 s2 v3 c4 h6 h7 h8 h9 h10 h13;rotate_left
 revert i0 j1 s2 v3 c4 h6 h7 h8 h9 h10;rotate_left
 revert i0 j1 s2 v3 c4 h6 h7 h8 h9 h10;rotate_left
 case g0=>exact⟨rfl,rfl,rfl,by omega,by omega,by omega,fun k hk=>by omega,fun k h1 h2=>by omega⟩
 case g8=>intro i j s v c e1 e2 e3 k m;obtain⟨k0,k1,k2,k3⟩:=k;rw[A56 (by omega)];exact F7 (by omega)
 case g9=>intro i j s v c e1 e2 e3 k m;obtain⟨k0,k1,k2,k3⟩:=k;rw[A56 (by omega)];exact Q9 hl (by omega) (by omega)
 case g10=>intro i j s v c e1 e2 e3 k m;subst e1 e2 e3;exact hr
 case g14 =>
  intro i j s v c e1 e2 e3 k m n
  obtain⟨k0,k1,k2,k3⟩:=k
  rw[A56 (by omega)]at n ⊢
  subst e1 e2 e3
  exact⟨rfl,rfl,rfl,bs_lo hu k0 (by omega) (by omega) k2 n k3⟩
 case g16 =>
  intro i j s v c e1 e2 e3 k m n
  obtain⟨k0,k1,k2,k3⟩:=k
  rw[A56 (by omega)]at n ⊢
  subst e1 e2 e3
  exact⟨rfl,rfl,rfl,bs_hi hu k0 (by omega) (by omega) k2 n k3⟩
 case g17=>intro i j s v c e1 e2 e3 k m n;exact k.1
 case g18=>intro i j s v c e1 e2 e3 k m n;exact F7 (by have:=k.1;omega)
 case g19=>intro i j s v c e1 e2 e3 k m n;exact Q9 hl k.1 n
 case g20=>intro i j s v c e1 e2 e3 k m n;subst e1 e2 e3;exact hr
 case g21=>intro i j s v c e1 e2 e3 k m;subst e1 e2 e3;obtain⟨k0,k1,k2,k3⟩:=k;rw[B7k hu k0 k1 m k2 k3]
 case g22=>intro i j s v c e1 e2 e3 k m;obtain⟨k0,k1,k2,k3⟩:=k;rw[bs_end k0 k1 m k2 k3]
 all_goals (intro i j s v c e1 e2 e3 k m;obtain⟨k0,k1,k2,k3⟩:=k;(try rw[A56 (by omega)]);(first | omega | (intro n;omega)))
theorem B7p(a b:Facts)(ha:szG a)(hb:szG b)(h1:okF a=true)(h2:okF b=true):Con Tryz.prog 58 [.agg (c29 a),.agg (c29 b)] (.agg (c29 (D2 a b))) :=
 by
 obtain⟨f1,f2,f3⟩:=E6.1 h1
 obtain⟨g1,g2,g3⟩:=E6.1 h2
 have hlen:a.adds.length≤16000000000:=R1 (L8 f1)
 have hrl:=ha.2
 have hrb:=hb.2
 refine sC B1 [.cell 4 29] 78 Tryz.func58 ?_
 intro e0 cx
 refine sq<|rG cx [2,3,4] [2,3,4] z0<|sn<|sq<|rG cx [2,3,4,5] [2,3,4,5] z0<|sn<|sq<|sq<|rG cx [2,3,4,5,15,16,17] [2,3,4,5] (tL 2 c45 a.adds z0)<|sn<|bL 0<|A08 5 45 4 0 5500 (σ':=⟨[(2,.ptr (2) (0) (0) (0)),(3,.ptr (3) (0) (0) (0)),(4,.ptr (4) (0) (0) (0)),(5,.ptr (5) (0) (0) (0)),(15,.sl (List.map c45 a.adds)),(16,.i .i64 ((↑a.adds.length:Int))),(17,.i .i64 ((0:Int)))],[(2,⟨0,29,.var [.sl (List.map c45 a.adds),.sl (List.map c3 a.gone.vec),.sl (List.map B7 a.gone.cloud),.sl (List.map c81 a.recs)]⟩),(3,⟨0,29,.var [.sl (List.map c45 b.adds),.sl (List.map c3 b.gone.vec),.sl (List.map B7 b.gone.cloud),.sl (List.map c81 b.recs)]⟩),(4,⟨0,29,.var [.nl,.nl,.nl,.nl]⟩),(5,⟨0,29,.var [.own 5500 0,.nl,.nl,.nl]⟩),(5500,⟨0,45,.row 4 (List.map c45 [])⟩)]⟩) (by kernel_rfl)<|sL (X:=Int×List Entry×List Int×List Span×List Record×List Entry×List Int×List Span×List Record×List Entry) (fun x=>⟨[(2,.ptr (2) (0) (0) (0)),(3,.ptr (3) (0) (0) (0)),(4,.ptr (4) (0) (0) (0)),(5,.ptr (5) (0) (0) (0)),(15,.sl (List.map c45 a.adds)),(16,.i .i64 ((↑a.adds.length:Int))),(17,.i .i64 (x.1))],[(2,⟨0,29,.var [.sl (List.map c45 x.2.1),.sl (List.map c3 x.2.2.1),.sl (List.map B7 x.2.2.2.1),.sl (List.map c81 x.2.2.2.2.1)]⟩),(3,⟨0,29,.var [.sl (List.map c45 x.2.2.2.2.2.1),.sl (List.map c3 x.2.2.2.2.2.2.1),.sl (List.map B7 x.2.2.2.2.2.2.2.1),.sl (List.map c81 x.2.2.2.2.2.2.2.2.1)]⟩),(4,⟨0,29,.var [.nl,.nl,.nl,.nl]⟩),(5,⟨0,29,.var [.own 5500 0,.nl,.nl,.nl]⟩),(5500,⟨0,45,.row 4 (List.map c45 x.2.2.2.2.2.2.2.2.2)⟩)]⟩) (fun x ↦ decTl a x.1 x.2.1 x.2.2.1 x.2.2.2.1 x.2.2.2.2.1 x.2.2.2.2.2.1 x.2.2.2.2.2.2.1 x.2.2.2.2.2.2.2.1 x.2.2.2.2.2.2.2.2.1 x.2.2.2.2.2.2.2.2.2) (fun x ↦ B7l a b x.1 x.2.1 x.2.2.1 x.2.2.2.1 x.2.2.2.2.1 x.2.2.2.2.2.1 x.2.2.2.2.2.2.1 x.2.2.2.2.2.2.2.1 x.2.2.2.2.2.2.2.2.1 x.2.2.2.2.2.2.2.2.2) [2,3,4,5,15,16,17] [2,3,4,5,5500] (((0:Int),a.adds,a.gone.vec,a.gone.cloud,a.recs,b.adds,b.gone.vec,b.gone.cloud,b.recs,[])) (show B7l a b (0:Int) a.adds a.gone.vec a.gone.cloud a.recs b.adds b.gone.vec b.gone.cloud b.recs []from(by exact⟨⟨rfl,rfl,rfl,rfl,rfl,rfl,rfl,rfl⟩,by omega,by omega,by simp,by simp [Bn9]⟩)) ?_
 rintro⟨i0,xx1,xx2,xx3,xx4,y5,y6,y7,y8,o9⟩ h_10
 obtain⟨h11,h12,h13,h14,h15⟩:B9w a b xx1 xx2 xx3 xx4 y5 y6 y7 y8∧0≤i0∧i0≤(↑a.adds.length:Int)∧(↑o9.length:Int)≤i0∧Bn9 a b i0 o9:=h_10
 refine rE cx [2,3,4,5,15,16,17,18] [2,3,4,5,5500] (zB 0 (i0 <(↑a.adds.length:Int))) (fun h16=>?_) fun h16=>?_
 refine sK<|sn<|sq<|bL 1<|sq<|rG cx [2,3,4,5,15,16,17,7] [2,3,4,5,5500,7] (fA (0≤i0) (fG c45 a.adds i0.toNat (fR 4 (fN 4 4 (oR 0 (c45 a.adds[i0.toNat]!) z0)))))<|sn<|sq<|rG cx [2,3,4,5,15,16,17,7,8,9] [2,3,4,5,5500,7,8] (fT (con67 (y5) (a.adds[i0.toNat]!.dot)) (oA 4 (.tup [.agg [.i .i64 ((C6 y5 a.adds[i0.toNat]!.dot).1.dot.rep),.i .i64 ((C6 y5 a.adds[i0.toNat]!.dot).1.dot.num),.s ((C6 y5 a.adds[i0.toNat]!.dot).1.sku),.i .i64 ((C6 y5 a.adds[i0.toNat]!.dot).1.qty)],.b ((C6 y5 a.adds[i0.toNat]!.dot).2)]) z0))<|sn<|sq<|B4 (σ':=⟨[(2,.ptr (2) (0) (0) (0)),(3,.ptr (3) (0) (0) (0)),(4,.ptr (4) (0) (0) (0)),(5,.ptr (5) (0) (0) (0)),(15,.sl (List.map c45 a.adds)),(16,.i .i64 ((↑a.adds.length:Int))),(17,.i .i64 (i0)),(7,.ptr (7) (0) (0) (0)),(35,.b (decide (¬(C6 y5 a.adds[i0.toNat]!.dot).2=true∨¬(C6 y5 a.adds[i0.toNat]!.dot).1=a.adds[i0.toNat]!)))],[(2,⟨0,29,.var [.sl (List.map c45 xx1),.sl (List.map c3 xx2),.sl (List.map B7 xx3),.sl (List.map c81 xx4)]⟩),(3,⟨0,29,.var [.sl (List.map c45 y5),.sl (List.map c3 y6),.sl (List.map B7 y7),.sl (List.map c81 y8)]⟩),(4,⟨0,29,.var [.nl,.nl,.nl,.nl]⟩),(5,⟨0,29,.var [.own 5500 0,.nl,.nl,.nl]⟩),(5500,⟨0,45,.row 4 (List.map c45 o9)⟩),(7,⟨0,45,.var [.i .i64 (a.adds[i0.toNat]!.dot.rep),.i .i64 (a.adds[i0.toNat]!.dot.num),.s (a.adds[i0.toNat]!.sku),.i .i64 (a.adds[i0.toNat]!.qty)]⟩)]⟩) ?_ ?_
 refine A4 (¬(C6 y5 a.adds[i0.toNat]!.dot).2=true) (fun h_18=>?_) (fun h_18=>?_)
 refine rG cx [2,3,4,5,15,16,17,7,35] [2,3,4,5,5500,7] (tT 0 (F4 h_18:AV.b (C6 y5 a.adds[i0.toNat]!.dot).2=AV.b false) (tD 6 true (¬(C6 y5 a.adds[i0.toNat]!.dot).2=true∨¬(C6 y5 a.adds[i0.toNat]!.dot).1=a.adds[i0.toNat]!) (by simp only [eq_false h_18,tsl]) z0)) ?_
 exact⟨rfl,by kernel_rfl⟩
 refine rG cx [2,3,4,5,15,16,17,7,35] [2,3,4,5,5500,7] (tO 1 ((C6 y5 a.adds[i0.toNat]!.dot).2) (tT 2 (A3 h_18) (fT (V1 (Bn5 (C6 y5 a.adds[i0.toNat]!.dot).1 a.adds[i0.toNat]!)) (tT 6 (by first | (simp only [eq_false h_18,tsl];done) | simp_all:AV.b (decide ¬(C6 y5 a.adds[i0.toNat]!.dot).1=a.adds[i0.toNat]!)=AV.b (decide (¬(C6 y5 a.adds[i0.toNat]!.dot).2=true∨¬(C6 y5 a.adds[i0.toNat]!.dot).1=a.adds[i0.toNat]!))) (oA 5 (.b (decide ¬(C6 y5 a.adds[i0.toNat]!.dot).1=a.adds[i0.toNat]!)) z0))))) ?_
 exact⟨rfl,by kernel_rfl⟩
 refine sn<|dC (¬(C6 y5 a.adds[i0.toNat]!.dot).2=true∨¬(C6 y5 a.adds[i0.toNat]!.dot).1=a.adds[i0.toNat]!) (fun h19=>?_) fun h19=>?_
 refine rG cx [2,3,4,5,15,16,17] [2,3,4,5,5500] (fR 45 (fR 4 (fR 4 (fX c45 [a.adds[i0.toNat]!] 4 (fP ((List.map c45 o9).length+(List.map c45 [a.adds[i0.toNat]!]).length≤maxLen) (by simp only [List.length_map,List.length_cons,List.length_nil,Go.maxLen];omega) (fP (((List.map c45 o9).length+(List.map c45 [a.adds[i0.toNat]!]).length)*(40:Nat)≤(140737488355328:Nat)) (by simp only [List.length_map,List.length_cons,List.length_nil];omega) (fM c45 o9 [a.adds[i0.toNat]!] (oV 4 { rows:=some (List.map c45 (o9++[a.adds[i0.toNat]!])) } z0)))))))) ?_
 refine bN<|sn<|rG cx [2,3,4,5,15,16,17] [2,3,4,5,5500] (tT 0 (B6 (by omega) (by omega):AV.i .i64 (IntKind.i64.wrap (i0+1))=AV.i .i64 (i0+1)) z0) ?_
 refine sn<|nX ((i0+1,xx1,xx2,xx3,xx4,y5,y6,y7,y8,o9++[a.adds[i0.toNat]!])) (show((↑a.adds.length:Int)-(i0+1)).toNat <((↑a.adds.length:Int)-i0).toNat from(by omega)) (show B7l a b (i0+1) xx1 xx2 xx3 xx4 y5 y6 y7 y8 (o9++[a.adds[i0.toNat]!])from ?g4);rotate_left
 refine sK<|bN<|sn<|rG cx [2,3,4,5,15,16,17] [2,3,4,5,5500] (tT 0 (B6 (by omega) (by omega):AV.i .i64 (IntKind.i64.wrap (i0+1))=AV.i .i64 (i0+1)) z0) ?_
 refine sn<|nX ((i0+1,xx1,xx2,xx3,xx4,y5,y6,y7,y8,o9)) (show((↑a.adds.length:Int)-(i0+1)).toNat <((↑a.adds.length:Int)-i0).toNat from(by omega)) (show B7l a b (i0+1) xx1 xx2 xx3 xx4 y5 y6 y7 y8 o9 from ?g6);rotate_left
 refine eX 0<|nE<|nE<|bH<|sn<|sq<|rG cx [2,3,4,5] [2,3,4,5,5500] (fT (B9r ({ vec:=xx2,cloud:=xx3:Past }) ({ vec:=y6,cloud:=y7:Past }) (by obtain⟨_,_,e,_⟩:=h11;subst e;exact ha.1.1.1) (by obtain⟨_,_,_,_,_,_,e,_⟩:=h11;subst e;exact hb.1.1.1)) (oA 4 (.agg [.sl (List.map c3 (D5 { vec:=xx2,cloud:=xx3:Past } { vec:=y6,cloud:=y7:Past }).vec),.sl (List.map B7 (D5 { vec:=xx2,cloud:=xx3:Past } { vec:=y6,cloud:=y7:Past }).cloud)]) z0)) ?_
 refine sn<|sq<|sq<|rG cx [3,4,5,50,51,52] [3,4,5,5500] (tL 2 c81 xx4 z0)<|sn<|bL 2<|A08 5 81 3 3 5503 (σ':=⟨[(3,.ptr (3) (0) (0) (0)),(4,.ptr (4) (0) (0) (0)),(5,.ptr (5) (0) (0) (0)),(50,.sl (List.map c81 xx4)),(51,.i .i64 ((↑xx4.length:Int))),(52,.i .i64 ((0:Int)))],[(3,⟨0,29,.var [.sl (List.map c45 y5),.sl (List.map c3 y6),.sl (List.map B7 y7),.sl (List.map c81 y8)]⟩),(4,⟨0,29,.var [.nl,.nl,.nl,.nl]⟩),(5,⟨0,29,.var [.own 5500 0,.sl (List.map c3 (D5 { vec:=xx2,cloud:=xx3:Past } { vec:=y6,cloud:=y7:Past }).vec),.sl (List.map B7 (D5 { vec:=xx2,cloud:=xx3:Past } { vec:=y6,cloud:=y7:Past }).cloud),.own 5503 0]⟩),(5500,⟨0,45,.row 4 (List.map c45 o9)⟩),(5503,⟨0,81,.row 3 (List.map c81 [])⟩)]⟩) (by kernel_rfl)<|sL (X:=Int×List Entry×List Int×List Span×List Record×List Int×List Span×List Entry×List Record) (fun x=>⟨[(3,.ptr (3) (0) (0) (0)),(4,.ptr (4) (0) (0) (0)),(5,.ptr (5) (0) (0) (0)),(50,.sl (List.map c81 xx4)),(51,.i .i64 ((↑xx4.length:Int))),(52,.i .i64 (x.1))],[(3,⟨0,29,.var [.sl (List.map c45 x.2.1),.sl (List.map c3 x.2.2.1),.sl (List.map B7 x.2.2.2.1),.sl (List.map c81 x.2.2.2.2.1)]⟩),(4,⟨0,29,.var [.nl,.nl,.nl,.nl]⟩),(5,⟨0,29,.var [.own 5500 0,.sl (List.map c3 x.2.2.2.2.2.1),.sl (List.map B7 x.2.2.2.2.2.2.1),.own 5503 0]⟩),(5500,⟨0,45,.row 4 (List.map c45 x.2.2.2.2.2.2.2.1)⟩),(5503,⟨0,81,.row 3 (List.map c81 x.2.2.2.2.2.2.2.2)⟩)]⟩) (fun x ↦ decTm a x.1 x.2.1 x.2.2.1 x.2.2.2.1 x.2.2.2.2.1 x.2.2.2.2.2.1 x.2.2.2.2.2.2.1 x.2.2.2.2.2.2.2.1 x.2.2.2.2.2.2.2.2) (fun x ↦ B7m a b x.1 x.2.1 x.2.2.1 x.2.2.2.1 x.2.2.2.2.1 x.2.2.2.2.2.1 x.2.2.2.2.2.2.1 x.2.2.2.2.2.2.2.1 x.2.2.2.2.2.2.2.2) [3,4,5,50,51,52] [3,4,5,5500,5503] (((0:Int),y5,y6,y7,y8,(D5 { vec:=xx2,cloud:=xx3:Past } { vec:=y6,cloud:=y7:Past }).vec,(D5 { vec:=xx2,cloud:=xx3:Past } { vec:=y6,cloud:=y7:Past }).cloud,o9,[])) (show B7m a b (0:Int) y5 y6 y7 y8 (D5 { vec:=xx2,cloud:=xx3:Past } { vec:=y6,cloud:=y7:Past }).vec (D5 { vec:=xx2,cloud:=xx3:Past } { vec:=y6,cloud:=y7:Past }).cloud o9 []from ?g9) ?_;rotate_left
 rintro⟨i20,y21,y22,y23,y24,g25,g26,o27,q28⟩ h_29
 obtain⟨h30,h31,h32,h33,h34,h35,h36,h37⟩:y24=b.recs∧g25=(D5 a.gone b.gone).vec∧g26=(D5 a.gone b.gone).cloud∧o27=(D2 a b).adds∧0≤i20∧i20≤(↑a.recs.length:Int)∧(↑q28.length:Int)≤i20∧Bo0 a b i20 q28:=h_29
 refine rE cx [3,4,5,50,51,52,53] [3,4,5,5500,5503] (zB 0 (i20 <(↑xx4.length:Int))) (fun h38=>?_) fun h38=>?_
 refine sK<|sn<|sq<|bL 3<|sq<|rG cx [3,4,5,50,51,52,11] [3,4,5,5500,5503,11] (fA (0≤i20) (fG c81 xx4 i20.toNat (fR 3 (fN 3 3 (oR 0 (c81 xx4[i20.toNat]!) z0)))))<|sn<|sq<|rG cx [3,4,5,50,51,52,11,13] [3,4,5,5500,5503,11] (fT (con105 (y24) (xx4[i20.toNat]!) (by rw[h30];exact rec_up g3) (by rw[h30];exact Ad8 hb.1.2) (by rw[h11.2.2.2.1]at h38 ⊢;exact Q9 (Ad8 ha.1.2) h34 h38) (by rw[h30];omega)) (oA 3 (.tup [.i .i64 (bsN y24 xx4[i20.toNat]!),.b (bsF y24 xx4[i20.toNat]!)]) z0)) ?_
 refine sn<|sq<|rG cx [3,4,5,50,51,52,11,64] [3,4,5,5500,5503,11] (tT 1 (D0:(AV.b !bsF y24 xx4[i20.toNat]!)=AV.b (decide ¬bsF y24 xx4[i20.toNat]! = true)) z0)<|sn<|dC (¬bsF y24 xx4[i20.toNat]! = true) (fun h39=>?_) fun h39=>?_
 refine rA cx [3,4,5,50,51,52] [3,4,5,5500,5503] (fT (Ab7 (xx4[i20.toNat]!.past) (by rw[h11.2.2.2.1]at h38 ⊢;exact Q9 (Ad8 ha.1.2) h34 h38)) (fR 81 (fR 3 (fR 3 (fX c81 [{ sku:=xx4[i20.toNat]!.sku,past:=A5 xx4[i20.toNat]!.past:Record }] 3 (fP ((List.map c81 q28).length+(List.map c81 [{ sku:=xx4[i20.toNat]!.sku,past:=A5 xx4[i20.toNat]!.past:Record }]).length≤maxLen) (by rw[h11.2.2.2.1]at h38;simp only [List.length_map,List.length_cons,List.length_nil,Go.maxLen];omega) (fP (((List.map c81 q28).length+(List.map c81 [{ sku:=xx4[i20.toNat]!.sku,past:=A5 xx4[i20.toNat]!.past:Record }]).length)*(64:Nat)≤(140737488355328:Nat)) (by rw[h11.2.2.2.1]at h38;simp only [List.length_map,List.length_cons,List.length_nil];omega) (fM c81 q28 [{ sku:=xx4[i20.toNat]!.sku,past:=A5 xx4[i20.toNat]!.past:Record }] (oA 6 (.agg [.sl (List.map c3 (A5 xx4[i20.toNat]!.past).vec),.sl (List.map B7 (A5 xx4[i20.toNat]!.past).cloud)]) (oV 9 { rows:=some (List.map c81 (q28++[{ sku:=xx4[i20.toNat]!.sku,past:=A5 xx4[i20.toNat]!.past:Record }])) } z0)))))))))) ?_
 refine bN<|sn<|rG cx [3,4,5,50,51,52] [3,4,5,5500,5503] (tT 0 (B6 (by omega) (by rw[h11.2.2.2.1]at h38;omega):AV.i .i64 (IntKind.i64.wrap (i20+1))=AV.i .i64 (i20+1)) z0) ?_
 refine sn<|nX ((i20+1,y21,y22,y23,y24,g25,g26,o27,q28++[{ sku:=xx4[i20.toNat]!.sku,past:=A5 xx4[i20.toNat]!.past:Record }])) (show((↑a.recs.length:Int)-(i20+1)).toNat <((↑a.recs.length:Int)-i20).toNat from(by rw[h11.2.2.2.1]at h38;omega)) (show B7m a b (i20+1) y21 y22 y23 y24 g25 g26 o27 (q28++[{ sku:=xx4[i20.toNat]!.sku,past:=A5 xx4[i20.toNat]!.past:Record }])from ?g19);rotate_left
 refine sK<|bN<|sn<|rG cx [3,4,5,50,51,52] [3,4,5,5500,5503] (tT 0 (B6 (by omega) (by rw[h11.2.2.2.1]at h38;omega):AV.i .i64 (IntKind.i64.wrap (i20+1))=AV.i .i64 (i20+1)) z0) ?_
 refine sn<|nX ((i20+1,y21,y22,y23,y24,g25,g26,o27,q28)) (show((↑a.recs.length:Int)-(i20+1)).toNat <((↑a.recs.length:Int)-i20).toNat from(by rw[h11.2.2.2.1]at h38;omega)) (show B7m a b (i20+1) y21 y22 y23 y24 g25 g26 o27 q28 from ?g22);rotate_left
 refine eX 2<|nE<|nE<|bH<|sn<|sq<|P3 [5500,5503] [3,4,5,50,51,52,53] [3,4,5] (σ':=⟨[(3,.ptr (3) (0) (0) (0)),(4,.ptr (4) (0) (0) (0)),(5,.ptr (5) (0) (0) (0)),(50,.sl (List.map c81 xx4)),(51,.i .i64 ((↑xx4.length:Int))),(52,.i .i64 (i20)),(53,.b (decide (i20 <(↑xx4.length:Int))))],[(3,⟨0,29,.var [.sl (List.map c45 y21),.sl (List.map c3 y22),.sl (List.map B7 y23),.sl (List.map c81 y24)]⟩),(4,⟨0,29,.var [.nl,.nl,.nl,.nl]⟩),(5,⟨0,29,.var [.sl (List.map c45 o27),.sl (List.map c3 g25),.sl (List.map B7 g26),.sl (List.map c81 q28)]⟩)]⟩) (by kernel_rfl)<|rG cx [4] [4] z0<|sn<|rT<|qR (.agg [.sl (List.map c45 o27),.sl (List.map c3 g25),.sl (List.map B7 g26),.sl (List.map c81 q28)]) (.eq ?g23);rotate_left
 case g4 =>
  refine⟨h11,by omega,by omega,by rw[List.length_append,List.length_singleton];omega,?_⟩
  obtain⟨_,_,_,_,e,_⟩:=h11
  rw[e]at h19
  unfold Bn9
  rw[A2c h12 h16 h15,if_pos (by rw[Bool.not_eq_true',← Bool.not_eq_true,B40];exact fun c=>c h19)]
 case g6 =>
  refine⟨h11,by omega,by omega,by omega,?_⟩
  obtain⟨_,_,_,_,e,_⟩:=h11
  rw[e]at h19
  unfold Bn9
  rw[A2c h12 h16 h15,if_neg (by rw[Bool.not_eq_true',← Bool.not_eq_true,B40];exact fun c=>c h19),List.append_nil]
 case g9 =>
  obtain⟨_,e2,e3,_,_,e6,e7,e8⟩:=h11
  subst e2 e3 e6 e7
  refine⟨e8,rfl,rfl,?_,by omega,by omega,by simp,by simp [Bo0]⟩
  unfold Bn9 at h15
  rw[h15,List.take_of_length_le (by omega)]
  rfl
 case g19 =>
  revert i0 xx1 xx2 xx3 xx4 y5 y6 y7 y8 o9 h11 h12 h13 h14 h15 h16 i20 y21 y22 y23 y24 g25 g26 o27 q28 h30 h31 h32 h33 h34 h35 h36 h37 h38 h39
  intro i x1 x2 x3 x4 y1 y2 y3 y4 o s k0 k1 k2 k3 k4 n z1 z2 z3 z4 gv gc w q c1 c2 c3 c4 m0 m1 m2 m3 m4 m5
  rw[s.2.2.2.1]at m4 m5 ⊢
  have hn:=A2b f3 _ (D6 (l:=a.recs) (i:=n.toNat) (by omega))
  rw[c1,B3x (A2b g3) hn]at m5
  have e:(⟨a.recs[n.toNat]!.sku,A5 a.recs[n.toNat]!.past⟩:Record)=a.recs[n.toNat]!:=by
   generalize a.recs[n.toNat]! = r at hn
   cases r
   simp only at hn
   rw[← hn]
  rw[e]
  refine⟨c1,c2,c3,c4,by omega,by omega,by rw[List.length_append,List.length_singleton];omega,?_⟩
  unfold Bo0
  rw[A2c m0 m4 m3,if_pos (by simpa using m5)]
 case g22 =>
  revert i0 xx1 xx2 xx3 xx4 y5 y6 y7 y8 o9 h11 h12 h13 h14 h15 h16 i20 y21 y22 y23 y24 g25 g26 o27 q28 h30 h31 h32 h33 h34 h35 h36 h37 h38 h39
  intro i x1 x2 x3 x4 y1 y2 y3 y4 o s k0 k1 k2 k3 k4 n z1 z2 z3 z4 gv gc w q c1 c2 c3 c4 m0 m1 m2 m3 m4 m5
  rw[s.2.2.2.1]at m4 m5
  have hn:=A2b f3 _ (D6 (l:=a.recs) (i:=n.toNat) (by omega))
  rw[c1,B3x (A2b g3) hn]at m5
  refine⟨c1,c2,c3,c4,by omega,by omega,by omega,?_⟩
  unfold Bo0
  rw[A2c m0 m4 m3,if_neg (by simpa using m5),List.append_nil]
 case g23 =>
  rw[h11.2.2.2.1]at h38
  have e:q28=(D2 a b).recs:=by
   unfold Bo0 at h37
   rw[h37,List.take_of_length_le (by omega)]
   rfl
  rw[h31,h32,h33,e]
  rfl
theorem Bi7(f:Facts)(hb:szF f):Con Tryz.prog 57 [.agg (c29 f)] (.b (I9 f)) :=
 by
 refine sC B1 [.tmp 2] 18 Tryz.func57 ?_
 intro e0 cx
 refine sq<|rG cx [1] [1] z0<|sn<|sq<|B4 (σ':=⟨[(2,.b (decide ((↑f.adds.length:Int)=0∧E3 f.gone=0∧(↑f.recs.length:Int)=0)))],[]⟩) ?_ ?_
 refine A4 ((↑f.adds.length:Int)=0) (fun h1=>?_) (fun h1=>?_)
 refine A4 (E3 f.gone=0) (fun h2=>?_) (fun h2=>?_)
 refine rg (A:=_∧_∧_∧_∧_∧(AV.b ((↑f.recs.length:Int) ==(0:Int))=AV.b (decide ((↑f.recs.length:Int)=0)))∧(AV.b (decide ((↑f.recs.length:Int)=0))=AV.b (decide ((↑f.adds.length:Int)=0∧E3 f.gone=0∧(↑f.recs.length:Int)=0)))) cx [(2,{ tell:=some (.i .i64 ((↑f.adds.length:Int))) }),(3,{ tell:=some (.b (true)) }),(7,{ val:=some (.b (decide (E3 f.gone=0))),tell:=some (.b (true)) }),(12,{ tell:=some (.i .i64 ((↑f.recs.length:Int))) }),(13,{ tell:=some (.b (decide ((↑f.recs.length:Int)=0))) }),(15,{ tell:=some (.b (decide ((↑f.adds.length:Int)=0∧E3 f.gone=0∧(↑f.recs.length:Int)=0))) })] [2] [] ⟨(A3q c45 f.adds),(A6 h1),(A6 h2),(Az5 (f.gone) (by exact hb.1.1)),(A3q c81 f.recs),(by kernel_rfl),(by simp only [eq_true h1,eq_true h2,tsl])⟩ ?_
 exact⟨rfl,by kernel_rfl⟩
 refine rg (A:=_∧_∧_∧_∧(AV.b false=AV.b (decide ((↑f.adds.length:Int)=0∧E3 f.gone=0∧(↑f.recs.length:Int)=0)))) cx [(2,{ tell:=some (.i .i64 ((↑f.adds.length:Int))) }),(3,{ tell:=some (.b (true)) }),(7,{ val:=some (.b (decide (E3 f.gone=0))),tell:=some (.b (false)) }),(15,{ tell:=some (.b (decide ((↑f.adds.length:Int)=0∧E3 f.gone=0∧(↑f.recs.length:Int)=0))) })] [2] [] ⟨(A3q c45 f.adds),(A6 h1),(A3 h2),(Az5 (f.gone) (by exact hb.1.1)),(by simp only [eq_true h1,eq_false h2,tsl])⟩ ?_
 exact⟨rfl,by kernel_rfl⟩
 refine rG cx [2] [] (tL 2 c45 f.adds (tT 3 (A3 h1) (tD 15 false ((↑f.adds.length:Int)=0∧E3 f.gone=0∧(↑f.recs.length:Int)=0) (by simp only [eq_false h1,tsl]) z0))) ?_
 exact⟨rfl,by kernel_rfl⟩
 refine sn<|rT<|qR (.b (decide ((↑f.adds.length:Int)=0∧E3 f.gone=0∧(↑f.recs.length:Int)=0))) (.eq (by rfl))
theorem Am4(a b:Facts)(ha:szG a)(hb:szG b):Con Tryz.prog 22 [.agg (c29 a),.agg (c29 b)] (.tup [.b (A8 a b).1,.i .i64 (A8 a b).2]) :=
 by
 have y:¬ ¬ T0 a b=true→okF a=true∧okF b=true:=fun h=>G0.1 (Classical.not_not.1 h)
 refine sC B1 [.tmp 4,.tmp 5] 14 Tryz.func22 ?_
 intro e0 cx
 refine sq<|rG cx [2,3] [2,3] z0<|sn<|sq<|sq<|rG cx [2,3,9] [2,3] (fT (B7o (a) (b) (by exact ha.1) (by exact hb.1)) (tT 3 (D0:(AV.b !T0 a b)=AV.b (decide ¬T0 a b=true)) (oA 2 (.b (T0 a b)) z0))) ?_
 refine sn<|dC (¬T0 a b=true) (fun h0=>?_) fun h0=>?_
 refine sq<|rG cx [4,5] [] z0<|sn<|rT<|nR<|qR (.tup [.b (false),.i .i64 ((1:Int))]) (B8.tup (ZLe.cons (B8.eq (show AV.b false=AV.b (A8 a b).1 from(by unfold A8;rw[if_neg h0]))) (ZLe.cons (B8.eq (show AV.i .i64 1=AV.i .i64 (A8 a b).2 from(by unfold A8;rw[if_neg h0]))) ZLe.nil)))
 refine sK<|sn<|sq<|rG cx [4,5] [] (fT (B7p (a) (b) (by(with_reducible assumption)) (by(with_reducible assumption)) (by exact(y h0).1) (by exact(y h0).2)) (fT (Bi7 (D2 a b) (by exact A8s ha.1)) (oA 2 (.agg [.sl (List.map c45 (D2 a b).adds),.sl (List.map c3 (D2 a b).gone.vec),.sl (List.map B7 (D2 a b).gone.cloud),.sl (List.map c81 (D2 a b).recs)]) (oA 3 (.b (I9 (D2 a b))) z0)))) ?_
 refine sn<|rT<|qR (.tup [.b (I9 (D2 a b)),.i .i64 ((0:Int))]) (B8.tup (ZLe.cons (B8.eq (show AV.b (I9 (D2 a b))=AV.b (A8 a b).1 from(by unfold A8;rw[if_pos (Classical.not_not.1 h0)]))) (ZLe.cons (B8.eq (show AV.i .i64 0=AV.i .i64 (A8 a b).2 from(by unfold A8;rw[if_pos (Classical.not_not.1 h0)]))) ZLe.nil)))
theorem con15(a b:Facts)(ha:szG a)(hb:szG b):Con Tryz.prog 15 [.agg (c29 a),.agg (c29 b)] (.tup [.i .i64 (E7 a b).1,.i .i64 (E7 a b).2]) :=
 by
 have y:¬ ¬ T0 a b=true→okF a=true∧okF b=true:=fun h=>G0.1 (Classical.not_not.1 h)
 have f:∀ {x:Bool},x=false→¬ x=true:=fun {x} h=>by rw[h];simp
 refine sC B1 [.tmp 4,.tmp 5] 29 Tryz.func15 ?_
 intro e0 cx
 refine sq<|rG cx [2,3] [2,3] z0<|sn<|sq<|sq<|rG cx [2,3,11] [2,3] (fT (B7o (a) (b) (by exact ha.1) (by exact hb.1)) (tT 3 (D0:(AV.b !T0 a b)=AV.b (decide ¬T0 a b=true)) (oA 2 (.b (T0 a b)) z0))) ?_
 refine sn<|dC (¬T0 a b=true) (fun h0=>?_) fun h0=>?_
 refine sq<|rG cx [4,5] [] z0<|sn<|rT<|nR<|qR (.tup [.i .i64 ((0:Int)),.i .i64 ((1:Int))]) (B8.tup (ZLe.cons (B8.eq (show AV.i .i64 0=AV.i .i64 (E7 a b).1 from(by unfold E7;rw[if_neg h0]))) (ZLe.cons (B8.eq (show AV.i .i64 1=AV.i .i64 (E7 a b).2 from(by unfold E7;rw[if_neg h0]))) ZLe.nil)))
 refine sK<|sn<|sq<|sq<|rA cx [6,7] [] (fT (B7p (a) (b) (by(with_reducible assumption)) (by(with_reducible assumption)) (by exact(y h0).1) (by exact(y h0).2)) (fT (Bi7 (D2 a b) (by exact A8s ha.1)) (fT (B7p (b) (a) (by(with_reducible assumption)) (by(with_reducible assumption)) (by exact(y h0).2) (by exact(y h0).1)) (fT (Bi7 (D2 b a) (by exact A8s hb.1)) (oA 2 (.agg [.sl (List.map c45 (D2 a b).adds),.sl (List.map c3 (D2 a b).gone.vec),.sl (List.map B7 (D2 a b).gone.cloud),.sl (List.map c81 (D2 a b).recs)]) (oA 3 (.b (I9 (D2 a b))) (oA 6 (.agg [.sl (List.map c45 (D2 b a).adds),.sl (List.map c3 (D2 b a).gone.vec),.sl (List.map B7 (D2 b a).gone.cloud),.sl (List.map c81 (D2 b a).recs)]) (oA 7 (.b (I9 (D2 b a))) z0)))))))) ?_
 refine sn<|bL 0<|sq<|B4 (σ':=⟨[(6,.b (I9 (D2 a b))),(7,.b (I9 (D2 b a))),(20,.b (decide (I9 (D2 a b)=true∧I9 (D2 b a)=true)))],[]⟩) ?_ ?_
 refine A4 (I9 (D2 a b)=true) (fun h_2=>?_) (fun h_2=>?_)
 refine rG cx [6,7,20] [] (tT 0 (I7 h_2) (tD 4 (I9 (D2 b a)) (I9 (D2 a b)=true∧I9 (D2 b a)=true) (by simp only [eq_true h_2,tsl]) z0)) ?_
 exact⟨rfl,by kernel_rfl⟩
 refine rG cx [6,7,20] [] (tT 0 (F4 h_2:AV.b (I9 (D2 a b))=AV.b false) (tD 4 false (I9 (D2 a b)=true∧I9 (D2 b a)=true) (by simp only [eq_false h_2,tsl]) z0)) ?_
 exact⟨rfl,by kernel_rfl⟩
 refine sn<|dC (I9 (D2 a b)=true∧I9 (D2 b a)=true) (fun h3=>?_) fun h3=>?_
 refine sq<|rG cx [4,5] [] z0<|sn<|rT<|bR<|nR<|qR (.tup [.i .i64 ((0:Int)),.i .i64 ((0:Int))]) (B8.tup (ZLe.cons (B8.eq (show AV.i .i64 0=AV.i .i64 (E7 a b).1 from(by unfold E7;rw[if_pos (Classical.not_not.1 h0),if_pos h3]))) (ZLe.cons (B8.eq (show AV.i .i64 0=AV.i .i64 (E7 a b).2 from(by unfold E7;rw[if_pos (Classical.not_not.1 h0)]))) ZLe.nil)))
 refine sq<|rG cx [7,25] [] z0<|sn<|W8 (I9 (D2 a b)) (by kernel_rfl) (by kernel_rfl) (fun h4=>?_) (fun h4=>?_)
 refine sq<|rG cx [4,5] [] z0<|sn<|rT<|bR<|nR<|qR (.tup [.i .i64 ((1:Int)),.i .i64 ((0:Int))]) (B8.tup (ZLe.cons (B8.eq (show AV.i .i64 1=AV.i .i64 (E7 a b).1 from(by unfold E7;rw[if_pos (Classical.not_not.1 h0),if_neg h3,if_pos h4]))) (ZLe.cons (B8.eq (show AV.i .i64 0=AV.i .i64 (E7 a b).2 from(by unfold E7;rw[if_pos (Classical.not_not.1 h0)]))) ZLe.nil)))
 refine sq<|rG cx [27] [] z0<|sn<|W8 (I9 (D2 b a)) (by kernel_rfl) (by kernel_rfl) (fun h5=>?_) (fun h5=>?_)
 refine sq<|rG cx [4,5] [] z0<|sn<|rT<|bR<|nR<|qR (.tup [.i .i64 ((2:Int)),.i .i64 ((0:Int))]) (B8.tup (ZLe.cons (B8.eq (show AV.i .i64 2=AV.i .i64 (E7 a b).1 from(by unfold E7;rw[if_pos (Classical.not_not.1 h0),if_neg h3,if_neg (f h4),if_pos h5]))) (ZLe.cons (B8.eq (show AV.i .i64 0=AV.i .i64 (E7 a b).2 from(by unfold E7;rw[if_pos (Classical.not_not.1 h0)]))) ZLe.nil)))
 refine sK<|bN<|sn<|sq<|rG cx [4,5] [] z0<|sn<|rT<|qR (.tup [.i .i64 ((3:Int)),.i .i64 ((0:Int))]) (B8.tup (ZLe.cons (B8.eq (show AV.i .i64 3=AV.i .i64 (E7 a b).1 from(by unfold E7;rw[if_pos (Classical.not_not.1 h0),if_neg h3,if_neg (f h4),if_neg (f h5)]))) (ZLe.cons (B8.eq (show AV.i .i64 0=AV.i .i64 (E7 a b).2 from(by unfold E7;rw[if_pos (Classical.not_not.1 h0)]))) ZLe.nil)))
theorem con23(a b:Facts)(ha:szG a)(hb:szG b):Con Tryz.prog 23 [.agg (c29 a),.agg (c29 b)] (.tup [.agg (c29 (D7 a b).1),.i .i64 (D7 a b).2]) :=
 by
 have y:¬ ¬ T0 a b=true→okF a=true∧okF b=true:=fun h=>G0.1 (Classical.not_not.1 h)
 refine sC B1 [.cell 4 29,.tmp 5] 14 Tryz.func23 ?_
 intro e0 cx
 refine sq<|rG cx [2,3,4] [2,3,4] z0<|sn<|sq<|sq<|rG cx [2,3,4,9] [2,3,4] (fT (B7o (a) (b) (by exact ha.1) (by exact hb.1)) (tT 3 (D0:(AV.b !T0 a b)=AV.b (decide ¬T0 a b=true)) (oA 2 (.b (T0 a b)) z0))) ?_
 refine sn<|dC (¬T0 a b=true) (fun h0=>?_) fun h0=>?_
 refine sq<|rG cx [4,5] [4] z0<|sn<|rT<|nR<|qR (.tup [.agg [.nl,.nl,.nl,.nl],.i .i64 ((1:Int))]) (B8.tup (ZLe.cons (B8.agg (ZLe.cons (B8.nl' (show List.map c45 (D7 a b).1.adds=[]from(by unfold D7;rw[if_neg h0];rfl))) (ZLe.cons (B8.nl' (show List.map c3 (D7 a b).1.gone.vec=[]from(by unfold D7;rw[if_neg h0];rfl))) (ZLe.cons (B8.nl' (show List.map B7 (D7 a b).1.gone.cloud=[]from(by unfold D7;rw[if_neg h0];rfl))) (ZLe.cons (B8.nl' (show List.map c81 (D7 a b).1.recs=[]from(by unfold D7;rw[if_neg h0];rfl))) ZLe.nil))))) (ZLe.cons (B8.eq (show AV.i .i64 1=AV.i .i64 (D7 a b).2 from(by unfold D7;rw[if_neg h0]))) ZLe.nil)))
 refine sK<|sn<|sq<|rG cx [4,5] [4] (fT (B7p (a) (b) (by(with_reducible assumption)) (by(with_reducible assumption)) (by exact(y h0).1) (by exact(y h0).2)) (oA 2 (.agg [.sl (List.map c45 (D2 a b).adds),.sl (List.map c3 (D2 a b).gone.vec),.sl (List.map B7 (D2 a b).gone.cloud),.sl (List.map c81 (D2 a b).recs)]) z0)) ?_
 refine sn<|rT<|qR (.tup [.agg [.sl (List.map c45 (D2 a b).adds),.sl (List.map c3 (D2 a b).gone.vec),.sl (List.map B7 (D2 a b).gone.cloud),.sl (List.map c81 (D2 a b).recs)],.i .i64 ((0:Int))]) (B8.tup (ZLe.cons (B8.eq (show AV.agg [AV.sl (List.map c45 (D2 a b).adds),AV.sl (List.map c3 (D2 a b).gone.vec),AV.sl (List.map B7 (D2 a b).gone.cloud),AV.sl (List.map c81 (D2 a b).recs)]=AV.agg [AV.sl (List.map c45 (D7 a b).1.adds),AV.sl (List.map c3 (D7 a b).1.gone.vec),AV.sl (List.map B7 (D7 a b).1.gone.cloud),AV.sl (List.map c81 (D7 a b).1.recs)]from(by unfold D7;rw[if_pos (Classical.not_not.1 h0)]))) (ZLe.cons (B8.eq (show AV.i .i64 0=AV.i .i64 (D7 a b).2 from(by unfold D7;rw[if_pos (Classical.not_not.1 h0)]))) ZLe.nil)))
end Go.Proofs.YtaiepnaokhpmcaaGreat
namespace Go.Proofs.YtaiepnaokhpmcaaGreat
open Go.E
set_option maxRecDepth 100000
set_option maxHeartbeats 4000000
def N2(es:List Entry):Past×Int:=if okL es=true then(H3 (ofT (es.map fun e=>e.dot)),0)else(⟨[],[]⟩,1)
def N9(es:List Entry)(p:Past)(t:Bool):List Entry×Int:=if okL es=true∧p=A5 p then(es.filter (fun e=>C5 p e.dot == t),0)else([],1)
theorem A8t{es:List Entry}(h:¬ E5 es=0):N2 es=(⟨[],[]⟩,1):=by unfold N2;rw[if_neg (At7 h)]
theorem At8{es:List Entry}(h:E5 es=0):N2 es=(H3 (ofT (es.map fun e=>e.dot)),0):=by unfold N2;rw[if_pos (L8 h)]
theorem At9{es:List Entry}{p:Past}{t:Bool}(h:¬ E5 es=0∨¬ p=A5 p):N9 es p t=([],1):=by
 unfold N9
 rw[if_neg]
 rintro⟨h1,h2⟩
 exact h.elim (fun k=>At7 k h1) (fun k=>k h2)
theorem Au0{es:List Entry}{p:Past}{t:Bool}(h:E5 es=0)(h2:p=A5 p):N9 es p t=(es.filter (fun e=>C5 p e.dot == t),0):=by unfold N9;rw[if_pos ⟨L8 h,h2⟩]
def Ae4(es:List Entry)(i:Int)(l:List Dot):Prop:=l.length=es.length∧l.take i.toNat=(es.take i.toNat).map fun e=>e.dot
def invD(es:List Entry)(i:Int)(l:List Dot):Prop:=0≤i∧i≤es.length∧l.length=es.length∧Ae4 es i l
def decD(es:List Entry)(i:Int)(l:List Dot):Nat:=(es.length-i).toNat
theorem Am5{es:List Entry}{i:Int}{l:List Dot}(h0:0≤i)(h:i < es.length)(hs:Ae4 es i l):Ae4 es (i+1) (l.set i.toNat es[i.toNat]!.dot):=by
 obtain⟨h1,h2⟩:=hs
 refine⟨by rw[List.length_set];exact h1,?_⟩
 rw[← D9 h0 h,List.map_append,← h2,show(i+1).toNat=i.toNat+1 by omega,List.take_succ_eq_append_getElem (by rw[List.length_set];omega)]
 simp [List.take_set_of_le]
theorem B08{es:List Entry}{i:Int}{l:List Dot}(h:¬ i < es.length)(hs:Ae4 es i l):l=es.map fun e=>e.dot:=by
 obtain⟨h1,h2⟩:=hs
 rwa [List.take_of_length_le (by omega),List.take_of_length_le (by omega)]at h2
theorem ok_len{es:List Entry}(h:¬ ¬ E5 es=0):es.length≤16000000000:=R1 (L8 (Classical.not_not.1 h))
theorem A57{es:List Entry}{p:Past}(h:¬(¬ E5 es=0∨¬ p=A5 p)):E5 es=0∧p=A5 p:=⟨Classical.not_not.1 fun k=>h (.inl k),Classical.not_not.1 fun k=>h (.inr k)⟩
theorem con87(es:List Entry):Con Tryz.prog 87 [.sl (es.map c45)] (.tup [.agg (c26 (N2 es).1),.i .i64 (N2 es).2]) :=
 by
 refine lN 0 c45 (es) Tryz.func87 fun hl_0=>sC B1 [.cell 2 26,.tmp 3] 29 Tryz.func87 ?_
 intro e0 cx
 refine sq<|rG cx [0,2] [2] z0<|sn<|sq<|sq<|rG cx [0,2,9] [2] (fT (A4w (es)) (tN 2 (E5 es) (0:Int) (oA 1 (.i .i64 (E5 es)) z0)))<|sn<|dC (¬E5 es=0) (fun hh0=>?_) fun hh0=>?_
 refine sq<|rG cx [2,3] [2] z0<|sn<|rT<|nR<|qR (.tup [.agg [.nl,.nl],.i .i64 ((1:Int))]) (B8.tup (ZLe.cons (B8.agg (ZLe.cons (B8.nl' (show List.map c3 (N2 es).1.vec=[]from(by rw[A8t hh0];rfl))) (ZLe.cons (B8.nl' (show List.map B7 (N2 es).1.cloud=[]from(by rw[A8t hh0];rfl))) ZLe.nil))) (ZLe.cons (B8.eq (show AV.i .i64 1=AV.i .i64 (N2 es).2 from(by rw[A8t hh0]))) ZLe.nil)))
 refine sK<|sn<|sq<|rG cx [0,2,4] [2,13] (tL 1 c45 es (fR (↑es.length:Int) (fR (↑es.length:Int) (fP ((16:Nat)*es.length≤(281474976710656:Nat)) (by have:=ok_len hh0;omega) (fP (es.length≤maxLen) (by(simp only [Go.maxLen];omega)) (fR 2 (fP (ZLe [AV.i .i64 (0:Int),AV.i .i64 (0:Int)] [AV.i .i64 { rep:=(0:Int),num:=(0:Int):Dot }.rep,AV.i .i64 { rep:=(0:Int),num:=(0:Int):Dot }.num]) (by(with_reducible exact ZLe.refl _)) (fP (List.replicate es.length [AV.i .i64 { rep:=(0:Int),num:=(0:Int):Dot }.rep,AV.i .i64 { rep:=(0:Int),num:=(0:Int):Dot }.num]=List.map c43 (List.replicate es.length { rep:=(0:Int),num:=(0:Int):Dot })) (by(with_reducible refine Ai9 ?_;kernel_rfl)) (oV 2 { row:=[.i .i64 ({ rep:=(0:Int),num:=(0:Int):Dot }.rep),.i .i64 ({ rep:=(0:Int),num:=(0:Int):Dot }.num)],rows:=some (List.map c43 (List.replicate es.length { rep:=(0:Int),num:=(0:Int):Dot })),n:=es.length } z0))))))))) ?_
 refine sn<|sq<|sq<|rG cx [2,4,14,15,16] [2,13] (tL 1 c45 es z0)<|sn<|bL 0<|sL (X:=Int×List Dot) (fun x=>⟨[(2,.ptr (2) (0) (0) (0)),(4,.own 13 0),(14,.sl (List.map c45 es)),(15,.i .i64 ((↑es.length:Int))),(16,.i .i64 (x.1))],[(2,⟨0,26,.var [.nl,.nl]⟩),(13,⟨0,43,.row 2 (List.map c43 x.2)⟩)]⟩) (fun x ↦ decD es x.1 x.2) (fun x ↦ invD es x.1 x.2) [2,4,14,15,16] [2,13] (((0:Int),List.replicate es.length { rep:=(0:Int),num:=(0:Int):Dot })) (show invD es (0:Int) (List.replicate es.length { rep:=(0:Int),num:=(0:Int):Dot })from(by exact⟨by omega,by omega,by simp,by simp,by simp⟩)) ?_
 rintro⟨i1,l2⟩ h_3
 obtain⟨hh4,h5,h6,h7⟩:0≤i1∧i1≤(↑es.length:Int)∧l2.length=es.length∧Ae4 es i1 l2:=h_3
 refine rE cx [2,4,14,15,16,17] [2,13] (zB 0 (i1 <(↑es.length:Int))) (fun h8=>?_) fun h8=>?_
 refine sK<|sn<|sq<|bL 1<|sq<|rG cx [2,4,14,15,16,6,5] [2,13,6] (fA (0≤i1) (fG c45 es i1.toNat (fR 4 (fN 4 4 (oR 1 (c45 es[i1.toNat]!) z0)))))<|sn<|rG cx [2,4,14,15,16] [2,13] (fA (0≤i1) (fP (i1.toNat <(List.map c43 l2).length) (by(first | omega | (simp only [List.length_map];omega))) (fR 2 (fG c43 l2 i1.toNat (fR 2 (fP (0+(2:Nat)≤2) (by(first | omega | (simp only [List.length_map];omega))) (fP ((List.map c43 l2).set i1.toNat (List.take (0) (c43 l2[i1.toNat]!)++E2 (AV.agg [AV.i .i64 es[i1.toNat]!.dot.rep,AV.i .i64 es[i1.toNat]!.dot.num])++List.drop (0+(2:Nat)) (c43 l2[i1.toNat]!))=List.map c43 (l2.set i1.toNat es[i1.toNat]!.dot)) (by(with_reducible refine A2q ?_;kernel_rfl)) (oV 5 { row:=(c43 l2[i1.toNat]!),rows:=some (List.map c43 (l2.set i1.toNat es[i1.toNat]!.dot)) } z0)))))))) ?_
 refine bN<|sn<|rG cx [2,4,14,15,16] [2,13] (tW 0 (i1+1) z0)<|sn<|nX ((i1+1,l2.set i1.toNat es[i1.toNat]!.dot)) (show((↑es.length:Int)-(i1+1)).toNat <((↑es.length:Int)-i1).toNat from(by omega)) (show invD es (i1+1) (l2.set i1.toNat es[i1.toNat]!.dot)from(by exact⟨by omega,by omega,by rw[List.length_set];exact h6,Am5 hh4 h8 h7⟩))
 refine eX 0<|nE<|nE<|bH<|sn<|sq<|rG cx [2,3] [2] (fT (con136 (l2) (by have:=ok_len hh0;omega)) (oA 1 (.agg [.sl (List.map c3 (H3 (ofT l2)).vec),.sl (List.map B7 (H3 (ofT l2)).cloud)]) z0)) ?_
 refine sn<|rT<|qR (.tup [.agg [.sl (List.map c3 (H3 (ofT l2)).vec),.sl (List.map B7 (H3 (ofT l2)).cloud)],.i .i64 ((0:Int))]) (B8.tup (ZLe.cons (B8.eq (show AV.agg [AV.sl (List.map c3 (H3 (ofT l2)).vec),AV.sl (List.map B7 (H3 (ofT l2)).cloud)]=AV.agg [AV.sl (List.map c3 (N2 es).1.vec),AV.sl (List.map B7 (N2 es).1.cloud)]from(by rw[At8 (Classical.not_not.1 hh0),B08 h8 h7]))) (ZLe.cons (B8.eq (show AV.i .i64 0=AV.i .i64 (N2 es).2 from(by rw[At8 (Classical.not_not.1 hh0)]))) ZLe.nil)))
theorem B9x(e:Entry)(p:Past):Con Tryz.prog 114 [.agg (c45 e),.eptr (c26 p)] (.b (C5 p e.dot == false)) :=
 by
 refine sC B1 [.tmp 3] 9 Tryz.func114 ?_
 intro e0 cx
 refine sq<|rG cx [1,2] [2] z0<|sn<|sq<|rG cx [3] [] (fN 2 2 (fT (B2h (p) (e.dot)) (tT 4 (D0:(AV.b !C5 p e.dot)=AV.b (decide ¬C5 p e.dot=true)) (oA 3 (.b (C5 p e.dot)) z0))))<|sn<|rT<|qR (.b (decide ¬C5 p e.dot=true)) (.eq ?g0);rotate_left
 case g0=>exact(by cases C5 p e.dot <;> rfl)
theorem B7q(es:List Entry)(p:Past)(hs:es.length*40≤140737488351232):Con Tryz.prog 113 [.sl (es.map c45),.fn (.func 114) [] [.eptr (c26 p)]] (.sl ((es.filter (fun e=>C5 p e.dot == false)).map c45)) :=
 by
 refine lN 0 c45 (es) Tryz.func113 fun hl_0=>sC B1 [.tmp 4] 23 Tryz.func113 ?_
 intro e0 cx
 refine sq<|rG cx [0,1] [] z0<|sn<|sq<|rG cx [0,1,5] [] z0<|sn<|sq<|sq<|rG cx [1,5,8,9,10] [] (tL 1 c45 es z0)<|sn<|bL 0<|H8 5 1005 45 4 (σ':=⟨[(1,.fn (Fn.func (114:FuncId)) [] [.eptr [.sl (List.map c3 p.vec),.sl (List.map B7 p.cloud)]]),(5,.own 1005 0),(8,.sl (List.map c45 es)),(9,.i .i64 ((↑es.length:Int))),(10,.i .i64 ((0:Int)))],[(1005,⟨0,45,.row 4 (List.map c45 [])⟩)]⟩) (by kernel_rfl)<|sL (X:=Int×List Entry) (fun x=>⟨[(1,.fn (Fn.func (114:FuncId)) [] [.eptr [.sl (List.map c3 p.vec),.sl (List.map B7 p.cloud)]]),(5,.own 1005 0),(8,.sl (List.map c45 es)),(9,.i .i64 ((↑es.length:Int))),(10,.i .i64 (x.1))],[(1005,⟨0,45,.row 4 (List.map c45 x.2)⟩)]⟩) (fun x ↦ decP es x.1 x.2) (fun x ↦ Bh8 (fun e ↦ C5 p e.dot == false) es x.1 x.2) [1,5,8,9,10] [1005] (((0:Int),[])) (show Bh8 (fun e ↦ C5 p e.dot == false) es (0:Int) []from(by exact(B3n _ _))) ?_
 rintro⟨i0,l1⟩ h_2
 obtain⟨hh3,hh4,hh5,h6⟩:0≤i0∧i0≤(↑es.length:Int)∧l1=List.filter (fun e ↦ C5 p e.dot == false) (List.take i0.toNat es)∧(↑l1.length:Int)≤i0:=h_2
 refine rE cx [1,5,8,9,10,11] [1005] (zB 0 (i0 <(↑es.length:Int))) (fun h7=>?_) fun h7=>?_
 refine sK<|sn<|sq<|bL 1<|sq<|rG cx [1,5,8,9,10,7] [1005,7] (fA (0≤i0) (fG c45 es i0.toNat (fR 4 (fN 4 4 (oR 0 (c45 es[i0.toNat]!) z0)))))<|sn<|sq<|rG cx [1,5,8,9,10,7,16] [1005,7] (fT (B9x (es[i0.toNat]!) (p)) (oA 2 (resC (B9x (es[i0.toNat]!) (p))) z0))<|sn<|W8 (C5 p es[i0.toNat]!.dot == false) (by kernel_rfl) (by kernel_rfl) (fun h8=>?_) (fun h8=>?_)
 refine rG cx [1,5,8,9,10] [1005] (fR 45 (fR 4 (fR 4 (fX c45 [es[i0.toNat]!] 4 (fS c45 l1 c45 [es[i0.toNat]!] (fP (((List.map c45 l1).length+(List.map c45 [es[i0.toNat]!]).length)*(40:Nat)≤(140737488355328:Nat)) (by(simp only [Go.maxLen,List.length_map,List.length_append,List.length_cons,List.length_nil];omega)) (fM c45 l1 [es[i0.toNat]!] (oV 3 { rows:=some (List.map c45 (l1++[es[i0.toNat]!])) } z0))))))))<|bN<|sn<|rG cx [1,5,8,9,10] [1005] (tW 0 (i0+1) z0)<|sn<|nX ((i0+1,l1++[es[i0.toNat]!])) (show((↑es.length:Int)-(i0+1)).toNat <((↑es.length:Int)-i0).toNat from(by omega)) (show Bh8 (fun e ↦ C5 p e.dot == false) es (i0+1) (l1++[es[i0.toNat]!])from(by exact(B7c hh3 hh5 h6 h7 h8)))
 refine sK<|bN<|sn<|rG cx [1,5,8,9,10] [1005] (tW 0 (i0+1) z0)<|sn<|nX ((i0+1,l1)) (show((↑es.length:Int)-(i0+1)).toNat <((↑es.length:Int)-i0).toNat from(by omega)) (show Bh8 (fun e ↦ C5 p e.dot == false) es (i0+1) l1 from(by exact(B3o hh3 hh5 h6 h7 (by simpa using h8))))
 refine eX 0<|nE<|nE<|bH<|sn<|sq<|rG cx [4] [1005] z0<|sn<|rT<|qR (.sl (List.map c45 l1)) (.eq (by exact(by rw[B3p hh5 h7])))
theorem con68(es:List Entry)(p:Past)(hb:p.cloud.length*16≤140737488350000):Con Tryz.prog 68 [.sl (es.map c45),.agg (c26 p)] (.tup [.sl ((N9 es p false).1.map c45),.i .i64 (N9 es p false).2]) :=
 by
 refine lN 0 c45 (es) Tryz.func68 fun hl_0=>sC B1 [.tmp 4,.tmp 5] 17 Tryz.func68 ?_
 intro e0 cx
 refine sq<|rG cx [0,3] [3] z0<|sn<|sq<|sq<|B4 (σ':=⟨[(0,.sl (List.map c45 es)),(3,.ptr (3) (0) (0) (0)),(13,.b (decide (¬E5 es=0∨¬p=A5 p)))],[(3,⟨0,26,.var [.sl (List.map c3 p.vec),.sl (List.map B7 p.cloud)]⟩)]⟩) ?_ ?_
 refine A4 (¬E5 es=0) (fun h_1=>?_) (fun h_1=>?_)
 refine rG cx [0,3,13] [3] (fT (A4w (es)) (tT 2 (C4 h_1:AV.b (E5 es !=0)=AV.b true) (tD 7 true (¬E5 es=0∨¬p=A5 p) (by simp only [eq_false h_1,tsl]) (oA 1 (.i .i64 (E5 es)) z0)))) ?_
 exact⟨rfl,by kernel_rfl⟩
 refine rG cx [0,3,13] [3] (fT (A4w (es)) (tN 2 (E5 es) (0:Int) (tT 3 (A3 h_1) (fT (B2f (p) (by(with_reducible assumption))) (tQ 6 (p=A5 p) (tT 7 (by first | (simp only [eq_false h_1,tsl];done) | simp_all:AV.b (decide ¬p=A5 p)=AV.b (decide (¬E5 es=0∨¬p=A5 p))) (oA 1 (.i .i64 (E5 es)) (oA 5 (.b (decide (p=A5 p))) z0)))))))) ?_
 exact⟨rfl,by kernel_rfl⟩
 refine sn<|dC (¬E5 es=0∨¬p=A5 p) (fun h2=>?_) fun h2=>?_
 refine sq<|rG cx [4,5] [] z0<|sn<|rT<|nR<|qR (.tup [.nl,.i .i64 ((1:Int))]) (B8.tup (ZLe.cons (B8.nl' (show List.map c45 (N9 es p false).1=[]from(by exact(by rw[At9 h2];rfl)))) (ZLe.cons (B8.eq (show AV.i .i64 1=AV.i .i64 (N9 es p false).2 from(by exact(by rw[At9 h2])))) ZLe.nil)))
 refine sK<|sn<|sq<|rG cx [4,5] [] (fT (B7q (es) (p) (by exact(by have:=R1 (L8 (A57 h2).1);omega))) (oA 2 (.sl (List.map c45 (List.filter (fun e ↦ C5 p e.dot == false) es))) z0)) ?_
 refine sn<|rT<|qR (.tup [.sl (List.map c45 (List.filter (fun e ↦ C5 p e.dot == false) es)),.i .i64 ((0:Int))]) (B8.tup (ZLe.cons (B8.eq (show AV.sl (List.map c45 (List.filter (fun e ↦ C5 p e.dot == false) es))=AV.sl (List.map c45 (N9 es p false).1)from(by exact(by rw[Au0 (A57 h2).1 (A57 h2).2])))) (ZLe.cons (B8.eq (show AV.i .i64 0=AV.i .i64 (N9 es p false).2 from(by exact(by rw[Au0 (A57 h2).1 (A57 h2).2])))) ZLe.nil)))
end Go.Proofs.YtaiepnaokhpmcaaGreat
namespace Go.Proofs.YtaiepnaokhpmcaaGreat
open Go.E
set_option maxRecDepth 100000
set_option maxHeartbeats 4000000
def Bi8(a b:List Record)(i:Int):Prop:=0≤i∧i≤a.length∧a.length=b.length∧∀ k:Nat,(k:Int) < i→a[k]! = b[k]!
def decSr(a:List Record)(i:Int):Nat:=(a.length-i).toNat
theorem B41(r:Record):(⟨r.sku,r.past⟩:Record)=r:=rfl
theorem Am6(f:Facts)(hb:szF f):Con Tryz.prog 41 [.agg (c29 f)] (.i .i64 (I1 f)) :=
 by
 have no:(¬E5 f.adds=0∨¬f.gone=A5 f.gone∨¬G9 f.recs=0)↔¬ okF f=true:=by
  rw[E6]
  constructor
  ·rintro(h | h | h) k
   ·exact h k.1
   ·exact h k.2.1
   ·exact h k.2.2
  ·intro h
   by_cases a:E5 f.adds=0
   ·by_cases b:f.gone=A5 f.gone
    ·exact .inr (.inr fun c=>h ⟨a,b,c⟩)
    ·exact .inr (.inl b)
   ·exact .inl a
 refine sC B1 [.tmp 2] 19 Tryz.func41 ?_
 intro e0 cx
 refine sq<|rG cx [1] [1] z0<|sn<|sq<|sq<|B4 (σ':=⟨[(18,.b (decide (¬E5 f.adds=0∨¬f.gone=A5 f.gone∨¬G9 f.recs=0)))],[]⟩) ?_ ?_
 refine A4 (¬E5 f.adds=0) (fun h1=>?_) (fun h1=>?_)
 refine rG cx [18] [] (fT (B7b (f.adds)) (tT 3 (C4 h1:AV.b (E5 f.adds !=0)=AV.b true) (tD 15 true (¬E5 f.adds=0∨¬f.gone=A5 f.gone∨¬G9 f.recs=0) (by simp only [eq_false h1,tsl]) (oA 2 (.i .i64 (E5 f.adds)) z0)))) ?_
 exact⟨rfl,by kernel_rfl⟩
 refine A4 (¬f.gone=A5 f.gone) (fun h2=>?_) (fun h2=>?_)
 refine rg (A:=_∧(AV.b (E5 f.adds !=0)=AV.b (decide ¬E5 f.adds=0))∧_∧_∧_∧(AV.b true=AV.b (decide (¬E5 f.adds=0∨¬f.gone=A5 f.gone∨¬G9 f.recs=0)))) cx [(2,{ val:=some (.i .i64 (E5 f.adds)) }),(3,{ tell:=some (.b (decide ¬E5 f.adds=0)) }),(4,{ tell:=some (.b (false)) }),(7,{ val:=some (.b (decide (f.gone=A5 f.gone))),tell:=some (.b (false)) }),(15,{ tell:=some (.b (decide (¬E5 f.adds=0∨¬f.gone=A5 f.gone∨¬G9 f.recs=0))) })] [18] [] ⟨(B7b (f.adds)),(N4),(A3 h1),(A3 h2),(B76 (f.gone) ?g0 ?g1),(by first | (simp only [eq_false h1,eq_false h2,tsl];done) | simp_all)⟩ ?_;rotate_left 2
 exact⟨rfl,by kernel_rfl⟩
 refine rG cx [18] [] (fT (B7b (f.adds)) (tN 3 (E5 f.adds) (0:Int) (tT 4 (A3 h1) (fT (B76 (f.gone) ?g2 ?g3) (tQ 8 (f.gone=A5 f.gone) (tT 9 (A3 h2) (fT (con85 (f.recs) ?g4) (tN 14 (G9 f.recs) (0:Int) (tT 15 (by first | (simp only [eq_false h1,eq_false h2,tsl];done) | simp_all:AV.b (decide ¬G9 f.recs=0)=AV.b (decide (¬E5 f.adds=0∨¬f.gone=A5 f.gone∨¬G9 f.recs=0))) (oA 2 (.i .i64 (E5 f.adds)) (oA 7 (.b (decide (f.gone=A5 f.gone))) (oA 13 (.i .i64 (G9 f.recs)) z0)))))))))))) ?_;rotate_left 3
 exact⟨rfl,by kernel_rfl⟩
 refine sn<|dC (¬E5 f.adds=0∨¬f.gone=A5 f.gone∨¬G9 f.recs=0) (fun h3=>?_) fun h3=>?_
 refine sq<|rG cx [2] [] z0<|sn<|rT<|nR<|qR (.i .i64 ((1:Int))) (.eq ?g5);rotate_left
 refine sK<|sn<|sq<|rG cx [2] [] z0<|sn<|rT<|qR (.i .i64 ((0:Int))) (.eq ?g6);rotate_left
 revert h1 h2;rotate_left
 revert h1 h2;rotate_left
 revert h1 h2;rotate_left
 revert h1 h2;rotate_left
 revert h1 h2;rotate_left
 revert h3;rotate_left
 revert h3;rotate_left
 case g4=>intros;exact hb.2
 case g5=>intro h;unfold I1;rw[if_neg (no.1 h)]
 case g6=>intro h;unfold I1;rw[if_pos (Classical.not_not.1 fun k=>h (no.2 k))]
 all_goals (intros;first | exact hb.1.1 | exact hb.1.2)
theorem con64(a b:List Record)(hb:szQ a):Con Tryz.prog 64 [.sl (a.map c81),.sl (b.map c81)] (.b (decide (a=b))) :=
 by
 refine lN 0 c81 (a) Tryz.func64 fun hl_0=>lN 1 c81 (b) Tryz.func64 fun hl_1=>sC B1 [.tmp 4] 42 Tryz.func64 ?_
 intro e0 cx
 refine sq<|rG cx [0,1] [] z0<|sn<|sq<|sq<|rG cx [0,1,10] [] (tL 1 c81 a (tL 3 c81 b (tN 4 (↑a.length:Int) (↑b.length:Int) z0)))<|sn<|dC (¬(↑a.length:Int)=(↑b.length:Int)) (fun hh0=>?_) fun hh0=>?_
 refine sq<|rG cx [4] [] z0<|sn<|rT<|nR<|qR (.b (false)) (.eq (by rw[decide_eq_false (fun k=>hh0 (by rw[k]))]))
 refine sK<|sn<|sq<|sq<|rG cx [0,1,5] [] z0<|sn<|bL 0<|sL (X:=Int) (fun x=>⟨[(0,.sl (List.map c81 a)),(1,.sl (List.map c81 b)),(5,.i .i64 (x))],[]⟩) (fun x ↦ decSr a x) (fun x ↦ Bi8 a b x) [0,1,5] [] ((0:Int)) (show Bi8 a b (0:Int)from(by exact⟨by omega,by omega,by omega,fun j hj=>by omega⟩)) ?_
 intro i1 h_2
 obtain⟨hh3,hh4,hh5,h6⟩:0≤i1∧i1≤(↑a.length:Int)∧a.length=b.length∧∀(k:Nat),(↑k:Int) < i1→a[k]! = b[k]!:=h_2
 refine sq<|rD cx [0,1,5,14] [] (tL 2 c81 a (zB 3 (i1 <(↑a.length:Int)))) (fun h7=>?_) fun h7=>?_
 refine sK<|sn<|sq<|bL 1<|sq<|B4 (σ':=⟨[(0,.sl (List.map c81 a)),(1,.sl (List.map c81 b)),(5,.i .i64 (i1)),(41,.b (decide (¬a[i1.toNat]!.sku=b[i1.toNat]!.sku∨¬a[i1.toNat]!.past=b[i1.toNat]!.past)))],[]⟩) ?_ ?_
 refine A4 (¬a[i1.toNat]!.sku=b[i1.toNat]!.sku) (fun h9=>?_) (fun h9=>?_)
 refine rA cx [0,1,5,41] [] (fA (0≤i1) (fG c81 a i1.toNat (fR 3 (fA (0≤i1) (fG c81 b i1.toNat (fR 3 (tT 10 (A1l h9:(AV.b !a[i1.toNat]!.sku.toList == b[i1.toNat]!.sku.toList)=AV.b true) (tD 24 true (¬a[i1.toNat]!.sku=b[i1.toNat]!.sku∨¬a[i1.toNat]!.past=b[i1.toNat]!.past) (by simp only [eq_false h9,tsl]) (oR 2 (c81 a[i1.toNat]!) (oR 7 (c81 b[i1.toNat]!) z0)))))))))) ?_
 exact⟨rfl,by kernel_rfl⟩
 refine rA cx [0,1,5,41] [] (fA (0≤i1) (fG c81 a i1.toNat (fR 3 (fA (0≤i1) (fG c81 b i1.toNat (fR 3 (tT 10 (A3s:(AV.b !a[i1.toNat]!.sku.toList == b[i1.toNat]!.sku.toList)=AV.b (decide ¬a[i1.toNat]!.sku=b[i1.toNat]!.sku)) (tT 11 (A3 h9) (fA (0≤i1) (fG c81 a i1.toNat (fR 3 (fN 2 2 (fA (0≤i1) (fG c81 b i1.toNat (fR 3 (fN 2 2 (fT (Az8 (a[i1.toNat]!.past) (b[i1.toNat]!.past) (by exact(At2 hb hh3 h7).2) (by have:=(At2 hb hh3 h7).1;omega)) (tQ 23 (a[i1.toNat]!.past=b[i1.toNat]!.past) (tT 24 (by first | (simp only [eq_false h9,tsl];done) | simp_all:AV.b (decide ¬a[i1.toNat]!.past=b[i1.toNat]!.past)=AV.b (decide (¬a[i1.toNat]!.sku=b[i1.toNat]!.sku∨¬a[i1.toNat]!.past=b[i1.toNat]!.past))) (oR 2 (c81 a[i1.toNat]!) (oR 7 (c81 b[i1.toNat]!) (oR 14 (c81 a[i1.toNat]!) (oR 19 (c81 b[i1.toNat]!) (oA 22 (.b (decide (a[i1.toNat]!.past=b[i1.toNat]!.past))) z0)))))))))))))))))))))))) ?_
 exact⟨rfl,by kernel_rfl⟩
 refine sn<|dC (¬a[i1.toNat]!.sku=b[i1.toNat]!.sku∨¬a[i1.toNat]!.past=b[i1.toNat]!.past) (fun h10=>?_) fun h10=>?_
 refine sq<|rG cx [4] [] z0<|sn<|rT<|bR<|nR<|nR<|bR<|nR<|qR (.b (false)) (.eq ?g4);rotate_left
 refine sK<|bN<|sn<|rG cx [0,1,5] [] (tW 1 (i1+1) z0)<|sn<|nX (i1+1) (show((↑a.length:Int)-(i1+1)).toNat <((↑a.length:Int)-i1).toNat from(by omega)) (show Bi8 a b (i1+1)from ?g5);rotate_left
 refine eX 0<|nE<|nE<|bH<|sn<|sq<|rG cx [4] [] z0<|sn<|rT<|qR (.b (true)) (.eq (by rw[decide_eq_true (V5 hh5 fun j hj=>h6 j (by omega))]))
 case g4 =>
  rw[decide_eq_false (fun k=>by
   rw[k]at h10
   rcases h10 with h10 | h10
   ·exact h10 rfl
   ·exact h10 rfl)]
 case g5 =>
  refine⟨by omega,by omega,hh5,fun j hj=>?_⟩
  by_cases e:j=i1.toNat
  ·rw[e]
   have k1:a[i1.toNat]!.sku=b[i1.toNat]!.sku:=Classical.byContradiction fun k=>h10 (.inl k)
   have k2:a[i1.toNat]!.past=b[i1.toNat]!.past:=Classical.byContradiction fun k=>h10 (.inr k)
   rw[← B41 a[i1.toNat]!,← B41 b[i1.toNat]!,k1,k2]
  ·exact h6 j (by omega)
theorem Am7(a b:Facts)(hb:szF a):Con Tryz.prog 24 [.agg (c29 a),.agg (c29 b)] (.b (decide (a=b))) :=
 by
 refine sC B1 [.tmp 4] 24 Tryz.func24 ?_
 intro e0 cx
 refine sq<|rG cx [2,3] [2,3] z0<|sn<|sq<|B4 (σ':=⟨[(4,.b (decide (a.adds=b.adds∧a.gone=b.gone∧a.recs=b.recs)))],[]⟩) ?_ ?_
 refine A4 (a.adds=b.adds) (fun h1=>?_) (fun h1=>?_)
 refine A4 (a.gone=b.gone) (fun h2=>?_) (fun h2=>?_)
 refine rg (A:=_∧_∧_∧_∧_∧(AV.b (decide (a.recs=b.recs))=AV.b (decide (a.adds=b.adds∧a.gone=b.gone∧a.recs=b.recs)))) cx [(4,{ val:=some (.b (decide (a.adds=b.adds))),tell:=some (.b (true)) }),(10,{ val:=some (.b (decide (a.gone=b.gone))),tell:=some (.b (true)) }),(17,{ val:=some (.b (decide (a.recs=b.recs))) }),(19,{ tell:=some (.b (decide (a.adds=b.adds∧a.gone=b.gone∧a.recs=b.recs))) })] [4] [] ⟨(A6 h1),(Bh9 (a.adds) (b.adds)),(A6 h2),(Az8 (a.gone) (b.gone) ?g0 ?g1),(con64 (a.recs) (b.recs) ?g2),(by simp only [eq_true h1,eq_true h2,tsl])⟩ ?_;rotate_left 3
 exact⟨rfl,by kernel_rfl⟩
 refine rg (A:=_∧_∧_∧_∧(AV.b false=AV.b (decide (a.adds=b.adds∧a.gone=b.gone∧a.recs=b.recs)))) cx [(4,{ val:=some (.b (decide (a.adds=b.adds))),tell:=some (.b (true)) }),(10,{ val:=some (.b (decide (a.gone=b.gone))),tell:=some (.b (false)) }),(19,{ tell:=some (.b (decide (a.adds=b.adds∧a.gone=b.gone∧a.recs=b.recs))) })] [4] [] ⟨(A6 h1),(Bh9 (a.adds) (b.adds)),(A3 h2),(Az8 (a.gone) (b.gone) ?g3 ?g4),(by simp only [eq_true h1,eq_false h2,tsl])⟩ ?_;rotate_left 2
 exact⟨rfl,by kernel_rfl⟩
 refine rg (A:=_∧_∧(AV.b false=AV.b (decide (a.adds=b.adds∧a.gone=b.gone∧a.recs=b.recs)))) cx [(4,{ val:=some (.b (decide (a.adds=b.adds))),tell:=some (.b (false)) }),(19,{ tell:=some (.b (decide (a.adds=b.adds∧a.gone=b.gone∧a.recs=b.recs))) })] [4] [] ⟨(A3 h1),(Bh9 (a.adds) (b.adds)),(by simp only [eq_false h1,tsl])⟩ ?_
 exact⟨rfl,by kernel_rfl⟩
 refine sn<|rT<|qR (.b (decide (a.adds=b.adds∧a.gone=b.gone∧a.recs=b.recs))) (.eq ?g5);rotate_left
 revert h1 h2;rotate_left
 revert h1 h2;rotate_left
 revert h1 h2;rotate_left
 revert h1 h2;rotate_left
 revert h1 h2;rotate_left
 rotate_left
 case g2=>intros;exact hb.2
 case g5 =>
  refine congrArg AV.b (decide_eq_decide.2 ?_)
  cases a;cases b
  simp
 all_goals (intros;have:=hb.1.1;have:=hb.1.2;omega)
end Go.Proofs.YtaiepnaokhpmcaaGreat
namespace Go.Proofs.YtaiepnaokhpmcaaGreat
open Go.E
set_option maxRecDepth 100000
set_option maxHeartbeats 4000000
def B9:Facts:=⟨[⟨⟨0,1⟩,⟨#[65]⟩,5⟩,⟨⟨0,2⟩,⟨#[66]⟩,2⟩,⟨⟨1,1⟩,⟨#[65]⟩,1⟩],⟨[1],[]⟩,[]⟩
def I4:Facts:=⟨[],⟨[],[]⟩,[⟨⟨#[65]⟩,⟨[0,2],[]⟩⟩]⟩
theorem A2w:okF B9=true:=by rw[B9v];decide +kernel
theorem Au1:(⟨[0,2],[]⟩:Past)=A5 ⟨[0,2],[]⟩:=by decide +kernel
theorem B9y:okF I4=true:=by
 refine E6.2 ⟨rfl,A1y.symm,(P7 _).2 ⟨fun r hr=>?_,List.pairwise_singleton _ _⟩⟩
 have e:r=⟨⟨#[65]⟩,⟨[0,2],[]⟩⟩:=List.mem_singleton.1 hr
 rw[e]
 refine A8h.2 ⟨.inr (by decide +kernel),Au1,fun h=>?_⟩
 have:=congrArg Past.vec ((A2t Au1).1 h)
 exact absurd this (by decide)
theorem A2x:szG B9:=⟨⟨⟨by decide,by decide⟩,fun r hr=>by cases hr⟩,by decide⟩
theorem B9z:szG I4:=⟨⟨⟨by decide,by decide⟩,fun r hr=>by
 have:r=⟨⟨#[65]⟩,⟨[0,2],[]⟩⟩:=List.mem_singleton.1 hr
 rw[this]
 exact⟨by decide,by decide⟩⟩,by decide⟩
theorem Bi9{a b:List (List AV)}(hl:a.length=b.length)(h:∀(j:Nat) (x y:List AV),a[j]?=some x→b[j]?=some y→ZLe x y):B8 (.sl a) (.sl b):=fun S w v hv=>by
 cases hv with
 | sl _ A cap sz u hc hm hn hsz hA h1 h2 =>
  rw[hl]
  refine .sl b A cap sz u (by omega) (by omega) hn (fun r hr=>?_) (fun k=>?_) h1 (fun j q r x hj hq=>?_)
  ·obtain⟨j,hj,rfl⟩:=List.mem_iff_getElem.1 hr
   have k:j < a.length:=by omega
   rw[←(h j a[j] b[j] (List.getElem?_eq_getElem k) (List.getElem?_eq_getElem hj)).1]
   exact hsz _ (List.getElem_mem k)
  ·obtain⟨ad,e,hs,hc'⟩:=hA (by omega)
   exact⟨ad,e,hs,fun j q hj=>hc' j q (by omega)⟩
  ·have k:j < a.length:=by
    have:=List.getElem?_eq_some_iff.1 hj
    obtain⟨h',_⟩:=this
    omega
   have z:=h j a[j] r (List.getElem?_eq_getElem k) hj
   have kq:q < a[j].length:=by
    have:=List.getElem?_eq_some_iff.1 hq
    obtain⟨h',_⟩:=this
    rw[z.1]
    exact h'
   exact z.2 q _ x (List.getElem?_eq_getElem kq) hq S w _ (h2 j q _ _ (List.getElem?_eq_getElem k) (List.getElem?_eq_getElem kq))
def A8u(rep num:Int)(sku:ByteArray)(qty:Int):Entry:=⟨⟨rep,num⟩,sku,qty⟩
theorem B7r(rep num:Int)(sku:ByteArray)(qty:Int):Con Tryz.prog 36 [.i .i64 rep,.i .i64 num,.s sku,.i .i64 qty] (.agg (c45 (A8u rep num sku qty))) :=
 by
 refine sC B1 [.cell 8 45] 15 Tryz.func36 ?_
 intro e0 cx
 refine sq<|rG cx [0,1,2,3,8] [8] z0<|sn<|sq<|rG cx [8] [8] z0<|sn<|rT<|qR (.agg [.i .i64 (rep),.i .i64 (num),.s (sku),.i .i64 (qty)]) (.eq ?g0);rotate_left
 case g0=>rfl
theorem con16 :Con Tryz.prog 16 [] (.agg (c29 B9)) :=
 by
 refine sC B1 [.cell 0 29] 8 Tryz.func16 ?_
 intro e0 cx
 refine sq<|rG cx [0] [0] z0<|sn<|sq<|rG cx [0] [0] (fT (B7r ((0:Int)) ((1:Int)) ({ data:=#[(65:UInt8)]:ByteArray }) ((5:Int))) (fT (B7r ((0:Int)) ((2:Int)) ({ data:=#[(66:UInt8)]:ByteArray }) ((2:Int))) (fT (B7r ((1:Int)) ((1:Int)) ({ data:=#[(65:UInt8)]:ByteArray }) ((1:Int))) (oA 0 (.agg [.i .i64 ((0:Int)),.i .i64 ((1:Int)),.s ((A8u (0:Int) (1:Int) { data:=#[(65:UInt8)]:ByteArray } (5:Int)).sku),.i .i64 ((5:Int))]) (oA 1 (.agg [.i .i64 ((0:Int)),.i .i64 ((2:Int)),.s ((A8u (0:Int) (2:Int) { data:=#[(66:UInt8)]:ByteArray } (2:Int)).sku),.i .i64 ((2:Int))]) (oA 2 (.agg [.i .i64 ((1:Int)),.i .i64 ((1:Int)),.s ((A8u (1:Int) (1:Int) { data:=#[(65:UInt8)]:ByteArray } (1:Int)).sku),.i .i64 ((1:Int))]) z0))))))<|sn<|rT<|qR (.agg [.sl (List.map c45 [{ dot:={ rep:=(0:Int),num:=(1:Int):Dot },sku:=(A8u (0:Int) (1:Int) { data:=#[(65:UInt8)]:ByteArray } (5:Int)).sku,qty:=(5:Int):Entry },{ dot:={ rep:=(0:Int),num:=(2:Int):Dot },sku:=(A8u (0:Int) (2:Int) { data:=#[(66:UInt8)]:ByteArray } (2:Int)).sku,qty:=(2:Int):Entry },{ dot:={ rep:=(1:Int),num:=(1:Int):Dot },sku:=(A8u (1:Int) (1:Int) { data:=#[(65:UInt8)]:ByteArray } (1:Int)).sku,qty:=(1:Int):Entry }]),.sl (List.map c3 [(1:Int)]),.nl,.nl]) (B8.agg (ZLe.cons (B8.eq (show AV.sl (List.map c45 [{ dot:={ rep:=(0:Int),num:=(1:Int):Dot },sku:=(A8u (0:Int) (1:Int) { data:=#[(65:UInt8)]:ByteArray } (5:Int)).sku,qty:=(5:Int):Entry },{ dot:={ rep:=(0:Int),num:=(2:Int):Dot },sku:=(A8u (0:Int) (2:Int) { data:=#[(66:UInt8)]:ByteArray } (2:Int)).sku,qty:=(2:Int):Entry },{ dot:={ rep:=(1:Int),num:=(1:Int):Dot },sku:=(A8u (1:Int) (1:Int) { data:=#[(65:UInt8)]:ByteArray } (1:Int)).sku,qty:=(1:Int):Entry }])=AV.sl (List.map c45 B9.adds)from ?g1)) (ZLe.cons (B8.eq (show AV.sl (List.map c3 [(1:Int)])=AV.sl (List.map c3 B9.gone.vec)from ?g0)) (ZLe.cons B8.nl (ZLe.cons B8.nl ZLe.nil)))));rotate_left 2
 all_goals rfl
theorem con17 :Con Tryz.prog 17 [] (.agg (c29 I4)) :=
 by
 refine sC B1 [.cell 0 29] 6 Tryz.func17 ?_
 intro e0 cx
 refine sq<|rG cx [0] [0] z0<|sn<|sq<|rG cx [0] [0] z0<|sn<|rT<|qR (.agg [.nl,.nl,.nl,.sl [[.s ({ data:=#[(65:UInt8)]:ByteArray }),.sl (List.map c3 [(0:Int),(2:Int)]),.nl]]]) (B8.agg (ZLe.cons B8.nl (ZLe.cons B8.nl (ZLe.cons B8.nl (ZLe.cons (show B8 (AV.sl [[AV.s { data:=#[(65:UInt8)]:ByteArray },AV.sl (List.map c3 [(0:Int),(2:Int)]),AV.nl]]) (AV.sl (List.map c81 I4.recs))from ?g0) ZLe.nil)))));rotate_left
 case g0 =>
  refine Bi9 rfl fun j x y hx hy=>?_
  match j with
  | 0 =>
   simp only [List.getElem?_cons_zero,Option.some.injEq]at hx
   subst hx
   have hy:y=[AV.s ⟨#[65]⟩,AV.sl (List.map c3 [0,2]),AV.sl []]:=by
    have:some (c81 ⟨⟨#[65]⟩,⟨[0,2],[]⟩⟩)=some y:=hy
    exact(Option.some.inj this).symm
   subst hy
   exact ZLe.cons (B8.refl _) (ZLe.cons (B8.refl _) (ZLe.cons B8.nl ZLe.nil))
  | j+1=>simp at hx
end Go.Proofs.YtaiepnaokhpmcaaGreat
namespace Go.Proofs.YtaiepnaokhpmcaaGreat
open Go.E
set_option maxRecDepth 100000
set_option maxHeartbeats 4000000
def A2l(r:Record)(e:Entry):Bool:=decide (r.sku=noneS∨r.sku=e.sku) && C5 r.past e.dot
def G3(rs:List Record)(e:Entry):Int:=(rs.filter fun r=>A2l r e).length
def M2(r:Record)(rs:List Record):List Record:=r :: rs.takeWhile fun x=>decide (x.sku=r.sku)
def A67(r:Record)(rs:List Record):List Record:=rs.dropWhile fun x=>decide (x.sku=r.sku)
theorem Ae5(r:Record)(rs:List Record):(A67 r rs).length≤rs.length:=(List.dropWhile_sublist _).length_le
noncomputable def A58(all:Past)(r:Record)(rs:List Record):Past:=if r.sku=noneS then D3 ((M2 r rs).map fun x=>x.past)else D5 (D3 ((M2 r rs).map fun x=>x.past)) all
noncomputable def allG(all:Past)(r:Record)(rs:List Record):Past:=if r.sku=noneS then D3 ((M2 r rs).map fun x=>x.past)else all
noncomputable def X8(all:Past)(out:List Record):List Record→List Record
 | []=>out
 | r :: rs=>X8 (allG all r rs) (if E3 (A58 all r rs)=0 then out else out++[⟨r.sku,A58 all r rs⟩]) (A67 r rs)
termination_by l=>l.length
decreasing_by
 have:=Ae5 r rs
 simp only [List.length_cons]
 omega
noncomputable def R2(rs:List Record):List Record×Int:=if G9 rs=0 then(X8 ⟨[],[]⟩ [] rs,0)else([],1)
theorem A59(all:Past)(out:List Record):X8 all out []=out:=by rw[X8]
theorem A73(all:Past)(out:List Record)(r:Record)(rs:List Record):X8 all out (r :: rs)=X8 (allG all r rs) (if E3 (A58 all r rs)=0 then out else out++[⟨r.sku,A58 all r rs⟩]) (A67 r rs):=by rw[X8]
theorem B09(r:Record)(rs:List Record):M2 r rs++A67 r rs=r :: rs:=by
 unfold M2 A67
 rw[List.cons_append,List.takeWhile_append_dropWhile]
theorem Au2{α:Type}{p:α→Bool}{x:α}:∀ {l:List α},x∈l.takeWhile p→p x=true
 | [],h=>by cases h
 | y :: l,h=>by
  rw[List.takeWhile_cons]at h
  split at h
  ·rcases List.mem_cons.1 h with rfl | h
   ·assumption
   ·exact Au2 h
  ·cases h
theorem Ae6{r:Record}{rs:List Record}{x:Record}(h:x∈M2 r rs):x.sku=r.sku:=by
 unfold M2 at h
 rcases List.mem_cons.1 h with rfl | h
 ·rfl
 ·have:=Au2 h
  simpa using this
theorem A18{r:Record}{e:Entry}:A2l r e=true↔(r.sku=noneS∨r.sku=e.sku)∧C5 r.past e.dot=true:=by
 unfold A2l
 rw[Bool.and_eq_true,decide_eq_true_iff]
theorem B7s(e:Entry):∀(n:Nat) (l:List Record),l.length≤n→∀(all:Past) (out:List Record),(∀ d,C5 all d=true→∃ r∈out,r.sku=noneS∧C5 r.past d=true) →
  ((∃ r∈X8 all out l,A2l r e=true)↔(∃ r∈out,A2l r e=true)∨∃ r∈l,A2l r e=true):=by
 intro n
 induction n with
 | zero =>
  intro l hl all out _
  have:l=[]:=List.eq_nil_of_length_eq_zero (by omega)
  subst this
  rw[A59]
  simp
 | succ n ih =>
  intro l hl all out hP
  cases l with
  | nil=>rw[A59];simp
  | cons r rs =>
   have hlen:=Ae5 r rs
   simp only [List.length_cons]at hl
   have hj:∀ d,C5 (D3 ((M2 r rs).map fun x=>x.past)) d=true↔∃ x∈M2 r rs,C5 x.past d=true:=fun d=>by
    rw[A8b,List.any_map,List.any_eq_true]
    simp only [Function.comp]
   have hg:(∃ x∈M2 r rs,A2l x e=true)↔(r.sku=noneS∨r.sku=e.sku)∧C5 (D3 ((M2 r rs).map fun x=>x.past)) e.dot=true:=by
    rw[hj]
    constructor
    ·rintro⟨x,hx,h⟩
     obtain⟨h1,h2⟩:=A18.1 h
     rw[Ae6 hx]at h1
     exact⟨h1,x,hx,h2⟩
    ·rintro⟨h1,x,hx,h2⟩
     exact⟨x,hx,A18.2 ⟨by rw[Ae6 hx];exact h1,h2⟩⟩
   have hs:(∃ x∈r :: rs,A2l x e=true)↔(∃ x∈M2 r rs,A2l x e=true)∨∃ x∈A67 r rs,A2l x e=true:=by
    rw[← B09 r rs]
    constructor
    ·rintro⟨x,hx,h⟩
     rcases List.mem_append.1 hx with hx | hx
     ·exact .inl ⟨x,hx,h⟩
     ·exact .inr ⟨x,hx,h⟩
    ·rintro(⟨x,hx,h⟩ | ⟨x,hx,h⟩)
     ·exact⟨x,List.mem_append.2 (.inl hx),h⟩
     ·exact⟨x,List.mem_append.2 (.inr hx),h⟩
   -- what the group's own record covers,beside what was there
   have own:∀ q:Past,(r.sku=noneS→∀ d,C5 q d=C5 (D3 ((M2 r rs).map fun x=>x.past)) d)→(¬ r.sku=noneS→∀ d,C5 q d=(C5 (D3 ((M2 r rs).map fun x=>x.past)) d && !C5 all d)) →
     ((∃ x∈(if E3 q=0 then out else out++[⟨r.sku,q⟩]),A2l x e=true)↔(∃ x∈out,A2l x e=true)∨∃ x∈M2 r rs,A2l x e=true):=by
    intro q hq1 hq2
    have hmem:(∃ x∈(if E3 q=0 then out else out++[⟨r.sku,q⟩]),A2l x e=true)↔(∃ x∈out,A2l x e=true)∨((r.sku=noneS∨r.sku=e.sku)∧C5 q e.dot=true):=by
     split
     ·rename_i h0
      have:=(A0j q).1 h0 e.dot
      rw[this]
      simp
     ·constructor
      ·rintro⟨x,hx,h⟩
       rcases List.mem_append.1 hx with hx | hx
       ·exact .inl ⟨x,hx,h⟩
       ·have:x=⟨r.sku,q⟩:=by simpa using hx
        subst this
        exact .inr (A18.1 h)
      ·rintro(⟨x,hx,h⟩ | h)
       ·exact⟨x,by simp [hx],h⟩
       ·exact⟨⟨r.sku,q⟩,by simp,A18.2 h⟩
    rw[hmem,hg]
    by_cases hn:r.sku=noneS
    ·rw[hq1 hn]
    ·rw[hq2 hn,Bool.and_eq_true,Bool.not_eq_true']
     constructor
     ·rintro(h | h)
      ·exact .inl h
      ·exact .inr ⟨h.1,h.2.1⟩
     ·rintro(h | ⟨h1,h2⟩)
      ·exact .inl h
      ·cases ha:C5 all e.dot with
       | false=>exact .inr ⟨h1,h2,rfl⟩
       | true =>
        obtain⟨x,hx,k1,k2⟩:=hP _ ha
        exact .inl ⟨x,hx,A18.2 ⟨.inl k1,k2⟩⟩
   rw[A73,ih (A67 r rs) (by omega) _ _ ?_,own (A58 all r rs) ?_ ?_,hs,or_assoc]
   ·intro hn d
    unfold A58
    rw[if_pos hn]
   ·intro hn d
    unfold A58
    rw[if_neg hn,A8a]
   ·intro d hd
    unfold allG at hd
    by_cases hn:r.sku=noneS
    ·rw[if_pos hn]at hd
     have hq:A58 all r rs=D3 ((M2 r rs).map fun x=>x.past):=by unfold A58;rw[if_pos hn]
     have h0:¬ E3 (A58 all r rs)=0:=fun h0=>by
      have:=(A0j _).1 h0 d
      rw[hq,hd]at this
      cases this
     rw[if_neg h0]
     exact⟨⟨r.sku,A58 all r rs⟩,by simp,hn,by rw[hq];exact hd⟩
    ·rw[if_neg hn]at hd
     obtain⟨x,hx,k⟩:=hP d hd
     split
     ·exact⟨x,hx,k⟩
     ·exact⟨x,by simp [hx],k⟩
theorem Z9{rs:List Record}{e:Entry}:G3 rs e=0↔¬ ∃ r∈rs,A2l r e=true:=by
 unfold G3
 constructor
 ·rintro h ⟨r,hr,k⟩
  have:0 <(rs.filter fun r=>A2l r e).length:=List.length_pos_iff.2 (List.ne_nil_of_mem (List.mem_filter.2 ⟨hr,k⟩))
  omega
 ·intro h
  have:rs.filter (fun r=>A2l r e)=[]:=List.filter_eq_nil_iff.2 fun r hr k=>h ⟨r,hr,k⟩
  rw[this];rfl
theorem B42(rs:List Record)(e:Entry):G3 (X8 ⟨[],[]⟩ [] rs) e=0↔G3 rs e=0:=by
 rw[Z9,Z9,B7s e rs.length rs (Nat.le_refl _) _ _ (fun d h=>by rw[A3v]at h;cases h)]
 simp
noncomputable def M5(es:List Entry)(rs:List Record):List Entry×Int:=if E5 es=0∧G9 rs=0 then(es.filter fun e=>decide (G3 rs e=0),0)else([],1)
def A2m(rs:List Record):Nat:=(rs.map fun r=>r.past.cloud.length+1).sum
def tokR(rs:List Record):Prop:=A2m rs*16≤140737488350000∧rs.length*64≤140737488350000
end Go.Proofs.YtaiepnaokhpmcaaGreat
namespace Go.Proofs.YtaiepnaokhpmcaaGreat
open Go.E
set_option maxRecDepth 100000
set_option maxHeartbeats 4000000
def Ae7(rs:List Record)(e:Entry)(n i r m:Int)(s:ByteArray)(q:Int):Prop:=r=e.dot.rep∧m=e.dot.num∧s=e.sku∧q=e.qty∧0≤i∧i≤rs.length∧0≤n∧n≤i∧n=G3 (rs.take i.toNat) e
def decBr(rs:List Record)(n i r m:Int)(s:ByteArray)(q:Int):Nat:=(rs.length-i).toNat
def Bj0(rs:List Record)(i:Int)(all:Past)(out:List Record):Prop:=X8 all out (rs.drop i.toNat)=X8 ⟨[],[]⟩ [] rs
def B0a(rs:List Record)(i:Int)(v:List Int)(c:List Span)(out:List Record):Prop:=0≤i∧i≤rs.length∧(out.length:Int)≤i∧c.length≤8000000000∧Bj0 rs i ⟨v,c⟩ out∧(∀ r∈out,r.past=A5 r.past)
def decFo(rs:List Record)(i:Int)(v:List Int)(c:List Span)(out:List Record):Nat:=(rs.length-i).toNat
def Ba0(rs:List Record)(i j:Int)(ps:List Past):Prop:=ps=((rs.drop i.toNat).take (j-i).toNat).map (fun x=>x.past)∧∀ k:Nat,i≤k→(k:Int) < j→rs[k]!.sku=rs[i.toNat]!.sku
def Bj1(rs:List Record)(i:Int)(v0:List Int)(c0:List Span)(o0:List Record)(j:Int)(v:List Int)(c:List Span)(o:List Record)(ps:List Past):Prop:=v=v0∧c=c0∧o=o0∧i≤j∧j≤rs.length∧Ba0 rs i j ps
def decGr(rs:List Record)(j:Int)(v:List Int)(c:List Span)(o:List Record)(ps:List Past):Nat:=(rs.length-j).toNat
def B7t(es:List Entry)(bars:List Record)(i:Int)(out:List Entry):Prop:=0≤i∧i≤es.length∧(out.length:Int)≤i∧out=(es.take i.toNat).filter fun e=>decide (G3 bars e=0)
def decAp(es:List Entry)(i:Int)(out:List Entry):Nat:=(es.length-i).toNat
theorem Au3{α:Type}[Inhabited α](p:α→Bool):∀(l:List α) (n:Nat),n≤l.length→(∀ k:Nat,k < n→p l[k]! = true)→(n < l.length→p l[n]! = false)→l.takeWhile p=l.take n∧l.dropWhile p=l.drop n
 | [],n,hn,_,_=>by simp
 | x :: l,0,_,_,h=>by
  have:=h (by simp)
  have hx:p x=false:=this
  simp [List.takeWhile_cons,List.dropWhile_cons,hx]
 | x :: l,n+1,hn,h,hx=>by
  have h0:p x=true:=h 0 (by omega)
  have ih:=Au3 p l n (by simpa using hn) (fun k hk=>by have:=h (k+1) (by omega);simpa using this) (fun hl=>by have:=hx (by simpa using hl);simpa using this)
  simp [List.takeWhile_cons,List.dropWhile_cons,h0,ih.1,ih.2]
theorem Bj2{α:Type}[Inhabited α]{a:List α}{i:Int}(h0:0≤i)(h:i < a.length):a.drop i.toNat=a[i.toNat]! :: a.drop (i+1).toNat:=by
 rw[show(i+1).toNat=i.toNat+1 by omega,getElem!_pos a i.toNat (by omega)]
 exact List.drop_eq_getElem_cons (by omega)
theorem Ae8{α:Type}[Inhabited α]{a:List α}{i k:Nat}(h:i+k < a.length):(a.drop i)[k]! = a[i+k]!:=by
 rw[getElem!_pos (a.drop i) k (by rw[List.length_drop];omega),getElem!_pos a (i+k) h,List.getElem_drop]
theorem A2d{rs:List Record}{i j:Int}{ps:List Past}(h0:0≤i)(hi:i < rs.length)(hij:i≤j)(hj:j≤rs.length)(he:¬(j < rs.length∧rs[j.toNat]!.sku=rs[i.toNat]!.sku))(h:Ba0 rs i j ps) :
  i < j∧ps=(M2 rs[i.toNat]! (rs.drop (i+1).toNat)).map (fun x=>x.past)∧rs.drop j.toNat=A67 rs[i.toNat]! (rs.drop (i+1).toNat):=by
 have hlt:i < j:=by
  apply Classical.byContradiction
  intro k
  have:j=i:=by omega
  subst this
  exact he ⟨hi,rfl⟩
 have hw:=Au3 (fun x:Record=>decide (x.sku=rs[i.toNat]!.sku)) (rs.drop i.toNat) (j-i).toNat (by rw[List.length_drop];omega) (fun k hk=>by
  rw[Ae8 (by omega),decide_eq_true_iff]
  exact h.2 (i.toNat+k) (by omega) (by omega)) (fun hl=>by
  rw[List.length_drop]at hl
  rw[Ae8 (by omega),decide_eq_false_iff_not,show i.toNat+(j-i).toNat=j.toNat by omega]
  exact fun k=>he ⟨by omega,k⟩)
 have e1:M2 rs[i.toNat]! (rs.drop (i+1).toNat)=(rs.drop i.toNat).takeWhile fun x=>decide (x.sku=rs[i.toNat]!.sku):=by
  rw[Bj2 h0 hi,List.takeWhile_cons]
  simp [M2]
 have e2:A67 rs[i.toNat]! (rs.drop (i+1).toNat)=(rs.drop i.toNat).dropWhile fun x=>decide (x.sku=rs[i.toNat]!.sku):=by
  rw[Bj2 h0 hi,List.dropWhile_cons]
  simp [A67]
 refine⟨hlt,?_,?_⟩
 ·rw[e1,hw.1];exact h.1
 ·rw[e2,hw.2,List.drop_drop,show i.toNat+(j-i).toNat=j.toNat by omega]
theorem A8v{rs:List Record}{i j:Int}{ps:List Past}{all:Past}{out:List Record}(h0:0≤i)(hi:i < rs.length)(hij:i≤j)(hj:j≤rs.length)(he:¬(j < rs.length∧rs[j.toNat]!.sku=rs[i.toNat]!.sku))(h:Ba0 rs i j ps)(hf:Bj0 rs i all out) :
  Bj0 rs j (if rs[i.toNat]!.sku=noneS then D3 ps else all) (if E3 (if rs[i.toNat]!.sku=noneS then D3 ps else D5 (D3 ps) all)=0 then out else out++[⟨rs[i.toNat]!.sku,if rs[i.toNat]!.sku=noneS then D3 ps else D5 (D3 ps) all⟩]):=by
 obtain⟨_,e1,e2⟩:=A2d h0 hi hij hj he h
 unfold Bj0 at *
 rw[← hf,Bj2 h0 hi,A73,e2,e1]
 rfl
theorem A8w(a b:List Record):A2m (a++b)=A2m a+A2m b:=by simp [A2m]
theorem Bj3(a:List Record):a.length≤A2m a:=by
 induction a with
 | nil=>simp [A2m]
 | cons r a ih=>simp only [A2m,List.map_cons,List.sum_cons,List.length_cons]at *;omega
theorem B7u(l:List Record):A15 (l.map fun x=>x.past)=A2m l:=by simp [A15,A2m,Function.comp_def]
theorem gr_tot{rs:List Record}{i j:Int}{ps:List Past}(h:Ba0 rs i j ps):A15 ps≤A2m rs:=by
 rw[h.1,B7u]
 have h1:=A8w (rs.take i.toNat) (rs.drop i.toNat)
 rw[List.take_append_drop]at h1
 have h2:=A8w ((rs.drop i.toNat).take (j-i).toNat) ((rs.drop i.toNat).drop (j-i).toNat)
 rw[List.take_append_drop]at h2
 omega
theorem Ba1{rs:List Record}{i j:Int}{ps:List Past}(h:Ba0 rs i j ps):(ps.length:Int)≤(j-i).toNat:=by
 rw[h.1,List.length_map,List.length_take]
 omega
theorem Bj4{rs:List Record}{i j:Int}{ps:List Past}(h0:0≤i)(hij:i≤j)(hj:j < rs.length)(hs:rs[j.toNat]!.sku=rs[i.toNat]!.sku)(h:Ba0 rs i j ps):Ba0 rs i (j+1) (ps++[rs[j.toNat]!.past]):=by
 refine⟨?_,fun k hk1 hk2=>?_⟩
 ·rw[h.1,show(j+1-i).toNat=(j-i).toNat+1 by omega,List.take_succ_eq_append_getElem (by rw[List.length_drop];omega),List.map_append]
  congr 1
  have hjn:i.toNat+(j-i).toNat < rs.length:=by omega
  have:(rs.drop i.toNat)[(j-i).toNat]'(by rw[List.length_drop];omega)=rs[j.toNat]!:=by
   rw[List.getElem_drop,getElem!_pos rs j.toNat (by omega)]
   congr 1
   omega
  simp only [List.map_cons,List.map_nil,this]
 ·by_cases e:k=j.toNat
  ·rw[e];exact hs
  ·exact h.2 k hk1 (by omega)
theorem A00{p:Past}(h:p=A5 p):p.cloud.length≤8000000000:=by
 rw[h]
 exact(N5 _).1
theorem A8x(ps:List Past):(D3 ps).cloud.length≤8000000000:=(N5 _).1
theorem B7v(a b:Past):(D5 a b).cloud.length≤8000000000:=(N5 fun r=>A89 (B5 [a] r) (B5 [b] r)).1
theorem Ba2{rs:List Record}{i:Int}{all:Past}{out:List Record}(hi:¬ i < rs.length)(h:Bj0 rs i all out):out=X8 ⟨[],[]⟩ [] rs:=by
 unfold Bj0 at h
 rw[List.drop_of_length_le (by omega),A59]at h
 exact h
theorem Au4{out:List Record}{b:Go.E.Blk}{n m:Nat}(hb:b.k=.row m (out.map c81))(h:0 <(out.length:Int))(hn:n=0):Go.E.rowAt b n (c81 out[0]!):=by
 unfold Go.E.rowAt
 rw[hb,hn]
 cases out with
 | nil=>simp at h
 | cons x l=>rfl
theorem B43{es:List Entry}{B:List Record}{i:Int}{o:List Entry}(h0:0≤i)(hi:i < es.length)(ho:o=(es.take i.toNat).filter fun e=>decide (G3 B e=0)) :
  (es.take (i+1).toNat).filter (fun e=>decide (G3 B e=0))=o++if G3 B es[i.toNat]! = 0 then[es[i.toNat]!]else[]:=by
 rw[← D9 h0 hi,List.filter_append,ho]
 congr 1
 generalize es[i.toNat]! = x
 split
 ·rename_i h;simp [List.filter_cons,h]
 ·rename_i h;simp [List.filter_cons,h]
theorem Bj5(es:List Entry)(rs:List Record):es.filter (fun e=>decide (G3 (X8 ⟨[],[]⟩ [] rs) e=0))=es.filter fun e=>decide (G3 rs e=0) :=
 List.filter_congr fun e _=>decide_eq_decide.2 (B42 rs e)
theorem Ba3(r:Record)(hb:szR r):Con Tryz.prog 157 [.agg (c81 r)] (.agg (c81 ⟨r.sku,A5 r.past⟩)) :=
 by
 refine sC B1 [.cell 2 81] 9 Tryz.func157 ?_
 intro e0 cx
 refine sq<|rG cx [1,2] [1,2] z0<|sn<|sq<|rA cx [2] [2] (fT (Ab7 (r.past) ?g0) (oA 4 (.agg [.sl (List.map c3 (A5 r.past).vec),.sl (List.map B7 (A5 r.past).cloud)]) z0)) ?_;rotate_left
 refine sn<|rT<|qR (.agg [.s (r.sku),.sl (List.map c3 (A5 r.past).vec),.sl (List.map B7 (A5 r.past).cloud)]) (.eq ?g1);rotate_left
 case g0=>exact hb
 case g1=>exact rfl
theorem con158(r:Record)(e:Entry):Con Tryz.prog 158 [.agg (c81 r),.agg (c45 e)] (.b (A2l r e)) :=
 by
 refine sC B1 [.tmp 4] 22 Tryz.func158 ?_
 intro e0 cx
 refine sq<|rG cx [2,3] [2,3] z0<|sn<|sq<|B4 (σ':=⟨[(4,.b (decide (r.sku={ data:=#[]:ByteArray }∧C5 r.past e.dot=true∨¬r.sku={ data:=#[]:ByteArray }∧r.sku=e.sku∧C5 r.past e.dot=true)))],[]⟩) ?_ ?_
 refine A4 (r.sku={ data:=#[]:ByteArray }) (fun h_1=>?_) (fun h_1=>?_)
 refine rG cx [4] [] (tT 2 (A1k h_1:AV.b (r.sku.toList == { data:=#[]:ByteArray }.toList)=AV.b true) (fT (B2h (r.past) (e.dot)) (tD 17 (C5 r.past e.dot) (r.sku={ data:=#[]:ByteArray }∧C5 r.past e.dot=true∨¬r.sku={ data:=#[]:ByteArray }∧r.sku=e.sku∧C5 r.past e.dot=true) (by simp only [eq_true h_1,tsl]) (oA 15 (.b (C5 r.past e.dot)) z0)))) ?_
 exact⟨rfl,by kernel_rfl⟩
 refine A4 (r.sku=e.sku) (fun h_2=>?_) (fun h_2=>?_)
 refine rG cx [4] [] (tT 2 (U8 h_1:AV.b (r.sku.toList == { data:=#[]:ByteArray }.toList)=AV.b false) (tT 8 (A1k h_2:AV.b (r.sku.toList == e.sku.toList)=AV.b true) (fT (B2h (r.past) (e.dot)) (tD 17 (C5 r.past e.dot) (r.sku={ data:=#[]:ByteArray }∧C5 r.past e.dot=true∨¬r.sku={ data:=#[]:ByteArray }∧r.sku=e.sku∧C5 r.past e.dot=true) (by simp only [eq_false h_1,eq_true h_2,tsl]) (oA 15 (.b (C5 r.past e.dot)) z0))))) ?_
 exact⟨rfl,by kernel_rfl⟩
 refine rG cx [4] [] (tT 2 (U8 h_1:AV.b (r.sku.toList == { data:=#[]:ByteArray }.toList)=AV.b false) (tT 8 (U8 h_2:AV.b (r.sku.toList == e.sku.toList)=AV.b false) (tD 17 false (r.sku={ data:=#[]:ByteArray }∧C5 r.past e.dot=true∨¬r.sku={ data:=#[]:ByteArray }∧r.sku=e.sku∧C5 r.past e.dot=true) (by simp only [eq_false h_1,eq_false h_2,tsl]) z0))) ?_
 exact⟨rfl,by kernel_rfl⟩
 refine sn<|rT<|qR (.b (decide (r.sku={ data:=#[]:ByteArray }∧C5 r.past e.dot=true∨¬r.sku={ data:=#[]:ByteArray }∧r.sku=e.sku∧C5 r.past e.dot=true))) (.eq ?g0);rotate_left
 case g0 =>
  refine congrArg AV.b ?_
  rw[Bool.eq_iff_iff,A18,decide_eq_true_iff]
  show(r.sku=noneS∧_∨¬ r.sku=noneS∧_)↔_
  by_cases c:r.sku=noneS <;> simp [c]
theorem con117(rs:List Record)(e:Entry):Con Tryz.prog 117 [.sl (rs.map c81),.agg (c45 e)] (.i .i64 (G3 rs e)) :=
 by
 have st:∀ {i:Int},0≤i→i < rs.length→G3 (rs.take (i+1).toNat) e=G3 (rs.take i.toNat) e+if A2l rs[i.toNat]! e=true then 1 else 0:=by
  intro i h0 h1
  unfold G3
  rw[← D9 h0 h1,List.filter_append,List.length_append]
  generalize rs[i.toNat]! = x
  split
  ·rename_i h;simp [List.filter_cons,h]
  ·rename_i h;simp [List.filter_cons,h]
 refine lN 0 c81 (rs) Tryz.func117 fun hl_0=>sC B1 [.tmp 4] 21 Tryz.func117 ?_
 intro e0 cx
 refine sq<|rG cx [0,3] [3] z0<|sn<|sq<|rG cx [0,3,5] [3] z0<|sn<|sq<|sq<|rG cx [3,5,8,9,10] [3] (tL 1 c81 rs z0)<|sn<|bL 0<|sL (X:=Int×Int×Int×Int×ByteArray×Int) (fun x=>⟨[(3,.ptr (3) (0) (0) (0)),(5,.i .i64 (x.1)),(8,.sl (List.map c81 rs)),(9,.i .i64 ((↑rs.length:Int))),(10,.i .i64 (x.2.1))],[(3,⟨0,45,.var [.i .i64 (x.2.2.1),.i .i64 (x.2.2.2.1),.s (x.2.2.2.2.1),.i .i64 (x.2.2.2.2.2)]⟩)]⟩) (fun x ↦ decBr rs x.1 x.2.1 x.2.2.1 x.2.2.2.1 x.2.2.2.2.1 x.2.2.2.2.2) (fun x ↦ Ae7 rs e x.1 x.2.1 x.2.2.1 x.2.2.2.1 x.2.2.2.2.1 x.2.2.2.2.2) [3,5,8,9,10] [3] (((0:Int),(0:Int),e.dot.rep,e.dot.num,e.sku,e.qty)) (show Ae7 rs e (0:Int) (0:Int) e.dot.rep e.dot.num e.sku e.qty from(by exact⟨rfl,rfl,rfl,rfl,by omega,by omega,by omega,by omega,by simp [G3]⟩)) ?_
 rintro⟨n0,i1,r2,m3,s4,q5⟩ h_6
 obtain⟨hh7,hh8,hh9,hh10,h11,h12,h13,h14,h15⟩:r2=e.dot.rep∧m3=e.dot.num∧s4=e.sku∧q5=e.qty∧0≤i1∧i1≤(↑rs.length:Int)∧0≤n0∧n0≤i1∧n0=G3 (List.take i1.toNat rs) e:=h_6
 refine rE cx [3,5,8,9,10,11] [3] (zB 0 (i1 <(↑rs.length:Int))) (fun h16=>?_) fun h16=>?_
 refine sK<|sn<|sq<|bL 1<|sq<|rG cx [3,5,8,9,10,7] [3,7] (fA (0≤i1) (fG c81 rs i1.toNat (fR 3 (fN 3 3 (oR 0 (c81 rs[i1.toNat]!) z0)))))<|sn<|sq<|rG cx [3,5,8,9,10,16] [3] (fT (con158 (rs[i1.toNat]!) ({ dot:={ rep:=r2,num:=m3:Dot },sku:=s4,qty:=q5:Entry })) (oA 2 (.b (A2l rs[i1.toNat]! { dot:={ rep:=r2,num:=m3:Dot },sku:=s4,qty:=q5:Entry })) z0))<|sn<|W8 (A2l rs[i1.toNat]! { dot:={ rep:=r2,num:=m3:Dot },sku:=s4,qty:=q5:Entry }) (by kernel_rfl) (by kernel_rfl) (fun h17=>?_) (fun h17=>?_)
 refine rG cx [3,5,8,9,10] [3] (tW 1 (n0+1) z0)<|bN<|sn<|rG cx [3,5,8,9,10] [3] (tW 0 (i1+1) z0)<|sn<|nX ((n0+1,i1+1,r2,m3,s4,q5)) (show((↑rs.length:Int)-(i1+1)).toNat <((↑rs.length:Int)-i1).toNat from(by omega)) (show Ae7 rs e (n0+1) (i1+1) r2 m3 s4 q5 from ?g1);rotate_left
 refine sK<|bN<|sn<|rG cx [3,5,8,9,10] [3] (tW 0 (i1+1) z0)<|sn<|nX ((n0,i1+1,r2,m3,s4,q5)) (show((↑rs.length:Int)-(i1+1)).toNat <((↑rs.length:Int)-i1).toNat from(by omega)) (show Ae7 rs e n0 (i1+1) r2 m3 s4 q5 from ?g2);rotate_left
 refine eX 0<|nE<|nE<|bH<|sn<|sq<|rG cx [4] [] z0<|sn<|rT<|qR (.i .i64 (n0)) (.eq (by rw[h15,List.take_of_length_le (by omega)]))
 case g1 =>
  subst hh7 hh8 hh9 hh10
  refine⟨rfl,rfl,rfl,rfl,by omega,by omega,by omega,by omega,?_⟩
  rw[st h11 h16,if_pos h17,h15]
 case g2 =>
  subst hh7 hh8 hh9 hh10
  refine⟨rfl,rfl,rfl,rfl,by omega,by omega,by omega,by omega,?_⟩
  have h17:A2l rs[i1.toNat]! e=false:=h17
  rw[st h11 h16,if_neg (by rw[h17];simp),h15]
  omega
theorem con116(rs:List Record)(hb:Az6 rs)(ht:tokR rs):Con Tryz.prog 116 [.sl (rs.map c81)] (.tup [.sl ((R2 rs).1.map c81),.i .i64 (R2 rs).2]) :=
 by
 have hl:=Bj3 rs
 have ht1:=ht.1
 have ht2:=ht.2
 refine lN 0 c81 (rs) Tryz.func116 fun hl_0=>sC B1 [.tmp 2,.tmp 3] 89 Tryz.func116 ?_
 intro e0 cx
 refine sq<|rG cx [0] [] z0<|sn<|sq<|sq<|rG cx [0,12] [] (fT (Az7 (rs) (by(with_reducible assumption))) (tN 2 (G9 rs) (0:Int) (oA 1 (.i .i64 (G9 rs)) z0)))<|sn<|dC (¬G9 rs=0) (fun hh0=>?_) fun hh0=>?_
 refine sq<|rG cx [2,3] [] z0<|sn<|rT<|nR<|qR (.tup [.nl,.i .i64 ((1:Int))]) (B8.tup (ZLe.cons (B8.nl' (show List.map c81 (R2 rs).1=[]from(by unfold R2;rw[if_neg hh0];rfl))) (ZLe.cons (B8.eq (show AV.i .i64 1=AV.i .i64 (R2 rs).2 from(by unfold R2;rw[if_neg hh0]))) ZLe.nil)))
 refine sK<|sn<|sq<|rG cx [0,4] [4] z0<|sn<|sq<|rG cx [0,4,5] [4] z0<|sn<|sq<|sq<|rG cx [0,4,5,6] [4] z0<|sn<|bL 0<|H8 5 1005 81 3 (σ':=⟨[(0,.sl (List.map c81 rs)),(4,.ptr (4) (0) (0) (0)),(5,.own 1005 0),(6,.i .i64 ((0:Int)))],[(4,⟨0,26,.var [.nl,.nl]⟩),(1005,⟨0,81,.row 3 (List.map c81 [])⟩)]⟩) (by kernel_rfl)<|Ap9 4 0 (σ':=⟨[(0,.sl (List.map c81 rs)),(4,.ptr (4) (0) (0) (0)),(5,.own 1005 0),(6,.i .i64 ((0:Int)))],[(4,⟨0,26,.var [.sl (List.map c3 []),.nl]⟩),(1005,⟨0,81,.row 3 (List.map c81 [])⟩)]⟩) (by kernel_rfl)<|Ap9 4 1 (σ':=⟨[(0,.sl (List.map c81 rs)),(4,.ptr (4) (0) (0) (0)),(5,.own 1005 0),(6,.i .i64 ((0:Int)))],[(4,⟨0,26,.var [.sl (List.map c3 []),.sl (List.map B7 [])]⟩),(1005,⟨0,81,.row 3 (List.map c81 [])⟩)]⟩) (by kernel_rfl)<|sL (X:=Int×List Int×List Span×List Record) (fun x=>⟨[(0,.sl (List.map c81 rs)),(4,.ptr (4) (0) (0) (0)),(5,.own 1005 0),(6,.i .i64 (x.1))],[(4,⟨0,26,.var [.sl (List.map c3 x.2.1),.sl (List.map B7 x.2.2.1)]⟩),(1005,⟨0,81,.row 3 (List.map c81 x.2.2.2)⟩)]⟩) (fun x ↦ decFo rs x.1 x.2.1 x.2.2.1 x.2.2.2) (fun x ↦ B0a rs x.1 x.2.1 x.2.2.1 x.2.2.2) [0,4,5,6] [4,1005] (((0:Int),[],[],[])) (show B0a rs (0:Int) [] [] []from(by exact⟨by omega,by omega,by simp,by simp,rfl,fun r hr=>by cases hr⟩)) ?_
 rintro⟨i1,v2,cc3,o4⟩ h_5
 obtain⟨hh6,hh7,h8,h9,h10,h11⟩:0≤i1∧i1≤(↑rs.length:Int)∧(↑o4.length:Int)≤i1∧cc3.length≤(8000000000:Nat)∧Bj0 rs i1 { vec:=v2,cloud:=cc3:Past } o4∧∀(r:Record),r∈o4→r.past=A5 r.past:=h_5
 refine sq<|rD cx [0,4,5,6,16] [4,1005] (tL 2 c81 rs (zB 3 (i1 <(↑rs.length:Int)))) (fun h12=>?_) fun h12=>?_
 refine sK<|sn<|bL 1<|sq<|rG cx [0,4,5,6,7] [4,1005] z0<|sn<|sq<|rG cx [0,4,5,6,7,8] [4,1005] z0<|sn<|sq<|bL 2<|H8 8 1008 26 2 (σ':=⟨[(0,.sl (List.map c81 rs)),(4,.ptr (4) (0) (0) (0)),(5,.own 1005 0),(6,.i .i64 (i1)),(7,.i .i64 (i1)),(8,.own 1008 0)],[(4,⟨0,26,.var [.sl (List.map c3 v2),.sl (List.map B7 cc3)]⟩),(1005,⟨0,81,.row 3 (List.map c81 o4)⟩),(1008,⟨0,26,.row 2 (List.map c26 [])⟩)]⟩) (by kernel_rfl)<|sL (X:=Int×List Int×List Span×List Record×List Past) (fun x=>⟨[(0,.sl (List.map c81 rs)),(4,.ptr (4) (0) (0) (0)),(5,.own 1005 0),(6,.i .i64 (i1)),(7,.i .i64 (x.1)),(8,.own 1008 0)],[(4,⟨0,26,.var [.sl (List.map c3 x.2.1),.sl (List.map B7 x.2.2.1)]⟩),(1005,⟨0,81,.row 3 (List.map c81 x.2.2.2.1)⟩),(1008,⟨0,26,.row 2 (List.map c26 x.2.2.2.2)⟩)]⟩) (fun x ↦ decGr rs x.1 x.2.1 x.2.2.1 x.2.2.2.1 x.2.2.2.2) (fun x ↦ Bj1 rs i1 v2 cc3 o4 x.1 x.2.1 x.2.2.1 x.2.2.2.1 x.2.2.2.2) [0,4,5,6,7,8] [4,1005,1008] ((i1,v2,cc3,o4,[])) (show Bj1 rs i1 v2 cc3 o4 i1 v2 cc3 o4 []from(by exact⟨rfl,rfl,rfl,by omega,by omega,by simp,fun k hk1 hk2=>by omega⟩)) ?_
 rintro⟨j13,v14,c15,o16,p17⟩ h_18
 obtain⟨h19,h20,h21,h22,h23,h24⟩:v14=v2∧c15=cc3∧o16=o4∧i1≤j13∧j13≤(↑rs.length:Int)∧Ba0 rs i1 j13 p17:=h_18
 refine sq<|sq<|B4 (σ':=⟨[(0,.sl (List.map c81 rs)),(4,.ptr (4) (0) (0) (0)),(5,.own 1005 0),(6,.i .i64 (i1)),(7,.i .i64 (j13)),(8,.own 1008 0),(34,.b (decide (j13 <(↑rs.length:Int)∧rs[j13.toNat]!.sku=rs[i1.toNat]!.sku)))],[(4,⟨0,26,.var [.sl (List.map c3 v14),.sl (List.map B7 c15)]⟩),(1005,⟨0,81,.row 3 (List.map c81 o16)⟩),(1008,⟨0,26,.row 2 (List.map c26 p17)⟩)]⟩) ?_ ?_
 refine A4 (j13 <(↑rs.length:Int)) (fun h_26=>?_) (fun h_26=>?_)
 refine rA cx [0,4,5,6,7,8,34] [4,1005,1008] (tL 2 c81 rs (tT 3 (A6 h_26) (fO (0≤j13) (fG c81 rs j13.toNat (fR 3 (fA (0≤i1) (fG c81 rs i1.toNat (fR 3 (tT 15 (A3r:AV.b (rs[j13.toNat]!.sku.toList == rs[i1.toNat]!.sku.toList)=AV.b (decide (rs[j13.toNat]!.sku=rs[i1.toNat]!.sku))) (tD 16 (decide (rs[j13.toNat]!.sku=rs[i1.toNat]!.sku)) (j13 <(↑rs.length:Int)∧rs[j13.toNat]!.sku=rs[i1.toNat]!.sku) (by simp only [eq_true h_26,tsl]) (oR 7 (c81 rs[j13.toNat]!) (oR 12 (c81 rs[i1.toNat]!) z0)))))))))))) ?_
 exact⟨rfl,by kernel_rfl⟩
 refine rA cx [0,4,5,6,7,8,34] [4,1005,1008] (tL 2 c81 rs (tT 3 (A3 h_26) (tD 16 false (j13 <(↑rs.length:Int)∧rs[j13.toNat]!.sku=rs[i1.toNat]!.sku) (by simp only [eq_false h_26,tsl]) z0))) ?_
 exact⟨rfl,by kernel_rfl⟩
 refine sn<|dC (j13 <(↑rs.length:Int)∧rs[j13.toNat]!.sku=rs[i1.toNat]!.sku) (fun h27=>?_) fun h27=>?_
 refine sK<|sn<|bL 3<|sq<|rG cx [0,4,5,6,7,8] [4,1005,1008] (fO (0≤j13) (fG c81 rs j13.toNat (fR 3 (fN 2 2 (fR 26 (fR 2 (fR 2 (fX c26 [rs[j13.toNat]!.past] 2 (fP ((List.map c26 p17).length+(List.map c26 [rs[j13.toNat]!.past]).length≤maxLen) (by have:=Ba1 h24;simp only [List.length_map,List.length_cons,List.length_nil,Go.maxLen];omega) (fP (((List.map c26 p17).length+(List.map c26 [rs[j13.toNat]!.past]).length)*(48:Nat)≤(140737488355328:Nat)) (by have:=Ba1 h24;simp only [List.length_map,List.length_cons,List.length_nil];omega) (fM c26 p17 [rs[j13.toNat]!.past] (oR 3 (c81 rs[j13.toNat]!) (oV 7 { rows:=some (List.map c26 (p17++[rs[j13.toNat]!.past])) } z0))))))))))))) ?_
 refine sn<|rG cx [0,4,5,6,7,8] [4,1005,1008] (tW 1 (j13+1) z0)<|bN<|sn<|nX ((j13+1,v14,c15,o16,p17++[rs[j13.toNat]!.past])) (show((↑rs.length:Int)-(j13+1)).toNat <((↑rs.length:Int)-j13).toNat from(by omega)) (show Bj1 rs i1 v2 cc3 o4 (j13+1) v14 c15 o16 (p17++[rs[j13.toNat]!.past])from(by exact⟨h19,h20,h21,by omega,by omega,Bj4 hh6 h22 h27.1 h27.2 h24⟩))
 refine eX 2<|nE<|nE<|bH<|sn<|sq<|rA cx [0,4,5,7,9] [4,1005,9] (fA (0≤i1) (fG c81 rs i1.toNat (fR 3 (fT (Bh2 (p17) (by have:=gr_tot h24;omega)) (oR 2 (c81 rs[i1.toNat]!) (oA 6 (.agg [.sl (List.map c3 (D3 p17).vec),.sl (List.map B7 (D3 p17).cloud)]) z0)))))) ?_
 refine sn<|sq<|sq<|rG cx [0,4,5,7,9,55] [4,1005,9] (tT 2 (A3r:AV.b (rs[i1.toNat]!.sku.toList == { data:=#[]:ByteArray }.toList)=AV.b (decide (rs[i1.toNat]!.sku={ data:=#[]:ByteArray }))) z0)<|sn<|dC (rs[i1.toNat]!.sku={ data:=#[]:ByteArray }) (fun h28=>?_) fun h28=>?_
 refine rG cx [0,4,5,7,9] [4,1005,9] z0<|sn<|sq<|sq<|rG cx [0,4,5,7,9,66] [4,1005,9] (fT (Az5 (D3 p17) (by have:=A8x p17;omega)) (tQ 3 (E3 (D3 p17)=0) (oA 2 (.b (decide (E3 (D3 p17)=0))) z0))) ?_
 refine sn<|dC (¬E3 (D3 p17)=0) (fun h29=>?_) fun h29=>?_
 refine rG cx [0,4,5,7] [4,1005] (fR 81 (fR 3 (fR 3 (fX c81 [{ sku:=rs[i1.toNat]!.sku,past:=D3 p17:Record }] 3 (fP ((List.map c81 o16).length+(List.map c81 [{ sku:=rs[i1.toNat]!.sku,past:=D3 p17:Record }]).length≤maxLen) (by subst h21;simp only [List.length_map,List.length_cons,List.length_nil,Go.maxLen];omega) (fP (((List.map c81 o16).length+(List.map c81 [{ sku:=rs[i1.toNat]!.sku,past:=D3 p17:Record }]).length)*(64:Nat)≤(140737488355328:Nat)) (by subst h21;simp only [List.length_map,List.length_cons,List.length_nil];omega) (fM c81 o16 [{ sku:=rs[i1.toNat]!.sku,past:=D3 p17:Record }] (oV 3 { rows:=some (List.map c81 (o16++[{ sku:=rs[i1.toNat]!.sku,past:=D3 p17:Record }])) } z0)))))))) ?_
 refine sn<|rG cx [0,4,5,6] [4,1005] z0<|bN<|sn<|nX ((j13,(D3 p17).vec,(D3 p17).cloud,o16++[{ sku:=rs[i1.toNat]!.sku,past:=D3 p17:Record }])) (show((↑rs.length:Int)-j13).toNat <((↑rs.length:Int)-i1).toNat from(by have:=(A2d hh6 h12 h22 h23 h27 h24).1;omega)) (show B0a rs j13 (D3 p17).vec (D3 p17).cloud (o16++[{ sku:=rs[i1.toNat]!.sku,past:=D3 p17:Record }])from ?g12);rotate_left
 refine sK<|sn<|rG cx [0,4,5,6] [4,1005] z0<|bN<|sn<|nX ((j13,(D3 p17).vec,(D3 p17).cloud,o16)) (show((↑rs.length:Int)-j13).toNat <((↑rs.length:Int)-i1).toNat from(by have:=(A2d hh6 h12 h22 h23 h27 h24).1;omega)) (show B0a rs j13 (D3 p17).vec (D3 p17).cloud o16 from ?g14);rotate_left
 refine rG cx [0,4,5,7,9] [4,1005,9] (fT (B9r (D3 p17) ({ vec:=v14,cloud:=c15:Past }) (by have:=A8x p17;omega) (by subst h20;simp only;omega)) (oA 3 (.agg [.sl (List.map c3 (D5 (D3 p17) { vec:=v14,cloud:=c15:Past }).vec),.sl (List.map B7 (D5 (D3 p17) { vec:=v14,cloud:=c15:Past }).cloud)]) z0)) ?_
 refine sn<|sq<|sq<|rG cx [0,4,5,7,9,66] [4,1005,9] (fT (Az5 (D5 (D3 p17) { vec:=v14,cloud:=c15:Past }) (by have:=B7v (D3 p17) ⟨v14,c15⟩;omega)) (tQ 3 (E3 (D5 (D3 p17) { vec:=v14,cloud:=c15:Past })=0) (oA 2 (.b (decide (E3 (D5 (D3 p17) { vec:=v14,cloud:=c15:Past })=0))) z0))) ?_
 refine sn<|dC (¬E3 (D5 (D3 p17) { vec:=v14,cloud:=c15:Past })=0) (fun h30=>?_) fun h30=>?_
 refine rG cx [0,4,5,7] [4,1005] (fR 81 (fR 3 (fR 3 (fX c81 [{ sku:=rs[i1.toNat]!.sku,past:=D5 (D3 p17) { vec:=v14,cloud:=c15:Past }:Record }] 3 (fP ((List.map c81 o16).length+(List.map c81 [{ sku:=rs[i1.toNat]!.sku,past:=D5 (D3 p17) { vec:=v14,cloud:=c15:Past }:Record }]).length≤maxLen) (by subst h21;simp only [List.length_map,List.length_cons,List.length_nil,Go.maxLen];omega) (fP (((List.map c81 o16).length+(List.map c81 [{ sku:=rs[i1.toNat]!.sku,past:=D5 (D3 p17) { vec:=v14,cloud:=c15:Past }:Record }]).length)*(64:Nat)≤(140737488355328:Nat)) (by subst h21;simp only [List.length_map,List.length_cons,List.length_nil];omega) (fM c81 o16 [{ sku:=rs[i1.toNat]!.sku,past:=D5 (D3 p17) { vec:=v14,cloud:=c15:Past }:Record }] (oV 3 { rows:=some (List.map c81 (o16++[{ sku:=rs[i1.toNat]!.sku,past:=D5 (D3 p17) { vec:=v14,cloud:=c15:Past }:Record }])) } z0)))))))) ?_
 refine sn<|rG cx [0,4,5,6] [4,1005] z0<|bN<|sn<|nX ((j13,v14,c15,o16++[{ sku:=rs[i1.toNat]!.sku,past:=D5 (D3 p17) { vec:=v14,cloud:=c15:Past }:Record }])) (show((↑rs.length:Int)-j13).toNat <((↑rs.length:Int)-i1).toNat from(by have:=(A2d hh6 h12 h22 h23 h27 h24).1;omega)) (show B0a rs j13 v14 c15 (o16++[{ sku:=rs[i1.toNat]!.sku,past:=D5 (D3 p17) { vec:=v14,cloud:=c15:Past }:Record }])from ?g21);rotate_left
 refine sK<|sn<|rG cx [0,4,5,6] [4,1005] z0<|bN<|sn<|nX ((j13,v14,c15,o16)) (show((↑rs.length:Int)-j13).toNat <((↑rs.length:Int)-i1).toNat from(by have:=(A2d hh6 h12 h22 h23 h27 h24).1;omega)) (show B0a rs j13 v14 c15 o16 from ?g23);rotate_left
 refine eX 0<|nE<|nE<|bH<|sn<|sq<|sq<|B4 (σ':=⟨[(5,.own 1005 0),(81,.b (decide ((0:Int) <(↑o4.length:Int)∧o4[0]!.sku={ data:=#[]:ByteArray })))],[(1005,⟨0,81,.row 3 (List.map c81 o4)⟩)]⟩) ?_ ?_
 refine A4 ((0:Int) <(↑o4.length:Int)) (fun h32=>?_) (fun h32=>?_)
 refine rG cx [5,81] [1005] (tL 1 c81 o4 (tT 2 (A6 h32) (fO ((0:Int)≤(0:Int)) (fP (Int.toNat (0:Int) <(List.map c81 o4).length) (by(first | omega | (simp only [List.length_map];omega))) (fR 3 (fP (E.rowAt { ver:=0,ty:=81,k:=BK.row (3) (List.map c81 o4):Blk } (0) (c81 o4[0]!)) (by exact Au4 rfl h32 rfl) (tT 8 (A3r:AV.b (o4[0]!.sku.toList == { data:=#[]:ByteArray }.toList)=AV.b (decide (o4[0]!.sku={ data:=#[]:ByteArray }))) (tD 9 (decide (o4[0]!.sku={ data:=#[]:ByteArray })) ((0:Int) <(↑o4.length:Int)∧o4[0]!.sku={ data:=#[]:ByteArray }) (by simp only [eq_true h32,tsl]) (oR 7 (c81 o4[0]!) z0))))))))) ?_
 exact⟨rfl,by kernel_rfl⟩
 refine rG cx [5,81] [1005] (tL 1 c81 o4 (tT 2 (A3 h32) (tD 9 false ((0:Int) <(↑o4.length:Int)∧o4[0]!.sku={ data:=#[]:ByteArray }) (by simp only [eq_false h32,tsl]) z0))) ?_
 exact⟨rfl,by kernel_rfl⟩
 refine sn<|dC ((0:Int) <(↑o4.length:Int)∧o4[0]!.sku={ data:=#[]:ByteArray }) (fun h33=>?_) fun h33=>?_
 refine rG cx [5] [1005] (fO ((0:Int)≤(0:Int)) (fP (Int.toNat (0:Int) <(List.map c81 o4).length) (by(first | omega | (simp only [List.length_map];omega))) (fR 3 (fP (E.rowAt { ver:=0,ty:=81,k:=BK.row (3) (List.map c81 o4):Blk } (0) (c81 o4[0]!)) (by exact Au4 rfl h33.1 rfl) (fP (0+(3:Nat)≤(c81 o4[0]!).length) (by exact Nat.le_refl 3) (fT (Ba3 (o4[0]!) ?g27) (fO ((0:Int)≤(0:Int)) (fP (Int.toNat (0:Int) <(List.map c81 o4).length) (by(first | omega | (simp only [List.length_map];omega))) (fR 3 (fP ((List.map c81 o4)[0]?=some (c81 o4[0]!)) (by((try simp only [Nat.mul_one,Nat.add_zero,Nat.zero_add]);with_reducible refine F7 ?_;omega)) (fR 3 (fP (0+(3:Nat)≤3) (by(first | omega | (simp only [List.length_map];omega))) (fP ((List.map c81 o4).set (0) (List.take (0) (c81 o4[0]!)++E2 (AV.agg [AV.s { sku:=o4[0]!.sku,past:=A5 o4[0]!.past:Record }.sku,AV.sl (List.map c3 { sku:=o4[0]!.sku,past:=A5 o4[0]!.past:Record }.past.vec),AV.sl (List.map B7 { sku:=o4[0]!.sku,past:=A5 o4[0]!.past:Record }.past.cloud)])++List.drop (0+(3:Nat)) (c81 o4[0]!))=List.map c81 (o4.set (0) { sku:=o4[0]!.sku,past:=A5 o4[0]!.past:Record })) (by(with_reducible refine A2q ?_;kernel_rfl)) (oR 3 (c81 o4[0]!) (oA 4 (.agg [.s ({ sku:=o4[0]!.sku,past:=A5 o4[0]!.past:Record }.sku),.sl (List.map c3 { sku:=o4[0]!.sku,past:=A5 o4[0]!.past:Record }.past.vec),.sl (List.map B7 { sku:=o4[0]!.sku,past:=A5 o4[0]!.past:Record }.past.cloud)]) (oV 6 { row:=(c81 o4[0]!),rows:=some (List.map c81 (o4.set (0) { sku:=o4[0]!.sku,past:=A5 o4[0]!.past:Record })) } z0)))))))))))))))) ?_;rotate_left
 refine sn<|sq<|rG cx [2,3] [1005] z0<|sn<|rT<|qR (.tup [.sl (List.map c81 (o4.set (0) { sku:=o4[0]!.sku,past:=A5 o4[0]!.past:Record })),.i .i64 ((0:Int))]) (B8.tup (ZLe.cons (B8.eq (show AV.sl (List.map c81 (o4.set (0) { sku:=o4[0]!.sku,past:=A5 o4[0]!.past:Record }))=AV.sl (List.map c81 (R2 rs).1)from ?g29)) (ZLe.cons (B8.eq (show AV.i .i64 0=AV.i .i64 (R2 rs).2 from(by unfold R2;rw[if_pos (Classical.not_not.1 hh0)]))) ZLe.nil)));rotate_left
 refine sK<|sn<|sq<|rG cx [2,3] [1005] z0<|sn<|rT<|qR (.tup [.sl (List.map c81 o4),.i .i64 ((0:Int))]) (B8.tup (ZLe.cons (B8.eq (show AV.sl (List.map c81 o4)=AV.sl (List.map c81 (R2 rs).1)from ?g31)) (ZLe.cons (B8.eq (show AV.i .i64 0=AV.i .i64 (R2 rs).2 from(by unfold R2;rw[if_pos (Classical.not_not.1 hh0)]))) ZLe.nil)));rotate_left
 case g12 =>
  have k4':rs[i1.toNat]!.sku=noneS:=h28
  have g:=A8v hh6 h12 h22 h23 h27 h24 h10
  have g2:=(A2d hh6 h12 h22 h23 h27 h24).1
  rw[if_pos k4',if_neg (by rw[if_pos k4'];exact h29),if_pos k4']at g
  subst h21
  refine⟨by omega,by omega,by rw[List.length_append,List.length_singleton];omega,A8x p17,g,fun r hr=>?_⟩
  rcases List.mem_append.1 hr with hr | hr
  ·exact h11 r hr
  ·have:r=⟨rs[i1.toNat]!.sku,D3 p17⟩:=by simpa using hr
   subst this
   exact Ab9 p17
 case g14 =>
  have k4':rs[i1.toNat]!.sku=noneS:=h28
  have g:=A8v hh6 h12 h22 h23 h27 h24 h10
  have g2:=(A2d hh6 h12 h22 h23 h27 h24).1
  rw[if_pos k4',if_pos (by rw[if_pos k4'];exact Classical.not_not.1 h29)]at g
  subst h21
  exact⟨by omega,by omega,by omega,A8x p17,g,h11⟩
 case g21 =>
  have k4':¬ rs[i1.toNat]!.sku=noneS:=h28
  have g:=A8v hh6 h12 h22 h23 h27 h24 h10
  have g2:=(A2d hh6 h12 h22 h23 h27 h24).1
  subst h19 h20 h21
  rw[if_neg k4',if_neg (by rw[if_neg k4'];exact h30),if_neg k4']at g
  refine⟨by omega,by omega,by rw[List.length_append,List.length_singleton];omega,h9,g,fun r hr=>?_⟩
  rcases List.mem_append.1 hr with hr | hr
  ·exact h11 r hr
  ·have:r=⟨rs[i1.toNat]!.sku,D5 (D3 p17) ⟨v14,c15⟩⟩:=by simpa using hr
   subst this
   exact A6t _ _
 case g23 =>
  have k4':¬ rs[i1.toNat]!.sku=noneS:=h28
  have g:=A8v hh6 h12 h22 h23 h27 h24 h10
  have g2:=(A2d hh6 h12 h22 h23 h27 h24).1
  subst h19 h20 h21
  rw[if_neg k4',if_pos (by rw[if_neg k4'];exact Classical.not_not.1 h30)]at g
  exact⟨by omega,by omega,by omega,h9,g,h11⟩
 case g27 =>
  have:=A00 (h11 o4[0]! (D6 (by omega)))
  unfold szR
  omega
 case g29 =>
  have e:(⟨o4[0]!.sku,A5 o4[0]!.past⟩:Record)=o4[0]!:=by
   have:=h11 o4[0]! (D6 (by omega))
   generalize o4[0]! = r at *
   cases r
   simp only at this
   rw[← this]
  have e2:o4.set 0 o4[0]! = o4:=by
   cases o4 with
   | nil=>rfl
   | cons x l=>rfl
  unfold R2
  rw[if_pos (Classical.not_not.1 hh0),← Ba2 h12 h10]
  show AV.sl (List.map c81 (o4.set 0 ⟨o4[0]!.sku,A5 o4[0]!.past⟩))=_
  rw[e,e2]
 case g31 =>
  unfold R2
  rw[if_pos (Classical.not_not.1 hh0),← Ba2 h12 h10]
theorem con69(es:List Entry)(rs:List Record)(hb:Az6 rs)(ht:tokR rs):Con Tryz.prog 69 [.sl (es.map c45),.sl (rs.map c81)] (.tup [.sl ((M5 es rs).1.map c45),.i .i64 (M5 es rs).2]) :=
 by
 have hl:E5 es=0→es.length≤16000000000:=fun h=>R1 (L8 h)
 have hf:G9 rs=0→(R2 rs).1=X8 ⟨[],[]⟩ [] rs:=fun h=>by unfold R2;rw[if_pos h]
 have no:¬E5 es=0∨¬G9 rs=0→¬(E5 es=0∧G9 rs=0):=fun h k=>by rcases h with h | h;exact h k.1;exact h k.2
 have yes:¬(¬E5 es=0∨¬G9 rs=0)→E5 es=0∧G9 rs=0:=fun h=>⟨Classical.not_not.1 fun k=>h (.inl k),Classical.not_not.1 fun k=>h (.inr k)⟩
 refine lN 0 c45 (es) Tryz.func69 fun hl_0=>lN 1 c81 (rs) Tryz.func69 fun hl_1=>sC B1 [.tmp 4,.tmp 5] 40 Tryz.func69 ?_
 intro e0 cx
 refine sq<|rG cx [0,1] [] z0<|sn<|sq<|sq<|B4 (σ':=⟨[(0,.sl (List.map c45 es)),(1,.sl (List.map c81 rs)),(18,.b (decide (¬E5 es=0∨¬G9 rs=0)))],[]⟩) ?_ ?_
 refine A4 (¬E5 es=0) (fun h_1=>?_) (fun h_1=>?_)
 refine rG cx [0,1,18] [] (fT (A4w (es)) (tT 2 (C4 h_1:AV.b (E5 es !=0)=AV.b true) (tD 7 true (¬E5 es=0∨¬G9 rs=0) (by simp only [eq_false h_1,tsl]) (oA 1 (.i .i64 (E5 es)) z0)))) ?_
 exact⟨rfl,by kernel_rfl⟩
 refine rG cx [0,1,18] [] (fT (A4w (es)) (tN 2 (E5 es) (0:Int) (tT 3 (A3 h_1) (fT (Az7 (rs) (by(with_reducible assumption))) (tN 6 (G9 rs) (0:Int) (tT 7 (by first | (simp only [eq_false h_1,tsl];done) | simp_all:AV.b (decide ¬G9 rs=0)=AV.b (decide (¬E5 es=0∨¬G9 rs=0))) (oA 1 (.i .i64 (E5 es)) (oA 5 (.i .i64 (G9 rs)) z0)))))))) ?_
 exact⟨rfl,by kernel_rfl⟩
 refine sn<|dC (¬E5 es=0∨¬G9 rs=0) (fun hh2=>?_) fun hh2=>?_
 refine sq<|rG cx [4,5] [] z0<|sn<|rT<|nR<|qR (.tup [.nl,.i .i64 ((1:Int))]) (B8.tup (ZLe.cons (B8.nl' (show List.map c45 (M5 es rs).1=[]from(by unfold M5;rw[if_neg (no hh2)];rfl))) (ZLe.cons (B8.eq (show AV.i .i64 1=AV.i .i64 (M5 es rs).2 from(by unfold M5;rw[if_neg (no hh2)]))) ZLe.nil)))
 refine sK<|sn<|sq<|rG cx [0,6] [] (fT (con116 (rs) (by(with_reducible assumption)) (by(with_reducible assumption))) (oA 1 (.tup [.sl (List.map c81 (R2 rs).1),.i .i64 ((R2 rs).2)]) z0))<|sn<|sq<|rG cx [0,6,8] [] z0<|sn<|sq<|sq<|rG cx [6,8,24,25,26] [] (tL 1 c45 es z0)<|sn<|bL 0<|H8 8 1008 45 4 (σ':=⟨[(6,.sl (List.map c81 (R2 rs).1)),(8,.own 1008 0),(24,.sl (List.map c45 es)),(25,.i .i64 ((↑es.length:Int))),(26,.i .i64 ((0:Int)))],[(1008,⟨0,45,.row 4 (List.map c45 [])⟩)]⟩) (by kernel_rfl)<|sL (X:=Int×List Entry) (fun x=>⟨[(6,.sl (List.map c81 (R2 rs).1)),(8,.own 1008 0),(24,.sl (List.map c45 es)),(25,.i .i64 ((↑es.length:Int))),(26,.i .i64 (x.1))],[(1008,⟨0,45,.row 4 (List.map c45 x.2)⟩)]⟩) (fun x ↦ decAp es x.1 x.2) (fun x ↦ B7t es (X8 { vec:=[],cloud:=[]:Past } [] rs) x.1 x.2) [6,8,24,25,26] [1008] (((0:Int),[])) (show B7t es (X8 { vec:=[],cloud:=[]:Past } [] rs) (0:Int) []from(by exact⟨by omega,by omega,by simp,by simp⟩)) ?_
 rintro⟨i3,o4⟩ h_5
 obtain⟨h6,h7,h8,h9⟩:0≤i3∧i3≤(↑es.length:Int)∧(↑o4.length:Int)≤i3∧o4=List.filter (fun e ↦ decide (G3 (X8 { vec:=[],cloud:=[]:Past } [] rs) e=0)) (List.take i3.toNat es):=h_5
 refine rE cx [6,8,24,25,26,27] [1008] (zB 0 (i3 <(↑es.length:Int))) (fun h10=>?_) fun h10=>?_
 refine sK<|sn<|sq<|bL 1<|sq<|rG cx [6,8,24,25,26,10] [1008,10] (fA (0≤i3) (fG c45 es i3.toNat (fR 4 (fN 4 4 (oR 0 (c45 es[i3.toNat]!) z0)))))<|sn<|rD cx [6,8,24,25,26,10,33] [1008,10] (fT (con117 ((R2 rs).1) (es[i3.toNat]!)) (oA 2 (.i .i64 (G3 (R2 rs).1 es[i3.toNat]!)) (zB 3 (G3 (R2 rs).1 es[i3.toNat]! =(0:Int))))) (fun h11=>?_) fun h11=>?_
 refine rG cx [6,8,24,25,26] [1008] (fR 45 (fR 4 (fR 4 (fX c45 [es[i3.toNat]!] 4 (fS c45 o4 c45 [es[i3.toNat]!] (fP (((List.map c45 o4).length+(List.map c45 [es[i3.toNat]!]).length)*(40:Nat)≤(140737488355328:Nat)) (by have:=hl (yes hh2).1;simp only [List.length_map,List.length_cons,List.length_nil];omega) (fM c45 o4 [es[i3.toNat]!] (oV 3 { rows:=some (List.map c45 (o4++[es[i3.toNat]!])) } z0)))))))) ?_
 refine bN<|sn<|rG cx [6,8,24,25,26] [1008] (tW 0 (i3+1) z0)<|sn<|nX ((i3+1,o4++[es[i3.toNat]!])) (show((↑es.length:Int)-(i3+1)).toNat <((↑es.length:Int)-i3).toNat from(by omega)) (show B7t es (X8 { vec:=[],cloud:=[]:Past } [] rs) (i3+1) (o4++[es[i3.toNat]!])from ?g4);rotate_left
 refine sK<|bN<|sn<|rG cx [6,8,24,25,26] [1008] (tW 0 (i3+1) z0)<|sn<|nX ((i3+1,o4)) (show((↑es.length:Int)-(i3+1)).toNat <((↑es.length:Int)-i3).toNat from(by omega)) (show B7t es (X8 { vec:=[],cloud:=[]:Past } [] rs) (i3+1) o4 from ?g5);rotate_left
 refine eX 0<|nE<|nE<|bH<|sn<|sq<|rG cx [4,5] [1008] z0<|sn<|rT<|qR (.tup [.sl (List.map c45 o4),.i .i64 ((0:Int))]) (B8.tup (ZLe.cons (B8.eq (show AV.sl (List.map c45 o4)=AV.sl (List.map c45 (M5 es rs).1)from ?g7)) (ZLe.cons (B8.eq (show AV.i .i64 0=AV.i .i64 (M5 es rs).2 from(by unfold M5;rw[if_pos (yes hh2)]))) ZLe.nil)));rotate_left
 case g4 =>
  rw[hf (yes hh2).2]at h11
  refine⟨by omega,by omega,by rw[List.length_append,List.length_singleton];omega,?_⟩
  rw[B43 h6 h10 h9,if_pos h11]
 case g5 =>
  rw[hf (yes hh2).2]at h11
  refine⟨by omega,by omega,by omega,?_⟩
  rw[B43 h6 h10 h9,if_neg h11,List.append_nil]
 case g7 =>
  unfold M5
  rw[if_pos (yes hh2),h9,List.take_of_length_le (by omega),Bj5]
end Go.Proofs.YtaiepnaokhpmcaaGreat
namespace Go.E
def rlo{α:Type}(n:Nat):Result α→Prop
 | .ok _ w=>n≤w.drawn
 | .halt _ w=>n≤w.drawn
def glo(n:Nat):GStep→Prop
 | .go _ w _=>n≤w.drawn
 | .comm _ _ _ _ w _=>n≤w.drawn
 | .spawn _ _ w _=>n≤w.drawn
 | .count _ w _=>n≤w.drawn
 | .timer _ _ w _=>n≤w.drawn
 | .alone _ _ w _=>n≤w.drawn
 | .newcoro _ _ _ w _=>n≤w.drawn
 | .coroswitch _ _ _ w _=>n≤w.drawn
 | .collect _ w _=>n≤w.drawn
 | .watch _ w _=>n≤w.drawn
 | .ended _ _ _=>True
def slo(n:Nat):Stepped→Prop
 | .next m=>n≤m.world.drawn
 | .ended _ _=>True
def mlo(n:Nat):Move→Prop
 | .goroutine m _=>n≤m.world.drawn
 | .machine s _=>slo n s
theorem M6{n k:Nat}(h:n≤k){s:GStep}(hs:glo k s):glo n s:=by
 cases s <;> first | trivial | exact Nat.le_trans h hs
theorem A74{n k:Nat}(h:n≤k){s:Stepped}(hs:slo k s):slo n s:=by
 cases s <;> first | trivial | exact Nat.le_trans h hs
theorem Ae9{n k:Nat}(h:n≤k){s:Move}(hs:mlo k s):mlo n s:=by
 cases s with
 | goroutine m i=>exact Nat.le_trans h hs
 | machine s ops=>exact A74 h hs
theorem R3(n:Nat)(es:Array Event)(s:GStep):glo n (GStep.after es s)=glo n s:=by cases s <;> rfl
theorem A8y{α:Type}:∀(x:Ask α) (w:World),w.drawn≤(w.ask x).2.drawn
 | .done a,w=>Nat.le_refl _
 | .ask what range k,w=>by
  unfold World.ask
  simp only
  split
  ·exact A8y (k 0) w
  ·exact Nat.le_trans (Nat.le_succ _) (A8y _ { w with drawn:=w.drawn+1 })
theorem Au5(w:World)(c:Sys):w.drawn≤(w.sys c).2.drawn:=by
 unfold World.sys
 have h:=A8y (Kernel.perform c w.os) w
 split
 ·exact Nat.le_refl _
 ·rename_i heq
  rw[heq]at h
  exact h
theorem B44{p:Program}{w:World}{a k:Addr}{u:TypeId}{v:Value}{t:Bool}{r:World×List Addr}(h:w.viewStore p a u k v t=.ok r):r.1.drawn=w.drawn:=by
 unfold World.viewStore at h
 simp only [bind,Except.bind,pure,Except.pure,throw,throwThe,MonadExceptOf.throw]at h
 repeat' (split at h)
 all_goals first | (cases h;done) | (cases h;rfl) | (injection h with h;subst h;rfl)
theorem Au6{p:Program}{w w':World}{a:Addr}{v:Value}{t:Bool}{l:List Addr}(h:w.farStore p a v t=.ok (w',l)):w'.drawn=w.drawn:=by
 unfold World.farStore at h
 split at h
 ·split at h
  ·rename_i r heq
   injection h with h
   subst h
   exact B44 heq
  ·cases h
 ·cases h
theorem A5a(w:World)(a:Addr)(n:Nat):(w.freeze a n).drawn=w.drawn:=by
 unfold World.freeze
 split <;> rfl
theorem Au7{α:Type}{n k:Nat}(h:n≤k){r:Result α}(hr:rlo k r):rlo n r:=by cases r <;> exact Nat.le_trans h hr
theorem A8z{α:Type}(p:Program)(s:Sem α):∀ w:World,rlo w.drawn (s.run p w):=by
 induction s with
 | pure a=>intro w;exact Nat.le_refl _
 | load m a k ih =>
  intro w
  unfold Sem.run
  split
  ·exact ih _ w
  ·split
   ·exact ih _ w
   ·exact Nat.le_refl _
 | store m a v k ih =>
  intro w
  have far:rlo w.drawn (match w.cell? a with
   | some _=>if w.frozen? a then Result.halt (.unsupported (.unsafePointer "a write to bytes that a string shares")) w else k.run p (w.setCell a v)
   | none=>match w.farStore p a v (m == .atomic)with
    | .ok (w,_)=>k.run p w
    | .error h=>Result.halt h w):=by
   split
   ·split
    ·exact Nat.le_refl _
    ·exact ih (w.setCell a v)
   ·split
    ·rename_i heq
     have:=ih ‹World›
     have e:=Au6 heq
     rw[e]at this
     exact this
    ·exact Nat.le_refl _
  cases v <;> first | exact far | exact Nat.le_refl _
 | new o k ih=>intro w;exact ih w.heap.size { w with heap:=w.heap.push o }
 | shape r k ih=>intro w;exact ih _ w
 | freeze a n k ih=>intro w;have:=ih (w.freeze a n);rw[A5a]at this;exact this
 | frozen a k ih=>intro w;exact ih _ w
 | getObj r k ih =>
  intro w
  unfold Sem.run
  split
  ·exact Nat.le_refl _
  ·exact ih _ w
  ·exact Nat.le_refl _
 | setObj r o k ih =>
  intro w
  unfold Sem.run
  split
  ·exact Nat.le_refl _
  ·exact ih { w with heap:=w.heap.setIfInBounds r o }
  ·exact Nat.le_refl _
 | choose q k ih =>
  intro w
  unfold Sem.run
  split
  ·exact ih _ w
  ·exact Au7 (Nat.le_succ _) (ih _ { w with drawn:=w.drawn+1 })
 | sys c k ih=>intro w;exact Au7 (Au5 w c) (ih _ (w.sys c).2)
 | program k ih=>intro w;exact ih p w
 | mark m k ih=>intro w;exact ih w
 | halt h=>intro w;exact Nat.le_refl _
theorem M3{α:Type}(p:Program)(s:Sem α):∀(w:World) (es:Array Event),rlo w.drawn (s.runT p w es).1:=by
 induction s with
 | pure a=>intro w es;exact Nat.le_refl _
 | load m a k ih =>
  intro w es
  unfold Sem.runT
  split
  ·exact ih _ w _
  ·split
   ·exact ih _ w _
   ·exact Nat.le_refl _
 | store m a v k ih =>
  intro w es
  have far:rlo w.drawn (match w.cell? a with
   | some _=>if w.frozen? a then((Result.halt (.unsupported (.unsafePointer "a write to bytes that a string shares")) w,es):Result _×Array Event)else k.runT p (w.setCell a v) (es.push (⟨.cell a,true,m == Mode.atomic⟩:Event))
   | none=>match w.farStore p a v (m == Mode.atomic)with
    | .ok (w,touched)=>k.runT p w (es++touched.toArray.map (fun x=>(⟨.cell x,true,m == Mode.atomic⟩:Event)))
    | .error h=>(Result.halt h w,es)).1:=by
   split
   ·split
    ·exact Nat.le_refl _
    ·exact ih (w.setCell a v) _
   ·split
    ·rename_i heq
     have:=ih ‹World› (es++(‹List Addr›).toArray.map (fun x=>(⟨.cell x,true,m == Mode.atomic⟩:Event)))
     have e:=Au6 heq
     rw[e]at this
     exact this
    ·exact Nat.le_refl _
  cases v <;> first | exact far | exact Nat.le_refl _
 | new o k ih=>intro w es;exact ih w.heap.size { w with heap:=w.heap.push o } es
 | shape r k ih=>intro w es;exact ih _ w es
 | freeze a n k ih=>intro w es;have:=ih (w.freeze a n) es;rw[A5a]at this;exact this
 | frozen a k ih=>intro w es;exact ih _ w es
 | getObj r k ih =>
  intro w es
  unfold Sem.runT
  split
  ·exact Nat.le_refl _
  ·exact ih _ w _
  ·exact Nat.le_refl _
 | setObj r o k ih =>
  intro w es
  unfold Sem.runT
  split
  ·exact Nat.le_refl _
  ·exact ih { w with heap:=w.heap.setIfInBounds r o } _
  ·exact Nat.le_refl _
 | choose q k ih =>
  intro w es
  unfold Sem.runT
  split
  ·exact ih _ w es
  ·exact Au7 (Nat.le_succ _) (ih _ { w with drawn:=w.drawn+1 } es)
 | sys c k ih=>intro w es;exact Au7 (Au5 w c) (ih _ (w.sys c).2 _)
 | program k ih=>intro w es;exact ih p w es
 | mark m k ih=>intro w es;exact ih w _
 | halt h=>intro w es;exact Nat.le_refl _
theorem O0{α:Type}{p:Program}{s:Sem α}{w w':World}{a:α}(h:s.run p w=.ok a w'):w.drawn≤w'.drawn:=by have:=A8z p s w;rw[h]at this;exact this
theorem B7w{α:Type}{p:Program}{s:Sem α}{w w':World}{a:Halt}(h:s.run p w=.halt a w'):w.drawn≤w'.drawn:=by have:=A8z p s w;rw[h]at this;exact this
theorem A90{α:Type}{p:Program}{s:Sem α}{w w':World}{a:α}{es es':Array Event}(h:s.runT p w es=(.ok a w',es')):w.drawn≤w'.drawn:=by have:=M3 p s w es;rw[h]at this;exact this
theorem Af0{α:Type}{p:Program}{s:Sem α}{w w':World}{a:Halt}{es es':Array Event}(h:s.runT p w es=(.halt a w',es')):w.drawn≤w'.drawn:=by have:=M3 p s w es;rw[h]at this;exact this
theorem X9{α:Type}{p:Program}{s:Sem α}{w w':World}{a:α}{es:Array Event}(h:(s.runT p w es).1=.ok a w'):w.drawn≤w'.drawn:=by have:=M3 p s w es;rw[h]at this;exact this
theorem B0b{α:Type}{p:Program}{s:Sem α}{w w':World}{a:Halt}{es:Array Event}(h:(s.runT p w es).1=.halt a w'):w.drawn≤w'.drawn:=by have:=M3 p s w es;rw[h]at this;exact this
theorem A5b{α:Type}{o:Option α}{n:Nat}{a:GStep}{f:α→GStep}(h:glo n a)(hf:∀ x,glo n (f x)):glo n (o.elim a f):=by cases o <;> first | exact h | exact hf _
theorem A91{n:Nat}{es:Array Event}{s:GStep}(h:glo n s):glo n (GStep.after es s):=by rw[R3];exact h
theorem L2(p:Program)(main:Bool)(fr:Frame)(cs:List Frame)(d:Option Dying)(v:Value)(w:World):glo w.drawn (doReturn p main fr cs d v w):=by
 unfold doReturn
 repeat' split
 all_goals first | trivial | exact Nat.le_refl _
theorem B7x(fr:Frame)(l:List ByteArray)(m:String)(b:Bool)(w:World):glo w.drawn (dieOf fr l m b w):=Nat.le_refl _
theorem N3(fr:Frame)(m:String)(w:World):glo w.drawn (endThrow fr m w):=Nat.le_refl _
theorem B0c(n:Nat)(w:World)(fd:Nat)(t:ByteArray)(o:Outcome):glo n (endWith w fd t o):=by
 unfold endWith
 simp only
 repeat' split
 all_goals trivial
theorem A0y(p:Program)(fr:Frame)(v:Value)(w:World):glo w.drawn (endPrinting p fr v w):=by
 unfold endPrinting
 simp only
 split
 ·exact N3 _ _ _
 ·trivial
theorem A5c(p:Program)(fr:Frame)(cs:List Frame)(d:Option Dying)(m:String)(w:World):glo w.drawn (endFatal p fr cs d m w):=by
 unfold endFatal
 simp only
 split
 ·rename_i h
  exact M6 (O0 h) (B7x _ _ _ _ _)
 ·trivial
 ·trivial
theorem B0d(p:Program)(fr:Frame)(d:Dying)(f:Fatal)(w:World):glo w.drawn (writeOn p fr d f w):=by
 unfold writeOn
 simp only
 split
 ·trivial
 ·split
  ·rename_i h;exact A90 h
  ·rename_i h;exact Af0 h
  ·trivial
  ·trivial
theorem die_lo(p:Program)(fr:Frame)(d:Dying)(w:World):glo w.drawn (die p fr d w):=by
 unfold die
 split
 ·exact B0d _ _ _ _ _
 ·split
  ·split
   ·exact Nat.le_refl _
   ·exact B0c _ _ _ _ _
  ·simp only
   split
   ·exact Nat.le_refl _
   ·split
    ·rename_i h;exact O0 h
    ·trivial
   ·rw[R3]
    have h:=M3 p (invoke (.fn (.method ‹String›) #[]) #[.iface ‹TypeId› ‹Value›]) w #[]
    split <;> first | trivial | (rename_i k;rw[k]at h;first | exact h | exact M6 h (A0y _ _ _ _))
   ·trivial
theorem A5d(p:Program)(fr:Frame)(cs:List Frame)(dy:Option Dying)(d:Deferred)(w:World):glo w.drawn (callDeferred p fr cs dy d w):=by
 unfold callDeferred
 by_cases hc:((match d.target with | .nil=>true | _=>false) && (match fr.mode with | .panicking _=>true | _=>false))=true
 ·exact(congrArg (glo w.drawn) (if_pos hc)).mpr trivial
 ·refine(congrArg (glo w.drawn) (if_neg hc)).mpr ?_
  simp only [R3]
  have h:=M3 p (invoke d.target d.args) w #[]
  generalize (invoke d.target d.args).runT p w #[]=r at h ⊢
  obtain⟨r,es⟩:=r
  simp only at h ⊢
  cases r with
  | ok a w' =>
   have h:w.drawn≤w'.drawn:=h
   cases a with
   | coroswitch c b=>cases b <;> first | trivial | exact h
   | alone b v=>cases b <;> first | trivial | exact h
   | _=>(try simp only) <;>(repeat' split) <;> first | trivial | exact h
  | halt e w' =>
   have h:w.drawn≤w'.drawn:=h
   cases e <;>(try simp only) <;>(repeat' split) <;> first | trivial | exact h | exact M6 h (A5c _ _ _ _ _ _) | exact M6 h (N3 _ _ _)
theorem B45(p:Program)(main:Bool)(fr:Frame)(cs:List Frame)(d:Option Dying)(w:World):glo w.drawn (unwind p main fr cs d w):=by
 unfold unwind
 split
 ·simp only [R3]
  split
  ·rename_i h
   have:=M3 p (Instr.takeDeferred ‹Nat›) w #[]
   rw[h]at this
   exact this
  ·trivial
 ·exact A5d _ _ _ _ _ _
 ·split
  ·trivial
  ·split
   ·trivial
   ·split
    ·exact Nat.le_refl _
    ·split
     ·split
      ·exact Nat.le_refl _
      ·split
       ·rename_i h;exact O0 h
       ·trivial
       ·trivial
     ·split
      ·exact A0y _ _ _ _
      ·trivial
  ·split
   ·exact L2 _ _ _ _ _ _ _
   ·simp only [R3]
    rename_i fn hfn
    have h:=M3 p (results fn fr.tmps) w #[]
    split <;> first | trivial | (rename_i k;rw[k]at h;exact M6 h (L2 _ _ _ _ _ _ _))
theorem B7y(p:Program)(fr:Frame)(cs:List Frame)(d:Option Dying)(g:Nat)(w:World):glo w.drawn (early p fr cs d g w):=by
 have nt:∀ w:World,glo w.drawn (match w.heap[g]? with
   | some (.pending c elem)=>GStep.go { frame:=fr,callers:=cs,status:=.running,dying:=d } { w with heap:=w.heap.setIfInBounds g (.cells c elem) }
   | _=>.ended (.stuck "early: the variable does not wait" (fr.pos p)) w):=by
  intro w
  split
  ·exact Nat.le_refl _
  ·trivial
 unfold early
 simp only
 split
 ·exact nt w
 ·split
  ·trivial
  ·split
   ·exact nt w
   ·split
    ·exact nt w
    ·split
     ·trivial
     ·exact Nat.le_refl _
     ·trivial
     ·exact nt w
     ·split
      ·exact Nat.le_refl _
      ·split
       ·exact nt w
       ·split
        ·rename_i h;exact M6 (O0 h) (nt _)
        ·rename_i h;exact O0 h
        ·trivial
theorem Y0(p:Program)(listen:Bool)(fr:Frame)(cs:List Frame)(d:Option Dying)(s:Sem Next)(w:World):glo w.drawn (stepG.apply p listen fr cs d s w):=by
 unfold stepG.apply
 simp only [R3]
 have h:rlo w.drawn (if listen=true then s.runT p w #[]else(s.run p w,#[])).1:=by
  split
  ·exact M3 p s w #[]
  ·exact A8z p s w
 generalize (if listen=true then s.runT p w #[]else(s.run p w,#[]))=r at h ⊢
 obtain⟨r,es⟩:=r
 simp only at h ⊢
 cases r with
 | halt hh w' =>
  cases hh with
  | unsupported u=>cases u <;> first | trivial | exact M6 h (B7y _ _ _ _ _ _)
  | _=>(try simp only) <;> first | trivial | exact h | exact M6 h (A5c _ _ _ _ _ _) | exact M6 h (N3 _ _ _)
 | ok a w' =>
  cases a <;>(try simp only) <;>(repeat' split) <;> first
   | trivial
   | exact h
   | exact M6 h (N3 _ _ _)
theorem Bj6(p:Program)(listen:Bool)(fr:Frame)(cs:List Frame)(d:Option Dying)(w:World):glo w.drawn (stepG.oper p listen fr cs d w):=by
 unfold stepG.oper
 split
 ·trivial
 ·split
  ·exact Y0 _ _ _ _ _ _ _
  ·exact Y0 _ _ _ _ _ _ _
theorem Bj7(p:Program)(main listen:Bool)(fr:Frame)(cs:List Frame)(d:Option Dying)(w:World):glo w.drawn (stepG.exec p main listen fr cs d w):=by
 unfold stepG.exec
 simp only [R3]
 repeat' split
 all_goals first
  | trivial
  | exact Nat.le_refl _
  | exact Y0 _ _ _ _ _ _ _
  | exact Bj6 _ _ _ _ _ _
  | exact O0 ‹_›
  | exact A90 ‹_›
  | exact Af0 ‹_›
  | exact M6 (A90 ‹_›) (L2 _ _ _ _ _ _ _)
  | exact M6 (A90 ‹_›) (Y0 _ _ _ _ _ _ _)
  | exact X9 ‹_›
  | exact B0b ‹_›
  | exact M6 (X9 ‹_›) (L2 _ _ _ _ _ _ _)
  | exact A91 (M6 (X9 ‹_›) (L2 _ _ _ _ _ _ _))
  | exact M6 (X9 ‹_›) (Y0 _ _ _ _ _ _ _)
  | exact A5b trivial (fun _=>Nat.le_refl _)
  | exact A5b (Nat.le_refl _) (fun _=>Nat.le_refl _)
  | exact A5b trivial (fun _=>Y0 _ _ _ _ _ _ _)
  | exact A5b (A91 (M6 (X9 ‹_›) (L2 _ _ _ _ _ _ _))) (fun _=>Nat.le_refl _)
  | exact A5b (M6 (X9 ‹_›) (L2 _ _ _ _ _ _ _)) (fun _=>Nat.le_refl _)
  | exact A91 (M6 (X9 ‹_›) (Y0 _ _ _ _ _ _ _))
theorem B7z(p:Program)(main:Bool)(g:Goroutine)(w:World)(listen:Bool):glo w.drawn (stepG p main g w listen):=by
 unfold stepG
 simp only
 split
 ·exact die_lo _ _ _ _
 ·exact Bj7 _ _ _ _ _ _ _
 ·exact B45 _ _ _ _ _ _
theorem B0e{rest:Rest}{cases:Array CommCase}{w w':World}(h:waitingAt rest cases w=some w'):w'.drawn=w.drawn:=by
 unfold waitingAt at h
 split at h
 ·split at h
  ·injection h with h;subst h;rfl
  ·cases h
 ·injection h with h;subst h;rfl
theorem Bj8(p:Program)(rest:Rest)(gs:Array Goroutine)(i:Nat)(g:Goroutine)(cases:Array CommCase)(b:Bool)(shape:CommShape)(w:World):slo w.drawn (communicate p rest gs i g cases b shape w).1:=by
 unfold communicate
 simp only
 split
 ·trivial
 ·split
  ·split
   ·split
    ·rename_i h;have:=B0e h;exact Nat.le_of_eq this.symm
    ·trivial
   ·exact Nat.le_refl _
  ·split
   ·trivial
   ·rename_i h
    have h1:=O0 h
    split
    ·split <;> first | trivial | (rename_i h2;have h3:=B7w h2;exact Nat.le_trans h1 h3)
    ·exact h1
    ·exact h1
    ·split
     ·exact h1
     ·split <;> first | trivial | (rename_i h2;have h3:=O0 h2;exact Nat.le_trans h1 h3)
    ·exact h1
    ·exact h1
    ·trivial
theorem B46(p:Program)(gs:Array Goroutine)(rest:Rest)(w:World):slo w.drawn (Go.look p gs rest w):=by
 unfold Go.look
 split
 ·simp only
  split
  ·trivial
  ·split
   ·trivial
   ·split <;> first | trivial | (rename_i h2;have h3:=O0 h2;exact h3)
 ·trivial
theorem B80(w:World)(c:Nat):(drain w c).2.drawn=w.drawn:=by
 unfold drain
 split <;> rfl
theorem Af1(m:Machine)(k:Nat)(t:Timer)(a b:Nat):(retime m k t a b).2.world.drawn=m.world.drawn:=by
 unfold retime
 simp only
 split
 ·exact B80 _ _
 ·rfl
theorem Au8{m:Machine}{var:Addr}{f:Nat→Timer→Value×Machine}{v:Value}{m':Machine}{n:Nat}(hf:∀ k t,(f k t).2.world.drawn=n)(h:timerOp.named m var f=.ok (v,m')):m'.world.drawn=n:=by
 unfold timerOp.named at h
 split at h
 ·injection h with h
  have:=hf ‹Nat› (m.rest.timers.getD ‹Nat› default)
  rw[h]at this
  exact this
 ·cases h
theorem B47{m m':Machine}{var:Addr}(h:timerOp.opened m var=some m'):m'.world.drawn=m.world.drawn:=by
 unfold timerOp.opened at h
 split at h
 ·split at h
  ·injection h with h;subst h;rfl
  ·cases h
 ·injection h with h;subst h;rfl
theorem B0f{m m':Machine}{op:TimerOp}{v:Value}(h:timerOp m op=.ok (v,m')):m'.world.drawn=m.world.drawn:=by
 unfold timerOp at h
 split at h
 ·split at h
  ·injection h with h;injection h with _ h;subst h;rfl
  ·split at h
   ·split at h
    ·cases h
    ·injection h with h;injection h with _ h;subst h;rfl
   ·cases h
 ·exact Au8 (fun k t=>Af1 _ _ _ _ _) h
 ·split at h
  ·rename_i h2
   rw[← B47 h2]
   exact Au8 (fun k t=>Af1 _ _ _ _ _) h
  ·cases h
 ·injection h with h;injection h with _ h;subst h;rfl
theorem B81(p:Program)(m:Machine)(k:Nat):slo m.world.drawn (serve p m k):=by
 unfold serve
 split
 ·trivial
 ·exact Nat.le_refl _
 ·simp only
  split
  ·trivial
  ·exact Nat.le_refl _
theorem Bj9(p:Program)(m:Machine)(i:Nat)(listen:Bool):slo m.world.drawn (Go.runT p m i listen).1:=by
 unfold Go.runT
 simp only
 have h:=B7z p (i == 0) (m.gs.swapAt! i { (default:Goroutine)with status:=.finished }).1 m.world listen
 generalize stepG p (i == 0) (m.gs.swapAt! i { (default:Goroutine)with status:=.finished }).1 m.world listen=s at h ⊢
 cases s with
 | ended o w=>trivial
 | comm g cases b shape w=>exact A74 h (Bj8 _ _ _ _ _ _ _ _ _)
 | go g w=>exact h
 | spawn g c w=>exact h
 | count g w =>
  simp only
  split
  ·trivial
  ·exact h
 | alone g on w=>exact h
 | collect g w=>exact A74 h (B46 _ _ _ _)
 | watch g w=>exact h
 | newcoro g c d w=>exact h
 | coroswitch g c e w =>
  simp only
  split
  ·exact h
  ·split
   ·rename_i k
    have:=N3 g.frame "coroswitch on exited coro" w
    rw[k]at this
    exact Nat.le_trans h this
   ·trivial
  ·trivial
 | timer g op w =>
  simp only
  split
  ·rename_i k
   have:=B0f k
   exact Nat.le_trans h (Nat.le_of_eq this.symm)
  ·split
   ·rename_i k
    have:=N3 g.frame ‹String› w
    rw[k]at this
    exact Nat.le_trans h this
   ·trivial
  ·trivial
  ·trivial
theorem Am8 (p : Program) (rs : List Nat) (m : Machine) : mlo m.world.drawn (match (choose (.sched rs.length) : Sem Nat).run p m.world with
      | .halt _ w=>Move.machine (.ended (.stuck "sched" "") w)
      | .ok k world =>
        if rs.length≤1 then .goroutine { m with world } (rs.getD k 0)else
        match (choose (.extern "sched.slice" 65536):Sem Nat).run p world with
        | .halt _ w=>.machine (.ended (.stuck "sched.slice" "") w)
        | .ok n world => .goroutine { m with world, rest := { m.rest with slice := if n = 0 then none else some (rs.getD k 0, n) } } (rs.getD k 0)) := by
  split
  · trivial
  · rename_i h
    have h1:=O0 h
    split
    · exact h1
    · split
      · trivial
      · rename_i h2
        have h3:=O0 h2
        exact Nat.le_trans h1 h3
theorem adv_lo{m:Machine}{t:Nat}{s:Move}(h:mlo (m.advanceTo t).world.drawn s):mlo m.world.drawn s:=h
theorem A92(p:Program)(m:Machine):mlo m.world.drawn (askOn p m):=by
 unfold askOn
 simp only
 split
 ·trivial
 ·rename_i h
  have h1:=O0 h
  split
  ·exact A74 h1 (B81 p { m with world:=‹World› } _)
  ·split
   ·split
    ·exact h1
    ·split
     ·exact h1
     ·split <;> trivial
   ·split
    ·exact Ae9 h1 (Am8 p _ { m with world:=‹World› })
    ·split
     ·trivial
     ·rename_i h2
      have h3:=O0 h2
      exact Ae9 (Nat.le_trans h1 h3) (Am8 p _ { m with world:=‹World› })
     ·rename_i h2
      have h3:=O0 h2
      exact Nat.le_trans h1 h3
     ·rename_i h2
      have h3:=O0 h2
      exact Ae9 (Nat.le_trans h1 h3) (adv_lo (Am8 p _ _))
theorem Ba4(p:Program)(m:Machine):mlo m.world.drawn (ask p m):=by
 unfold ask
 split
 ·split
  ·trivial
  ·rename_i h
   have h1:=O0 h
   have h2:=B46 p m.gs m.rest ‹World›
   split
   ·rename_i k
    rw[k]at h2
    exact Ae9 (Nat.le_trans h1 h2) (A92 _ _)
   ·exact A74 h1 h2
  ·rename_i h
   exact Ae9 (O0 h) (A92 p { m with world:=‹World› })
 ·exact A92 _ _
theorem Bk0(p:Program)(m:Machine):mlo m.world.drawn (move p m):=by
 unfold move
 split
 ·split
  ·exact Nat.le_refl _
  ·trivial
 ·split
  ·split
   ·exact Nat.le_refl _
   ·exact Ba4 p { m with rest:={ m.rest with slice:=none } }
  ·exact Ba4 _ _
theorem Bk1(p:Program)(m:Machine):slo m.world.drawn (step p m):=by
 unfold step stepT
 have h:=Bk0 p m
 split
 ·rename_i k;rw[k]at h;exact A74 h (Bj9 _ _ _ _)
 ·rename_i k;rw[k]at h;exact h
theorem Au9{p:Program}{m m':Machine}(h:Steps p m m'):m.world.drawn≤m'.world.drawn:=by
 obtain⟨n,h⟩:=h
 induction n generalizing m with
 | zero=>simp only [runN]at h;injection h with h;subst h;exact Nat.le_refl _
 | succ n ih =>
  simp only [runN]at h
  have h1:=Bk1 p m
  split at h
  ·rename_i k;rw[k]at h1;exact Nat.le_trans h1 (ih h)
  ·rename_i k;rw[h]at k;exact absurd rfl (k _)
theorem B82{P:Program}{f:FuncId}{args:Array Value}{w:World}{R:Ending→World→Prop}(hR:∀ w',¬ R .outgrown w')(h:Calls P f args w R):Calls P f args w fun e w'=>R e w'∧w.drawn≤w'.drawn:=by
 intro cs
 obtain⟨e,w',fr,h1,h2,h3,h4⟩:=h cs
 refine⟨e,w',fr,⟨h1,?_⟩,h2,h3,h4⟩
 cases e with
 | returned v=>exact Au9 h2
 | panicked c=>exact Au9 h2
 | outgrown=>exact absurd h1 (hR _)
end Go.E
namespace Go.E
open Go Go.Sort Go.RowKit Go.Lib Go.Shelf Go.Proofs
structure TotC {β:Type} (c:β→β→Int):Prop where
 neg:∀ x y,c x y < 0↔0 < c y x
 tr:∀ x y z,c x y≤0→c y z≤0→c x z≤0
 anti:∀ x y,c x y=0→x=y
theorem TotC.self{β:Type}{c:β→β→Int}(h:TotC c)(x:β):c x x=0:=by
 have:=h.neg x x
 omega
theorem TotC.swo{β:Type}{c:β→β→Int}(h:TotC c):SWO (ltOf c):=by
 refine⟨fun x=>?_,fun x y z h1 h2=>?_,fun x y z h1 h2=>?_⟩
 ·unfold ltOf
  rw[decide_eq_false_iff_not,h.self x]
  omega
 ·unfold ltOf at *
  rw[decide_eq_true_iff]at *
  have h3:=h.tr x y z (by omega) (by omega)
  apply Classical.byContradiction
  intro h4
  have e:=h.anti x z (by omega)
  subst e
  have:=(h.neg x y).1 h1
  omega
 ·unfold ltOf at *
  rw[decide_eq_false_iff_not]at *
  have a1:=h.neg x y
  have a2:=h.neg y z
  have a3:=h.neg x z
  have b1:=h.neg y x
  have b2:=h.neg z y
  have b3:=h.neg z x
  have:=h.tr z y x (by omega) (by omega)
  omega
def B83{β:Type}(c:β→β→Int)(l:List β):List β:=l.mergeSort (fun x y=>decide (c x y≤0))
def risO{β:Type}(c:β→β→Int)(l:List β):Prop:=l.Pairwise fun x y=>c x y≤0
theorem R4{β:Type}(c:β→β→Int)(l:List β):(B83 c l).Perm l:=List.mergeSort_perm _ _
theorem Av0{β:Type}{c:β→β→Int}(h:TotC c)(l:List β):risO c (B83 c l):=by
 have:=List.pairwise_mergeSort (le:=fun x y=>decide (c x y≤0)) (fun x y z h1 h2=>by
  rw[decide_eq_true_iff]at *
  exact h.tr x y z h1 h2) (fun x y=>by
  rw[Bool.or_eq_true,decide_eq_true_iff,decide_eq_true_iff]
  have:=h.neg x y
  have:=h.neg y x
  omega) l
 exact this.imp fun h=>of_decide_eq_true h
theorem Bk2{β:Type}{c:β→β→Int}(h:TotC c){a b:List β}(hp:a.Perm b)(ha:risO c a)(hb:risO c b):a=b :=
 List.Perm.eq_of_pairwise (le:=fun x y=>c x y≤0) (fun x y _ _ h1 h2=>by
  apply h.anti
  have:=h.neg x y
  have:=h.neg y x
  omega) ha hb hp
theorem Bk3{β:Type}{c:β→β→Int}(h:TotC c){a l:List β}(hp:a.Perm l)(ha:risO c a):a=B83 c l:=Bk2 h (hp.trans (R4 c l).symm) ha (Av0 h l)
section
variable {P : Program} {ρ : Ren} {β : Type} {enc : β → List AV} {k : Nat} {S : Nat → Prop} {w : World}
structure Cel (enc:β→List AV) (k:Nat) (S:Nat→Prop) (w:World) where
 el:β
 vs:List Value
 len:vs.length=k
 one:∀ u∈vs,u.oneCell'=true
 rel:∀(j:Nat) (a:AV) (u:Value),(enc el)[j]?=some a→vs[j]?=some u→RelV0 S w a u
theorem cels(hk:∀ x,(enc x).length=k):∀(l:List β) (xs:List Value),xs.length=l.length*k→(∀ u∈xs,u.oneCell'=true) →
  (∀(j:Nat) (a:AV) (u:Value),(l.map enc).flatten[j]?=some a→xs[j]?=some u→RelV0 S w a u) →
  ∃ ds:List (Cel enc k S w),ds.map Cel.el=l∧(ds.map Cel.vs).flatten=xs
 | [],xs,h,_,_=>⟨[],rfl,(List.eq_nil_of_length_eq_zero (by simpa using h)).symm⟩
 | x :: l,xs,h,h1,h2=>by
  rw[List.length_cons,Nat.succ_mul]at h
  obtain⟨ds,e1,e2⟩:=cels hk l (xs.drop k) (by rw[List.length_drop];omega) (fun u hu=>h1 u (List.mem_of_mem_drop hu)) (fun j a u ha hu=>by
   refine h2 (k+j) a u ?_ (by rw[List.getElem?_drop]at hu;exact hu)
   rw[List.map_cons,List.flatten_cons,List.getElem?_append_right (by rw[hk];omega),hk,Nat.add_sub_cancel_left]
   exact ha)
  refine⟨⟨x,xs.take k,by rw[List.length_take];omega,fun u hu=>h1 u (List.mem_of_mem_take hu),fun j a u ha hu=>?_⟩ :: ds,by rw[List.map_cons,e1],by rw[List.map_cons,List.flatten_cons,e2];exact List.take_append_drop k xs⟩
  have hj:j < k:=by
   have:=(List.getElem?_eq_some_iff.1 ha).1
   rwa [hk]at this
  refine h2 j a u ?_ (by rw[List.getElem?_take,if_pos hj]at hu;exact hu)
  rw[List.map_cons,List.flatten_cons,List.getElem?_append_left (by rw[hk];exact hj)]
  exact ha
theorem A93{W W':World}(hb:Below W.heap.size W W')(hd:W.drawn≤W'.drawn):∃ q os,W'=grow (W.drewN q) os:=by
 refine⟨W'.drawn-W.drawn,W'.heap.extract W.heap.size W'.heap.size,?_⟩
 have hh:W'.heap=W.heap++W'.heap.extract W.heap.size W'.heap.size:=by
  apply Array.ext'
  rw[Array.toList_append,Array.toList_extract]
  apply List.ext_getElem?
  intro i
  by_cases hi:i < W.heap.size
  ·rw[List.getElem?_append_left (by simpa using hi)]
   have:=hb.block i hi
   simpa using this
  ·rw[List.getElem?_append_right (by simpa using hi)]
   simp only [List.extract,Array.length_toList,List.getElem?_take,List.getElem?_drop]
   have hs:=hb.size
   have e2:W.heap.size+(i-W.heap.size)=i:=by omega
   rw[e2]
   split
   ·rfl
   ·rw[List.getElem?_eq_none (by simp;omega)]
 have h1:=hb.os
 have h2:=hb.tape
 have h3:=hb.output
 have h4:W.drawn+(W'.drawn-W.drawn)=W'.drawn:=by omega
 cases W' with
 | mk heap tape drawn os output =>
  simp only [World.drewN,grow]at *
  subst h1 h2 h3
  rw[← hh,h4]
set_option maxHeartbeats 1000000 in
/-- slices.SortFunc at a row of one's own whose cells lead on. -/
theorem B0g (L:SlLaysF0.n6 P ρ) (hcal:E4 P (ρ.f 6)) (g ty:Nat) (eg:∀ args w,(callFunc g args).run P w=.ok (.enter g args) w)
  (aE:∀ w,(isAgg (ρ.t 24)).run P w=.ok true w) (zE:∀ w,(Go.sizeOf (ρ.t 24)).run P w=.ok k w) (hk:∀ x,(enc x).length=k) (cf:β→β→Int) (hO:TotC cf)
  (hcon:∀ x y:β,Con P g [.agg (enc x),.agg (enc y)] (.i .i64 (cf x y))) (l:List β) (hlen:l.length < 4611686018427387904) :
  Y4 P (ρ.f 6) g none false ty k (l.map enc) ((B83 cf l).map enc):=by
 have hsz:∀ m:List β,∀ r∈m.map enc,r.length=k:=fun m r hr=>by obtain⟨x,_,rfl⟩:=List.mem_map.1 hr;exact hk x
 refine⟨hcal,by rw[List.length_map,List.length_map,(R4 cf l).length_eq],hsz _,fun w base v cv S xs hS hb ho hx1 hxr _=>?_⟩
 rw[List.length_map]at ho ⊢
 simp only [Bool.false_eq_true,if_false,B10]
 obtain⟨ds,e1,e2⟩:=cels (S:=S) (w:=w) hk l xs ho.1 hx1 hxr
 have hl:ds.length=l.length:=by rw[← e1,List.length_map]
 rcases ho.2 with⟨rfl,h0⟩ | ⟨b,cap,cur,rfl,hb',hh,h1,h2,h3,h4⟩
 ·have:l=[]:=List.eq_nil_of_length_eq_zero h0
  subst this
  refine(AnyF.slices_SortFunc_none (P:=P) (ρ:=ρ) L none 0 _ w).mono ?_
  rintro e' w' ⟨rfl,rfl⟩
  have e0:B83 cf ([]:List β)=[]:=List.eq_nil_of_length_eq_zero (by rw[(R4 cf []).length_eq];rfl)
  rw[e0]
  exact⟨rfl,[],⟨by simp,.inl ⟨rfl,rfl⟩⟩,fun u hu=>by simp at hu,fun j a u ha hu=>by simp at hu,fun j _ _=>rfl,rfl,rfl,rfl,Nat.le_refl _⟩
 ·have hbl:b < w.heap.size:=(Array.getElem?_eq_some_iff.1 hh).1
  by_cases hn:l.length=0
  ·have:l=[]:=List.eq_nil_of_length_eq_zero hn
   subst this
   refine(AnyF.slices_SortFunc_none (P:=P) (ρ:=ρ) L (some ⟨b,0,none⟩) cap _ w).mono ?_
   rintro e' w' ⟨rfl,rfl⟩
   have e0:B83 cf ([]:List β)=[]:=List.eq_nil_of_length_eq_zero (by rw[(R4 cf []).length_eq];rfl)
   rw[e0]
   have hxs:xs=[]:=List.eq_nil_of_length_eq_zero (by simpa using ho.1)
   subst hxs
   exact⟨rfl,[],ho,fun u hu=>by simp at hu,fun j a u ha hu=>by simp at hu,fun j _ _=>rfl,rfl,rfl,rfl,Nat.le_refl _⟩
  ·haveI:Inhabited (Cel enc k S w):=⟨ds[0]'(by omega)⟩
   have hvk:∀ x:Cel enc k S w,x.vs.length=k:=fun x=>x.len
   have hv1:∀ x:Cel enc k S w,∀ v∈x.vs,v.oneCell'=true:=fun x=>x.one
   rw[← e2]at ho
   have hnb:∀ j,S j→j≠b:=fun j hj e=>hb j (by rw[e];rfl) hj
   have hHd:HoldsK Cel.vs k w b 0 ds.toArray:=P5 hvk ho (by simp [hl]) (by simp)
   have hSW:SWO (ltOf fun x y:Cel enc k S w=>cf x.el y.el):=⟨fun x=>hO.swo.irrefl _,fun x y z=>hO.swo.trans _ _ _,fun x y z=>hO.swo.ntrans _ _ _⟩
   have hcmp:CmpLays P g #[] Cel.vs k (fun x y:Cel enc k S w=>cf x.el y.el) b 0 ds.toArray.size w:=by
    intro m os dk hs x y
    have hF:Fam Cel.vs k b 0 w dk (sortWorldK Cel.vs k w b 0 m dk os):=⟨w.drawn+m,os,rfl⟩
    have hf:=hF.facts
    have hkeep:∀ j,S j→(sortWorldK Cel.vs k w b 0 m dk os).heap[j]?=w.heap[j]?:=fun j hj=>hf.2.2.2 j (hS j hj) (hnb j hj)
    have hc:=(hcon x.el y.el).2 (sortWorldK Cel.vs k w b 0 m dk os) S [.agg x.vs.toArray,.agg y.vs.toArray] (fun j hj=>Nat.lt_of_lt_of_le (hS j hj) hF.size) rfl (fun j a u ha hu=>by
     match j with
     | 0 =>
      simp only [List.getElem?_cons_zero,Option.some.injEq]at ha hu
      subst ha hu
      refine RelV0.agg _ _ (by rw[hvk,hk]) (hv1 x) fun j a u ha hu=>(x.rel j a u ha hu).mono (fun _ h=>h) hkeep
     | 1 =>
      simp only [List.getElem?_cons_succ,List.getElem?_cons_zero,Option.some.injEq]at ha hu
      subst ha hu
      refine RelV0.agg _ _ (by rw[hvk,hk]) (hv1 y) fun j a u ha hu=>(y.rel j a u ha hu).mono (fun _ h=>h) hkeep
     | n+2=>simp at ha)
    refine(B82 (fun w' h=>by obtain⟨v,hv,_⟩:=h;cases hv) hc).mono ?_
    rintro e' w' ⟨⟨v,rfl,hr,hbel⟩,hd⟩
    refine⟨?_,A93 hbel hd⟩
    cases hr
    rfl
   have hw:=AnyQ.slices_SortFunc (P:=P) (ρ:=ρ) L k aE zE Cel.vs hvk hv1 (fun x y:Cel enc k S w=>cf x.el y.el) hSW g #[] b 0 cap ds.toArray w eg hcmp hHd hbl (by simpa [hl]using hlen)
   have hsize:ds.toArray.size=l.length:=by simp [hl]
   rw[hsize]at hw
   refine hw.mono ?_
   rintro e' w' ⟨rfl,d',n,os,hper,hsor,hw'⟩
   have hF:Fam Cel.vs k b 0 w d' w':=⟨w.drawn+n,os,by rw[hw'];rfl⟩
   have f:=hF.facts
   obtain⟨hsz',_,hp⟩:=hper
   have e3:d'.extract 0 l.length=d':=by rw[← hsize,← hsz'];exact Array.extract_size
   have e4:ds.toArray.extract 0 l.length=ds.toArray:=by rw[← hsize];exact Array.extract_size
   rw[e3,e4]at hp
   have hpl:d'.toList.Perm ds:=by
    simpa using hp
   have hel:d'.toList.map Cel.el=B83 cf l:=by
    refine Bk3 hO ?_ ?_
    ·have:=hpl.map Cel.el
     rwa [e1]at this
    ·unfold risO
     rw[List.pairwise_map,List.pairwise_iff_getElem]
     intro i j hi hj hij
     rw[Array.length_toList]at hi hj
     have:=hsor i j (Nat.zero_le _) hij (by rw[hsz']at hj;simpa [hl]using hj)
     unfold ltOf at this
     rw[decide_eq_false_iff_not,getElem!_pos _ j hj,getElem!_pos _ i hi]at this
     rw[Array.getElem_toList,Array.getElem_toList]
     have this:¬ cf d'[j].el d'[i].el < 0:=this
     have a1:=hO.neg d'[j].el d'[i].el
     have a2:=hO.neg d'[i].el d'[j].el
     omega
   have ow:=hF.owns (d:=ds.toArray) hvk (by rw[hsz']) (by simp) (by simp [hl]) ho
   refine⟨rfl,(d'.toList.map Cel.vs).flatten,ow,fun u hu=>?_,fun j a u ha hu=>?_,fun j hj hjb=>f.2.2.2 j hj (fun e=>hjb (by rw[e];rfl)),f.1,f.2.1,f.2.2.1,hF.size⟩
   ·obtain⟨r,hr,hu⟩:=List.mem_flatten.1 hu
    obtain⟨x,_,rfl⟩:=List.mem_map.1 hr
    exact hv1 x u hu
   ·rw[← hel,List.map_map]at ha
    have hj:=(List.getElem?_eq_some_iff.1 hu).1
    rw[C9 (sz:=k) (fun r hr=>by obtain⟨x,_,rfl⟩:=List.mem_map.1 hr;exact hvk x),List.length_map]at hj
    have k0:0 < k:=Nat.pos_of_ne_zero fun h=>by
     have:d'.toList.length*k=0:=Nat.mul_eq_zero.2 (.inr h)
     omega
    have hq:j % k < k:=Nat.mod_lt _ k0
    have hi:j / k < d'.toList.length:=(Nat.div_lt_iff_lt_mul k0).2 hj
    have ej:j / k*k+j % k=j:=by rw[Nat.mul_comm];exact Nat.div_add_mod j k
    have g1:=F5 (sz:=k) (rows:=d'.toList.map Cel.vs) (fun r hr=>by obtain⟨x,_,rfl⟩:=List.mem_map.1 hr;exact hvk x) (j:=j / k) (q:=j % k) (r:=(d'.toList[j / k]).vs) (by rw[List.getElem?_map,List.getElem?_eq_getElem hi];rfl) hq
    have g2:=F5 (sz:=k) (rows:=d'.toList.map (enc ∘ Cel.el)) (fun r hr=>by obtain⟨x,_,rfl⟩:=List.mem_map.1 hr;exact hk _) (j:=j / k) (q:=j % k) (r:=enc (d'.toList[j / k]).el) (by rw[List.getElem?_map,List.getElem?_eq_getElem hi];rfl) hq
    rw[ej]at g1 g2
    rw[g1]at hu
    rw[g2]at ha
    exact((d'.toList[j / k]).rel _ _ _ ha hu).mono (fun _ h=>h) (fun q hq=>f.2.2.2 q (hS q hq) (hnb q hq))
end
end Go.E
namespace Go.Proofs.YtaiepnaokhpmcaaGreat
open Go.E
set_option maxRecDepth 100000
set_option maxHeartbeats 4000000
def A94{α:Type}(p:α→α→Bool):α→List α→List α
 | _,[]=>[]
 | a,b :: l=>if p b a then A94 p b l else b :: A94 p b l
def A68{α:Type}(p:α→α→Bool):List α→List α
 | []=>[]
 | a :: l=>a :: A94 p a l
theorem Av1{α:Type}(p:α→α→Bool)(x:α):∀(t:List α) (a:α),A94 p a (t++[x])=A94 p a t++(if p x ((a :: t).getLast (by simp))then[]else[x])
 | [],a=>rfl
 | b :: t,a=>by
  have ih:=Av1 p x t b
  simp only [List.cons_append,A94,List.getLast_cons_cons]
  split
  ·exact ih
  ·rw[ih];rfl
theorem A0k{α:Type}[Inhabited α](p:α→α→Bool){l:List α}{j:Nat}(h1:1≤j)(hj:j < l.length):A68 p (l.take (j+1))=A68 p (l.take j)++(if p l[j]! l[j-1]! then[]else[l[j]!]):=by
 have e:l.take (j+1)=l.take j++[l[j]!]:=by rw[List.take_succ_eq_append_getElem hj,getElem!_pos l j hj]
 rw[e]
 cases hl:l.take j with
 | nil =>
  have:=congrArg List.length hl
  rw[List.length_take,List.length_nil]at this
  omega
 | cons a t =>
  have hlen:(a :: t).length=j:=by rw[← hl,List.length_take];omega
  have hlast:(a :: t).getLast (by simp)=l[j-1]!:=by
   rw[List.getLast_eq_getElem,getElem!_pos l (j-1) (by omega)]
   simp only [← hl,List.getElem_take]
   congr 1
   rw[hl,hlen]
  show a :: A94 p a (t++[l[j]!])=_
  rw[Av1,hlast]
  rfl
theorem Av2{α:Type}(p:α→α→Bool):∀(l:List α) (a:α),(A94 p a l).length≤l.length
 | [],a=>by simp [A94]
 | b :: l,a=>by
  simp only [A94]
  have:=Av2 p l b
  split
  ·simp only [List.length_cons];omega
  ·simp only [List.length_cons];omega
theorem B48{α:Type}(p:α→α→Bool)(l:List α):(A68 p l).length≤l.length:=by
 cases l with
 | nil=>simp [A68]
 | cons a l=>simp only [A68,List.length_cons];have:=Av2 p l a;omega
theorem A2y{α:Type}[Inhabited α](p:α→α→Bool)(l:List α):∀ k:Nat,k≤l.length→(∀ j:Nat,1≤j→j < k→p l[j]! l[j-1]! = false)→A68 p (l.take k)=l.take k
 | 0,_,_=>by simp [A68]
 | 1,hk,_=>by
  cases l with
  | nil=>simp at hk
  | cons a l=>simp [A68,A94]
 | k+2,hk,h=>by
  rw[A0k p (by omega) (by omega),A2y p l (k+1) (by omega) (fun j h1 h2=>h j h1 (by omega)),h (k+1) (by omega) (by omega)]
  simp only [Bool.false_eq_true,if_false]
  rw[List.take_succ_eq_append_getElem (show k+1 < l.length by omega),getElem!_pos l (k+1) (by omega)]
def eqR(a b:Record):Bool:=decide (C3 a b=0)
def I5(l:List Record):List Record:=A68 eqR l
theorem B49:∀(l:List Record) (a:Record),(a :: l).Pairwise (fun x y=>C3 x y≤0)→(∀ r∈a :: l,r.past=A5 r.past) →
  (∀ y∈A94 eqR a l,C3 a y < 0)∧upR (A94 eqR a l)∧∀ y,y∈a :: A94 eqR a l↔y∈a :: l
 | [],a,_,_=>⟨fun y hy=>(by cases hy),List.Pairwise.nil,fun y=>by simp [A94]⟩
 | b :: l,a,hp,hn=>by
  have h1:=List.pairwise_cons.1 hp
  have ih:=B49 l b h1.2 (fun r hr=>hn r (List.mem_cons_of_mem _ hr))
  simp only [A94]
  by_cases e:eqR b a=true
  ·have e':b=a:=A8g (hn b (by simp)) (hn a (by simp)) (by simpa [eqR]using e)
   subst e'
   rw[if_pos e]
   refine⟨ih.1,ih.2.1,fun y=>?_⟩
   rw[ih.2.2 y]
   simp
  ·rw[if_neg e]
   have hab:C3 a b < 0:=by
    have h2:=h1.1 b (by simp)
    have h3:¬ C3 b a=0:=by simpa [eqR]using e
    have:=Z7.neg a b
    omega
   refine⟨fun y hy=>?_,List.pairwise_cons.2 ⟨ih.1,ih.2.1⟩,fun y=>?_⟩
   ·rcases List.mem_cons.1 hy with rfl | hy
    ·exact hab
    ·have:=ih.1 y hy
     exact Z7.lt hab (by omega)
   ·have:=ih.2.2 y
    simp only [List.mem_cons]at this ⊢
    rw[this]
theorem Av3{l:List Record}(hp:l.Pairwise (fun x y=>C3 x y≤0))(hn:∀ r∈l,r.past=A5 r.past):upR (I5 l)∧∀ y,y∈I5 l↔y∈l:=by
 unfold I5
 cases l with
 | nil=>exact⟨List.Pairwise.nil,fun y=>by simp [A68]⟩
 | cons a l =>
  have h:=B49 l a hp hn
  exact⟨List.pairwise_cons.2 ⟨h.1,h.2.1⟩,h.2.2⟩
def Bo1:Type:={r:Record // r.past=A5 r.past}
theorem B84:(⟨noneS,⟨[],[]⟩⟩:Record).past=A5 (⟨noneS,⟨[],[]⟩⟩:Record).past:=A1y.symm
instance:Inhabited Bo1:=⟨⟨⟨noneS,⟨[],[]⟩⟩,B84⟩⟩
noncomputable def B0x(r:Record):Bo1:=if h:r.past=A5 r.past then⟨r,h⟩else default
def Ba5(x y:Bo1):Int:=C3 x.1 y.1
def Bk4(x:Bo1):List AV:=c81 x.1
theorem totRB:TotC Ba5:=by
 refine⟨fun x y=>?_,fun x y z h1 h2=>Z7.tr x.1 y.1 z.1 h1 h2,fun x y h=>Subtype.ext (A8g x.2 y.2 h)⟩
 unfold Ba5
 have:=Z7.neg x.1 y.1
 omega
noncomputable def srtB(l:List Record):List Bo1:=B83 Ba5 (l.map B0x)
noncomputable def A69(l:List Record):List Record:=(srtB l).map (·.1)
def A0z(l:List Record):Prop:=∀ r∈l,r.past=A5 r.past
theorem Av4{l:List Record}(h:A0z l):(l.map B0x).map (·.1)=l:=by
 rw[List.map_map]
 conv=>rhs;rw[← List.map_id l]
 refine List.map_congr_left fun r hr=>?_
 have e:B0x r=⟨r,h r hr⟩:=by unfold B0x;exact dif_pos (h r hr)
 show(B0x r).1=r
 rw[e]
theorem Af2{l:List Record}(h:A0z l):(A69 l).Perm l:=by
 have:=(R4 Ba5 (l.map B0x)).map (·.1)
 rw[Av4 h]at this
 exact this
theorem A5e(l:List Record):A0z (A69 l):=by
 intro r hr
 obtain⟨x,_,rfl⟩:=List.mem_map.1 hr
 exact x.2
theorem A75(l:List Record):(A69 l).Pairwise (fun x y=>C3 x y≤0):=by
 have:=Av0 totRB (l.map B0x)
 unfold A69 srtB
 rw[List.pairwise_map]
 exact this
noncomputable def A76(l:List Record):List Record:=I5 (A69 l)
theorem Bk5(l:List Record):upR (A76 l):=(Av3 (A75 l) (A5e l)).1
theorem A95{l:List Record}(h:A0z l)(r:Record):r∈A76 l↔r∈l:=by
 unfold A76
 rw[(Av3 (A75 l) (A5e l)).2 r]
 exact(Af2 h).mem_iff
theorem B85(l:List Record):(A76 l).length≤l.length:=by
 have h1:=B48 eqR (A69 l)
 have h2:(A69 l).length=l.length:=by
  unfold A69 srtB
  rw[List.length_map,(R4 Ba5 (l.map B0x)).length_eq,List.length_map]
 unfold A76 I5
 omega
theorem B86{l:List Record}(h:A0z l):Az6 l:=fun r hr=>by have:=A00 (h r hr);unfold szR;omega
def clnR(r:Record):Record:=⟨r.sku,A5 r.past⟩
noncomputable def lsR(rs:List Record):List Record:=(rs.filter fun r=>decide (¬ E3 r.past=0)).map clnR
def Af3(r:Record):Bool:=decide (r.sku=noneS) || U0 r.sku
noncomputable def I3(rs:List Record):List Record×Int:=if rs.all Af3=true then(A76 (lsR rs),0)else([],5)
theorem B87(rs:List Record):A0z (lsR rs):=by
 intro r hr
 obtain⟨x,_,rfl⟩:=List.mem_map.1 hr
 exact(B2l x.past).symm
theorem B88{rs:List Record}(h:∀ r∈rs,ckR r=0):lsR rs=rs:=by
 unfold lsR
 have e:rs.filter (fun r=>decide (¬ E3 r.past=0))=rs:=List.filter_eq_self.2 fun r hr=>by
  rw[decide_eq_true_iff];exact(A8h.1 (h r hr)).2.2
 rw[e]
 conv=>rhs;rw[← List.map_id rs]
 refine List.map_congr_left fun r hr=>?_
 unfold clnR
 rw[←(A8h.1 (h r hr)).2.1]
 rfl
theorem B89{rs:List Record}(h:∀ r∈rs,ckR r=0):rs.all Af3=true:=by
 rw[List.all_eq_true]
 intro r hr
 unfold Af3
 rw[Bool.or_eq_true,decide_eq_true_iff]
 exact(A8h.1 (h r hr)).1
noncomputable def F2(a b:List Record):List Record×Int:=if G9 a=0∧G9 b=0 then(A76 (a++b),0)else([],1)
theorem A2e{a b:List Record}(ha:G9 a=0)(hb:G9 b=0):∀ r∈a++b,ckR r=0:=fun r hr=>by
 rcases List.mem_append.1 hr with hr | hr
 ·exact((P7 a).1 ha).1 r hr
 ·exact((P7 b).1 hb).1 r hr
theorem B0h{a b:List Record}(ha:G9 a=0)(hb:G9 b=0):I3 (a++b)=(A76 (a++b),0):=by
 unfold I3
 rw[if_pos (B89 (A2e ha hb)),B88 (A2e ha hb)]
theorem B0i{a b:List Record}(ha:G9 a=0)(hb:G9 b=0):G9 (A76 (a++b))=0:=by
 have hn:A0z (a++b):=fun r hr=>(A8h.1 (A2e ha hb r hr)).2.1
 exact(P7 _).2 ⟨fun r hr=>A2e ha hb r ((A95 hn r).1 hr),Bk5 _⟩
end Go.Proofs.YtaiepnaokhpmcaaGreat
namespace Go.Proofs.YtaiepnaokhpmcaaGreat
open Go.E
set_option maxRecDepth 100000
set_option maxHeartbeats 4000000
open Go Go.Lib Go.RowKit Go.Proofs
set_option maxHeartbeats 4000000 in
theorem B4a (n:Nat) (h0:0 < n) (hb:n*40≤140737488351232) (w:World):Calls Tryz.prog 162 #[.slice none 0 0,.int .i64 n] w fun e w' =>
  ∃ cap cells,e=.returned (.slice (some ⟨w.heap.size,0,none⟩) 0 cap)∧w'.heap[w.heap.size]?=some (.cells cells 45 (0,0))∧cells.size=cap*4∧cap≤maxLen∧Below w.heap.size w w':=by
 obtain⟨i,z,hi,hi1,hi2,hz,hzs⟩:∃(i:TypeInfo) (z:Value),Tryz.prog.info? 45=some i∧i.size=4∧i.bytes=40∧i.zero=some z∧z.cells.size=4 :=
  ⟨tiE,tiE.zero.get!,by kernel_rfl,by kernel_rfl,by kernel_rfl,by kernel_rfl,by kernel_rfl⟩
 have happ:=Lib.run_append_nil_zeros (P:=Tryz.prog) w 22 3 22 45 i z .i64 .i64 Tryz.underlying22 Tryz.underlying3 hi hz n h0 (by omega) (by omega) (by rw[hi2];omega)
 generalize hcap:grownCap w n 0 45=cap2 at happ
 have hcapge:n≤cap2:=by rw[← hcap];exact grownCap_ge w _ 0 45
 have hcaple:cap2≤maxLen:=by rw[← hcap];exact grownCap_le_maxLen w _ 0 45 (by unfold maxLen;omega)
 generalize hZ:(Builtin.zeroCells z.cells n++Builtin.zeroCells z.cells (cap2-n))=Z at happ
 have hZs:Z.size=cap2*4:=by rw[← hZ];simp [size_zeroCells,hzs];omega
 clear hcap hZ
 go_enter Tryz.func162,Tryz.ntmps162
 go_wp2_with (at_builtin;refine Lib.wpList_append_run _ rfl _ _ _ _ rfl _ _ rfl rfl _ _ happ ?_)
 go_ret
 exact⟨cap2,Z,rfl,heap_alloc_new w _,hZs,hcaple,⟨rfl,rfl,rfl,by simp,fun k hk=>Below.heap_alloc w _ k hk⟩⟩
set_option maxHeartbeats 4000000 in
theorem B4b (w:World):Calls Tryz.prog 162 #[.slice none 0 0,.int .i64 0] w fun e w'=>e=.returned (.slice none 0 0)∧w'=w:=by
 go_enter Tryz.func162,Tryz.ntmps162
 go_wp2
 go_ret
 exact⟨rfl,rfl⟩
theorem con162(n:Int)(h0:0≤n)(hb:n*40≤140737488351232):A3l Tryz.prog 162 [.nl,.i .i64 n] 45 (.row 4 (([]:List Entry).map c45)):=by
 refine⟨⟨_,Tryz.func162,by kernel_rfl,by kernel_rfl⟩,fun w S0 vs hS hl hv=>?_⟩
 obtain⟨v,u,rfl⟩:∃ v u,vs=[v,u]:=by
  match vs,hl with
  | [v,u],_=>exact⟨v,u,rfl⟩
 have h1:=hv 0 _ v rfl rfl
 have h2:=hv 1 _ u rfl rfl
 cases h1
 cases h2
 by_cases hn:n=0
 ·subst hn
  refine(B4b w).mono ?_
  rintro e w' ⟨rfl,rfl⟩
  exact⟨_,rfl,⟨fun r hr=>by simp at hr,[],World.ownsRow_nil _ _ _ _,fun u hu=>by simp at hu,fun j b u hb=>by simp at hb⟩,Below.refl _ _⟩
 ·obtain⟨m,rfl⟩:∃ m:Nat,n=m:=⟨n.toNat,by omega⟩
  refine(B4a m (by omega) (by omega) w).mono ?_
  rintro e w' ⟨cap,cells,rfl,g1,g2,g3,g4⟩
  exact⟨_,rfl,⟨fun r hr=>by simp at hr,[],⟨by simp,.inr ⟨w.heap.size,cap,cells,rfl,Nat.le_refl _,g1,Nat.zero_le _,g3,g2,by simp⟩⟩,fun u hu=>by simp at hu,fun j b u hb=>by simp at hb⟩,g4⟩
def c22(l:List Entry):List AV:=[.sl (l.map c45)]
section
variable {α : Type}
def B51(ss:List (List α))(n:Int)(i:Int):Prop:=n=((ss.take i.toNat).flatten.length:Int)
def A5f(ss:List (List α))(i:Int)(l:List α):Prop:=l=(ss.take i.toNat).flatten
def A3c(ss:List (List α))(n i:Int):Prop:=0≤i∧i≤ss.length∧0≤n∧n≤140737488351232∧B51 ss n i
def Ba6(ss:List (List α))(n i:Int):Nat:=(ss.length-i).toNat
def A5g(ss:List (List α))(i:Int)(l:List α):Prop:=0≤i∧i≤ss.length∧A5f ss i l
def Ba7(ss:List (List α))(i:Int)(l:List α):Nat:=(ss.length-i).toNat
theorem Am9(ss:List (List α))(i:Nat):(ss.take i).flatten.length≤ss.flatten.length:=by
 have h:(ss.take i).flatten++(ss.drop i).flatten=ss.flatten:=by rw[← List.flatten_append,List.take_append_drop]
 rw[← h,List.length_append]
 omega
theorem A2f{ss:List (List α)}{i:Int}(h0:0≤i)(h:i < ss.length):(ss.take (i+1).toNat).flatten=(ss.take i.toNat).flatten++ss[i.toNat]!:=by
 rw[← D9 h0 h,List.flatten_append]
 simp
theorem An0{ss:List (List α)}{n i:Int}(h0:0≤i)(h:i < ss.length)(hs:B51 ss n i):n+ss[i.toNat]!.length≤ss.flatten.length:=by
 have h1:=Am9 ss (i+1).toNat
 rw[A2f h0 h,List.length_append]at h1
 unfold B51 at hs
 omega
theorem A5h(ss:List (List α)):A3c ss 0 0:=⟨by omega,by omega,by omega,by omega,by simp [B51]⟩
theorem A5i{ss:List (List α)}{n i:Int}(hb:ss.flatten.length≤140737488351232)(h0:0≤i)(h:i < ss.length)(hn:0≤n)(hs:B51 ss n i):A3c ss (n+ss[i.toNat]!.length) (i+1):=by
 have:=An0 h0 h hs
 refine⟨by omega,by omega,by omega,by omega,?_⟩
 unfold B51 at *
 rw[A2f h0 h,List.length_append]
 omega
theorem B4c{ss:List (List α)}{n i:Int}(hs:B51 ss n i):n≤ss.flatten.length:=by
 have:=Am9 ss i.toNat
 unfold B51 at hs
 omega
theorem A96{ss:List (List α)}{i:Int}{l:List α}(h0:0≤i)(h:i < ss.length)(hs:A5f ss i l):l.length+ss[i.toNat]!.length≤ss.flatten.length:=by
 have h1:=Am9 ss (i+1).toNat
 rw[A2f h0 h,List.length_append]at h1
 unfold A5f at hs
 rw[hs]
 omega
theorem A5j{ss:List (List α)}{i:Int}{l:List α}(h0:0≤i)(h:i < ss.length)(hs:A5f ss i l):A5g ss (i+1) (l++ss[i.toNat]!) :=
 ⟨by omega,by omega,by unfold A5f at *;rw[A2f h0 h,hs]⟩
theorem Af4{ss:List (List α)}{i:Int}{l:List α}(h:¬ i < ss.length)(hs:A5f ss i l):l=ss.flatten:=by
 unfold A5f at hs
 rw[hs,List.take_of_length_le (by omega)]
end
theorem con119(ss:List (List Entry))(hb:ss.flatten.length*40≤140737488351232):A3l Tryz.prog 119 [.sl (ss.map c22)] 45 (.row 4 (ss.flatten.map c45)) :=
 by
 refine A1m 0 (c22) (ss) (by kernel_rfl) Tryz.func119 (by kernel_rfl) fun hl_0=>A7u B1 (by kernel_rfl) (.tmp 2) 36 Tryz.func119 (by kernel_rfl) (by kernel_rfl) ?_
 intro e0 cx
 refine sq<|rG cx [0] [] z0<|sn<|sq<|rG cx [0,3] [] z0<|sn<|sq<|sq<|rG cx [0,3,9,10,11] [] (tL 1 c22 ss z0)<|sn<|bL 0<|sL (X:=Int×Int) (fun x=>⟨[(0,.sl (List.map c22 ss)),(3,.i .i64 (x.1)),(9,.sl (List.map c22 ss)),(10,.i .i64 ((↑ss.length:Int))),(11,.i .i64 (x.2))],[]⟩) (fun x ↦ Ba6 ss x.1 x.2) (fun x ↦ A3c ss x.1 x.2) [0,3,9,10,11] [] (((0:Int),(0:Int))) (show A3c ss (0:Int) (0:Int)from(by exact A5h ss)) ?_
 rintro⟨n0,i1⟩ h_2
 obtain⟨hh3,hh4,hh5,hh6,h7⟩:0≤i1∧i1≤(↑ss.length:Int)∧0≤n0∧n0≤140737488351232∧B51 ss n0 i1:=h_2
 refine rE cx [0,3,9,10,11,12] [] (zB 0 (i1 <(↑ss.length:Int))) (fun h8=>?_) fun h8=>?_
 refine sK<|sn<|sq<|bL 1<|sq<|rG cx [0,3,9,10,11,5] [] (fA (0≤i1) (fG c22 ss i1.toNat (fR 1 (oR 0 (c22 ss[i1.toNat]!) z0))))<|sn<|sq<|rG cx [0,3,9,10,11] [] (tL 2 c45 ss[i1.toNat]! (tT 3 (B6 (by omega) (by have:=An0 hh3 h8 h7;omega):AV.i .i64 (IntKind.i64.wrap (n0+(↑ss[i1.toNat]!.length:Int)))=AV.i .i64 (n0+(↑ss[i1.toNat]!.length:Int))) z0)) ?_
 refine sn<|sq<|rG cx [0,3,9,10,11,20] [] (tB 1 (n0+(↑ss[i1.toNat]!.length:Int) <(0:Int)) z0)<|sn<|Aa6 (n0+(↑ss[i1.toNat]!.length:Int) <(0:Int)) (by kernel_rfl) (by kernel_rfl) (fun h9=>absurd h9 (by omega)) (fun h9=>?_)
 refine sK<|bN<|sn<|rG cx [0,3,9,10,11] [] (tW 0 (i1+1) z0)<|sn<|nX ((n0+(↑ss[i1.toNat]!.length:Int),i1+1)) (show((↑ss.length:Int)-(i1+1)).toNat <((↑ss.length:Int)-i1).toNat from(by omega)) (show A3c ss (n0+(↑ss[i1.toNat]!.length:Int)) (i1+1)from(by exact A5i (by omega) hh3 h8 hh5 h7))
 refine eX 0<|nE<|nE<|bH<|sn<|sq<|rG cx [0,6] [24] (fT (con162 (n0) (by(with_reducible assumption)) (by have:=B4c h7;omega)) (oV 1 { val:=some (.own (45:Nat) (4:Nat)),rows:=some (List.map c45 []) } z0)) ?_
 refine sn<|sq<|sq<|rG cx [6,25,26,27] [24] (tL 1 c22 ss z0)<|sn<|bL 2<|sL (X:=Int×List Entry) (fun x=>⟨[(6,.own 24 0),(25,.sl (List.map c22 ss)),(26,.i .i64 ((↑ss.length:Int))),(27,.i .i64 (x.1))],[(24,⟨0,45,.row 4 (List.map c45 x.2)⟩)]⟩) (fun x ↦ Ba7 ss x.1 x.2) (fun x ↦ A5g ss x.1 x.2) [6,25,26,27] [24] (((0:Int),[])) (show A5g ss (0:Int) []from(by exact⟨by omega,by omega,by simp [A5f]⟩)) ?_
 rintro⟨i10,l11⟩ h_12
 obtain⟨h13,h14,h15⟩:0≤i10∧i10≤(↑ss.length:Int)∧A5f ss i10 l11:=h_12
 refine rE cx [6,25,26,27,28] [24] (zB 0 (i10 <(↑ss.length:Int))) (fun h16=>?_) fun h16=>?_
 refine sK<|sn<|sq<|bL 3<|sq<|rG cx [6,25,26,27,8] [24] (fA (0≤i10) (fG c22 ss i10.toNat (fR 1 (oR 0 (c22 ss[i10.toNat]!) z0))))<|sn<|rG cx [6,25,26,27] [24] (fR 45 (fR 4 (fR 4 (fX c45 ss[i10.toNat]! 4 (fP ((List.map c45 l11).length+(List.map c45 ss[i10.toNat]!).length≤maxLen) (by have:=A96 h13 h16 h15;simp only [List.length_map,Go.maxLen];omega) (fP (((List.map c45 l11).length+(List.map c45 ss[i10.toNat]!).length)*(40:Nat)≤(140737488355328:Nat)) (by have:=A96 h13 h16 h15;simp only [List.length_map];omega) (fM c45 l11 ss[i10.toNat]! (oV 2 { rows:=some (List.map c45 (l11++ss[i10.toNat]!)) } z0)))))))) ?_
 refine bN<|sn<|rG cx [6,25,26,27] [24] (tW 0 (i10+1) z0)<|sn<|nX ((i10+1,l11++ss[i10.toNat]!)) (show((↑ss.length:Int)-(i10+1)).toNat <((↑ss.length:Int)-i10).toNat from(by omega)) (show A5g ss (i10+1) (l11++ss[i10.toNat]!)from(by exact A5j h13 h16 h15))
 refine eX 2<|nE<|nE<|bH<|sn<|sq<|rG cx [2] [24] z0<|sn<|rT<|A38 (rows':=(List.map c45 l11)) .ret (.inr rfl) 2 24 0 (by kernel_rfl) (by kernel_rfl) (by kernel_rfl) (by rw[Af4 h16 h15])
def H6(a b:List Entry):List Entry×Int:=if okL a=true∧okL b=true then A29 (A54 (a++b))else([],1)
theorem Av5{a b:List Entry}(h:¬ E5 a=0∨¬ E5 b=0):H6 a b=([],1):=by
 unfold H6
 rw[if_neg]
 rintro⟨h1,h2⟩
 exact h.elim (fun k=>At7 k h1) (fun k=>At7 k h2)
theorem A97{a b:List Entry}(h1:E5 a=0)(h2:E5 b=0):H6 a b=A29 (A54 (a++b)):=by
 unfold H6
 rw[if_pos ⟨L8 h1,L8 h2⟩]
theorem A77{a b:List Entry}(h1:E5 a=0)(h2:E5 b=0):U3 (a++b)=H6 a b:=by
 rw[A97 h1 h2]
 refine A2a fun j hj=>?_
 by_cases h:j < a.length
 ·have:(a++b)[j]! = a[j]!:=by rw[getElem!_pos (a++b) j hj,getElem!_pos a j h,List.getElem_append_left h]
  rw[this]
  exact(A0x (L8 h1) h).1
 ·rw[List.length_append]at hj
  have:(a++b)[j]! = b[j-a.length]!:=by rw[getElem!_pos (a++b) j (by rw[List.length_append];omega),getElem!_pos b (j-a.length) (by omega),List.getElem_append_right (by omega)]
  rw[this]
  exact(A0x (L8 h2) (by omega)).1
theorem Bk6{a b:List Entry}(h1:E5 a=0)(h2:E5 b=0):a.length≤16000000000∧b.length≤16000000000:=⟨R1 (L8 h1),R1 (L8 h2)⟩
theorem A98(a b:List Entry):[a,b].flatten=a++b:=by simp
theorem A2z{a b:List Entry}(h:¬(¬ E5 a=0∨¬ E5 b=0)):E5 a=0∧E5 b=0:=⟨Classical.not_not.1 fun k=>h (.inl k),Classical.not_not.1 fun k=>h (.inr k)⟩
theorem B8a{a b:List Entry}(h:¬(¬ E5 a=0∨¬ E5 b=0)):a.length≤16000000000∧b.length≤16000000000:=Bk6 (A2z h).1 (A2z h).2
theorem Af5{a b:List Entry}(h:¬(¬ E5 a=0∨¬ E5 b=0)):[a,b].flatten.length*40≤140737488351232:=by
 have:=B8a h
 rw[A98,List.length_append]
 omega
theorem con70(a b:List Entry):Con Tryz.prog 70 [.sl (a.map c45),.sl (b.map c45)] (.tup [.sl ((H6 a b).1.map c45),.i .i64 (H6 a b).2]) :=
 by
 refine lN 0 c45 (a) Tryz.func70 fun hl_0=>lN 1 c45 (b) Tryz.func70 fun hl_1=>sC B1 [.tmp 4,.tmp 5] 21 Tryz.func70 ?_
 intro e0 cx
 refine sq<|rG cx [0,1] [] z0<|sn<|sq<|sq<|B4 (σ':=⟨[(0,.sl (List.map c45 a)),(1,.sl (List.map c45 b)),(13,.b (decide (¬E5 a=0∨¬E5 b=0)))],[]⟩) ?_ ?_
 refine A4 (¬E5 a=0) (fun h_1=>?_) (fun h_1=>?_)
 refine rG cx [0,1,13] [] (fT (A4w (a)) (tT 2 (C4 h_1:AV.b (E5 a !=0)=AV.b true) (tD 7 true (¬E5 a=0∨¬E5 b=0) (by simp only [eq_false h_1,tsl]) (oA 1 (.i .i64 (E5 a)) z0)))) ?_
 exact⟨rfl,by kernel_rfl⟩
 refine rG cx [0,1,13] [] (fT (A4w (a)) (tN 2 (E5 a) (0:Int) (tT 3 (A3 h_1) (fT (A4w (b)) (tN 6 (E5 b) (0:Int) (tT 7 (by first | (simp only [eq_false h_1,tsl];done) | simp_all:AV.b (decide ¬E5 b=0)=AV.b (decide (¬E5 a=0∨¬E5 b=0))) (oA 1 (.i .i64 (E5 a)) (oA 5 (.i .i64 (E5 b)) z0)))))))) ?_
 exact⟨rfl,by kernel_rfl⟩
 refine sn<|dC (¬E5 a=0∨¬E5 b=0) (fun h2=>?_) fun h2=>?_
 refine sq<|rG cx [4,5] [] z0<|sn<|rT<|nR<|qR (.tup [.nl,.i .i64 ((1:Int))]) (B8.tup (ZLe.cons (B8.nl' (show List.map c45 (H6 a b).1=[]from(by exact(by rw[Av5 h2];rfl)))) (ZLe.cons (B8.eq (show AV.i .i64 1=AV.i .i64 (H6 a b).2 from(by exact(by rw[Av5 h2])))) ZLe.nil)))
 refine sK<|sn<|sq ?_
 have hl_3:=(B3u [a,b].flatten)
 refine rG cx [4,5] [] (fT (con119 ([a,b]) (by exact(Nat.le_trans (Af5 h2) (by decide)))) (fT (con118 ([a,b].flatten) (by exact(Nat.le_trans (Af5 h2) (by decide)))) (oV 3 { val:=some (.own (45:Nat) (4:Nat)),rows:=some (List.map c45 [a,b].flatten) } (oA 4 (.tup [.sl (List.map c45 (U3 [a,b].flatten).1),.i .i64 ((U3 [a,b].flatten).2)]) z0)))) ?_
 refine sn<|rT<|qR (.tup [.sl (List.map c45 (U3 [a,b].flatten).1),.i .i64 ((U3 [a,b].flatten).2)]) (B8.tup (ZLe.cons (B8.eq (show AV.sl (List.map c45 (U3 [a,b].flatten).1)=AV.sl (List.map c45 (H6 a b).1)from(by exact(by rw[A98,A77 (A2z h2).1 (A2z h2).2])))) (ZLe.cons (B8.eq (show AV.i .i64 (U3 [a,b].flatten).2=AV.i .i64 (H6 a b).2 from(by exact(by rw[A98,A77 (A2z h2).1 (A2z h2).2])))) ZLe.nil)))
end Go.Proofs.YtaiepnaokhpmcaaGreat
namespace Go.Proofs.YtaiepnaokhpmcaaGreat
open Go.E
set_option maxRecDepth 100000
set_option maxHeartbeats 4000000
open Go Go.Sort Go.RowKit Go.Lib Go.Shelf Go.Proofs
def renSk:Go.Shelf.Ren:=⟨fun
 | 6=>165 | 14=>197 | 15=>198 | 20=>222 | 21=>223 | 22=>224
 | 23=>225 | 24=>226 | 25=>227 | 26=>228 | 27=>229 | 28=>230 | 29=>231
 | 46=>243 | 47=>244 | 48=>245 | 49=>246 | 50=>247 | 57=>251 | n=>n,
 fun | 0=>0 | 3=>3 | 4=>4 | 5=>5 | 9=>9 | 22=>27 | 24=>81 | 25=>129 | 39=>160 | 45=>222 | 46=>223 | 50=>127 | 53=>229 | 55=>78 | 66=>238 | 70=>242 | 76=>245 | 77=>111 | n=>n,
 fun n=>n⟩
theorem laysSk:Go.Proofs.SlLaysF0.n6 Tryz.prog renSk:={
 mixed:=(by kernel_rfl),
 f6:=⟨Tryz.f165.name,by decide,Tryz.func165.trans (congrArg some (by kernel_rfl))⟩,
 f14:=⟨Tryz.f197.name,by decide,Tryz.func197.trans (congrArg some (by kernel_rfl))⟩,
 f15:=Tryz.func198.trans (congrArg some (by kernel_rfl)),
 f20:=⟨Tryz.f222.name,by decide,Tryz.func222.trans (congrArg some (by kernel_rfl))⟩,
 f21:=⟨Tryz.f223.name,by decide,Tryz.func223.trans (congrArg some (by kernel_rfl))⟩,
 f22:=⟨Tryz.f224.name,by decide,Tryz.func224.trans (congrArg some (by kernel_rfl))⟩,
 f23:=⟨Tryz.f225.name,by decide,Tryz.func225.trans (congrArg some (by kernel_rfl))⟩,
 f24:=⟨Tryz.f226.name,by decide,Tryz.func226.trans (congrArg some (by kernel_rfl))⟩,
 f25:=⟨Tryz.f227.name,by decide,Tryz.func227.trans (congrArg some (by kernel_rfl))⟩,
 f26:=⟨Tryz.f228.name,by decide,Tryz.func228.trans (congrArg some (by kernel_rfl))⟩,
 f27:=⟨Tryz.f229.name,by decide,Tryz.func229.trans (congrArg some (by kernel_rfl))⟩,
 f28:=Tryz.func230.trans (congrArg some (by kernel_rfl)),
 f29:=Tryz.func231.trans (congrArg some (by kernel_rfl)),
 f46:=⟨Tryz.f243.name,by decide,Tryz.func243.trans (congrArg some (by kernel_rfl))⟩,
 f47:=Tryz.func244.trans (congrArg some (by kernel_rfl)),
 f48:=Tryz.func245.trans (congrArg some (by kernel_rfl)),
 f49:=⟨Tryz.f246.name,by decide,Tryz.func246.trans (congrArg some (by kernel_rfl))⟩,
 f50:=⟨Tryz.f247.name,by decide,Tryz.func247.trans (congrArg some (by kernel_rfl))⟩,
 f57:=⟨Tryz.f251.name,by decide,Tryz.func251.trans (congrArg some (by kernel_rfl))⟩,
 t0:=Tryz.underlying0,a0:=Tryz.isAgg0,z0:=Tryz.sizeOf0,v0:=Tryz.zeroValue0,
 t3:=Tryz.underlying3,a3:=Tryz.isAgg3,z3:=Tryz.sizeOf3,v3:=Tryz.zeroValue3,
 t4:=Tryz.underlying4,a4:=Tryz.isAgg4,z4:=Tryz.sizeOf4,v4:=Tryz.zeroValue4,
 t5:=Tryz.underlying5,a5:=Tryz.isAgg5,z5:=Tryz.sizeOf5,v5:=Tryz.zeroValue5,
 t9:=Tryz.underlying9,a9:=Tryz.isAgg9,z9:=Tryz.sizeOf9,v9:=Tryz.zeroValue9,
 t22:=Tryz.underlying27,a22:=Tryz.isAgg27,z22:=Tryz.sizeOf27,v22:=Tryz.zeroValue27,
 t25:=Tryz.underlying129,a25:=Tryz.isAgg129,z25:=Tryz.sizeOf129,v25:=Tryz.zeroValue129,
 t39:=Tryz.underlying160,a39:=Tryz.isAgg160,z39:=Tryz.sizeOf160,v39:=Tryz.zeroValue160,
 t45:=Tryz.underlying222,a45:=Tryz.isAgg222,z45:=Tryz.sizeOf222,v45:=Tryz.zeroValue222,
 t46:=Tryz.underlying223,a46:=Tryz.isAgg223,z46:=Tryz.sizeOf223,v46:=Tryz.zeroValue223,
 t50:=Tryz.underlying127,a50:=Tryz.isAgg127,z50:=Tryz.sizeOf127,v50:=Tryz.zeroValue127,
 t53:=Tryz.underlying229,a53:=Tryz.isAgg229,z53:=Tryz.sizeOf229,v53:=Tryz.zeroValue229,
 t55:=Tryz.underlying78,a55:=Tryz.isAgg78,z55:=Tryz.sizeOf78,v55:=Tryz.zeroValue78,
 t66:=Tryz.underlying238,a66:=Tryz.isAgg238,z66:=Tryz.sizeOf238,v66:=Tryz.zeroValue238,
 t70:=Tryz.underlying242,a70:=Tryz.isAgg242,z70:=Tryz.sizeOf242,v70:=Tryz.zeroValue242,
 t76:=Tryz.underlying245,a76:=Tryz.isAgg245,z76:=Tryz.sizeOf245,v76:=Tryz.zeroValue245,
 t77:=Tryz.underlying111,a77:=Tryz.isAgg111,z77:=Tryz.sizeOf111,v77:=Tryz.zeroValue111 }
theorem io165(l:List Record)(hn:A0z l)(hlen:l.length < 4611686018427387904) :
  Y4 Tryz.prog 165 106 none false 81 3 (l.map c81) ((A69 l).map c81):=by
 have h:=B0g (P:=Tryz.prog) (ρ:=renSk) (β:=Bo1) (enc:=Bk4) (k:=3) laysSk ⟨_,Tryz.func165,by kernel_rfl,by kernel_rfl⟩ 106 81
  (fun args w=>N7 ⟨_,Tryz.func106,by kernel_rfl,by kernel_rfl⟩ w) (fun _=>by kernel_rfl) (fun _=>by kernel_rfl) (fun _=>rfl) Ba5 totRB
  (fun x y=>Ac7 x.1 y.1 (by have:=A00 x.2;unfold szR;omega) (by have:=A00 y.2;unfold szR;omega)) (l.map B0x) (by simpa using hlen)
 have e1:(l.map B0x).map Bk4=l.map c81:=by
  conv=>rhs;rw[← Av4 hn,List.map_map]
  rfl
 have e2:(B83 Ba5 (l.map B0x)).map Bk4=(A69 l).map c81:=by
  unfold A69 srtB
  rw[List.map_map]
  rfl
 rw[e1,e2]at h
 exact h
noncomputable def tiRc:TypeInfo:=(Tryz.prog.info? 81).get!
set_option maxHeartbeats 4000000 in
theorem B0j (n:Nat) (h0:0 < n) (hb:n*64≤140737488351232) (w:World):Calls Tryz.prog 168 #[.slice none 0 0,.int .i64 n] w fun e w' =>
  ∃ cap cells,e=.returned (.slice (some ⟨w.heap.size,0,none⟩) 0 cap)∧w'.heap[w.heap.size]?=some (.cells cells 81 (0,0))∧cells.size=cap*3∧cap≤maxLen∧Below w.heap.size w w':=by
 obtain⟨i,z,hi,hi1,hi2,hz,hzs⟩:∃(i:TypeInfo) (z:Value),Tryz.prog.info? 81=some i∧i.size=3∧i.bytes=64∧i.zero=some z∧z.cells.size=3 :=
  ⟨tiRc,tiRc.zero.get!,by kernel_rfl,by kernel_rfl,by kernel_rfl,by kernel_rfl,by kernel_rfl⟩
 have happ:=Lib.run_append_nil_zeros (P:=Tryz.prog) w 27 3 27 81 i z .i64 .i64 Tryz.underlying27 Tryz.underlying3 hi hz n h0 (by omega) (by omega) (by rw[hi2];omega)
 generalize hcap:grownCap w n 0 81=cap2 at happ
 have hcapge:n≤cap2:=by rw[← hcap];exact grownCap_ge w _ 0 81
 have hcaple:cap2≤maxLen:=by rw[← hcap];exact grownCap_le_maxLen w _ 0 81 (by unfold maxLen;omega)
 generalize hZ:(Builtin.zeroCells z.cells n++Builtin.zeroCells z.cells (cap2-n))=Z at happ
 have hZs:Z.size=cap2*3:=by rw[← hZ];simp [size_zeroCells,hzs];omega
 clear hcap hZ
 go_enter Tryz.func168,Tryz.ntmps168
 go_wp2_with (at_builtin;refine Lib.wpList_append_run _ rfl _ _ _ _ rfl _ _ rfl rfl _ _ happ ?_)
 go_ret
 exact⟨cap2,Z,rfl,heap_alloc_new w _,hZs,hcaple,⟨rfl,rfl,rfl,by simp,fun k hk=>Below.heap_alloc w _ k hk⟩⟩
set_option maxHeartbeats 4000000 in
theorem B0k (w:World):Calls Tryz.prog 168 #[.slice none 0 0,.int .i64 0] w fun e w'=>e=.returned (.slice none 0 0)∧w'=w:=by
 go_enter Tryz.func168,Tryz.ntmps168
 go_wp2
 go_ret
 exact⟨rfl,rfl⟩
theorem con168(n:Int)(h0:0≤n)(hb:n*64≤140737488351232):A3l Tryz.prog 168 [.nl,.i .i64 n] 81 (.row 3 (([]:List Record).map c81)):=by
 refine⟨⟨_,Tryz.func168,by kernel_rfl,by kernel_rfl⟩,fun w S0 vs hS hl hv=>?_⟩
 obtain⟨v,u,rfl⟩:∃ v u,vs=[v,u]:=by
  match vs,hl with
  | [v,u],_=>exact⟨v,u,rfl⟩
 have h1:=hv 0 _ v rfl rfl
 have h2:=hv 1 _ u rfl rfl
 cases h1
 cases h2
 by_cases hn:n=0
 ·subst hn
  refine(B0k w).mono ?_
  rintro e w' ⟨rfl,rfl⟩
  exact⟨_,rfl,⟨fun r hr=>by simp at hr,[],World.ownsRow_nil _ _ _ _,fun u hu=>by simp at hu,fun j b u hb=>by simp at hb⟩,Below.refl _ _⟩
 ·obtain⟨m,rfl⟩:∃ m:Nat,n=m:=⟨n.toNat,by omega⟩
  refine(B0j m (by omega) (by omega) w).mono ?_
  rintro e w' ⟨cap,cells,rfl,g1,g2,g3,g4⟩
  exact⟨_,rfl,⟨fun r hr=>by simp at hr,[],⟨by simp,.inr ⟨w.heap.size,cap,cells,rfl,Nat.le_refl _,g1,Nat.zero_le _,g3,g2,by simp⟩⟩,fun u hu=>by simp at hu,fun j b u hb=>by simp at hb⟩,g4⟩
def c27(l:List Record):List AV:=[.sl (l.map c81)]
theorem con123(ss:List (List Record))(hb:ss.flatten.length*64≤140737488351232):A3l Tryz.prog 123 [.sl (ss.map c27)] 81 (.row 3 (ss.flatten.map c81)) :=
 by
 refine A1m 0 (c27) (ss) (by kernel_rfl) Tryz.func123 (by kernel_rfl) fun hl_0=>A7u B1 (by kernel_rfl) (.tmp 2) 36 Tryz.func123 (by kernel_rfl) (by kernel_rfl) ?_
 intro e0 cx
 refine sq<|rG cx [0] [] z0<|sn<|sq<|rG cx [0,3] [] z0<|sn<|sq<|sq<|rG cx [0,3,9,10,11] [] (tL 1 c27 ss z0)<|sn<|bL 0<|sL (X:=Int×Int) (fun x=>⟨[(0,.sl (List.map c27 ss)),(3,.i .i64 (x.1)),(9,.sl (List.map c27 ss)),(10,.i .i64 ((↑ss.length:Int))),(11,.i .i64 (x.2))],[]⟩) (fun x ↦ Ba6 ss x.1 x.2) (fun x ↦ A3c ss x.1 x.2) [0,3,9,10,11] [] (((0:Int),(0:Int))) (show A3c ss (0:Int) (0:Int)from(by exact A5h ss)) ?_
 rintro⟨n0,i1⟩ h_2
 obtain⟨hh3,hh4,hh5,hh6,h7⟩:0≤i1∧i1≤(↑ss.length:Int)∧0≤n0∧n0≤140737488351232∧B51 ss n0 i1:=h_2
 refine rE cx [0,3,9,10,11,12] [] (zB 0 (i1 <(↑ss.length:Int))) (fun h8=>?_) fun h8=>?_
 refine sK<|sn<|sq<|bL 1<|sq<|rG cx [0,3,9,10,11,5] [] (fA (0≤i1) (fG c27 ss i1.toNat (fR 1 (oR 0 (c27 ss[i1.toNat]!) z0))))<|sn<|sq<|rG cx [0,3,9,10,11] [] (tL 2 c81 ss[i1.toNat]! (tT 3 (B6 (by omega) (by have:=An0 hh3 h8 h7;omega):AV.i .i64 (IntKind.i64.wrap (n0+(↑ss[i1.toNat]!.length:Int)))=AV.i .i64 (n0+(↑ss[i1.toNat]!.length:Int))) z0)) ?_
 refine sn<|sq<|rG cx [0,3,9,10,11,20] [] (tB 1 (n0+(↑ss[i1.toNat]!.length:Int) <(0:Int)) z0)<|sn<|Aa6 (n0+(↑ss[i1.toNat]!.length:Int) <(0:Int)) (by kernel_rfl) (by kernel_rfl) (fun h9=>absurd h9 (by omega)) (fun h9=>?_)
 refine sK<|bN<|sn<|rG cx [0,3,9,10,11] [] (tW 0 (i1+1) z0)<|sn<|nX ((n0+(↑ss[i1.toNat]!.length:Int),i1+1)) (show((↑ss.length:Int)-(i1+1)).toNat <((↑ss.length:Int)-i1).toNat from(by omega)) (show A3c ss (n0+(↑ss[i1.toNat]!.length:Int)) (i1+1)from(by exact A5i (by omega) hh3 h8 hh5 h7))
 refine eX 0<|nE<|nE<|bH<|sn<|sq<|rG cx [0,6] [24] (fT (con168 (n0) (by(with_reducible assumption)) (by have:=B4c h7;omega)) (oV 1 { val:=some (.own (81:Nat) (3:Nat)),rows:=some (List.map c81 []) } z0)) ?_
 refine sn<|sq<|sq<|rG cx [6,25,26,27] [24] (tL 1 c27 ss z0)<|sn<|bL 2<|sL (X:=Int×List Record) (fun x=>⟨[(6,.own 24 0),(25,.sl (List.map c27 ss)),(26,.i .i64 ((↑ss.length:Int))),(27,.i .i64 (x.1))],[(24,⟨0,81,.row 3 (List.map c81 x.2)⟩)]⟩) (fun x ↦ Ba7 ss x.1 x.2) (fun x ↦ A5g ss x.1 x.2) [6,25,26,27] [24] (((0:Int),[])) (show A5g ss (0:Int) []from(by exact⟨by omega,by omega,by simp [A5f]⟩)) ?_
 rintro⟨i10,l11⟩ h_12
 obtain⟨h13,h14,h15⟩:0≤i10∧i10≤(↑ss.length:Int)∧A5f ss i10 l11:=h_12
 refine rE cx [6,25,26,27,28] [24] (zB 0 (i10 <(↑ss.length:Int))) (fun h16=>?_) fun h16=>?_
 refine sK<|sn<|sq<|bL 3<|sq<|rG cx [6,25,26,27,8] [24] (fA (0≤i10) (fG c27 ss i10.toNat (fR 1 (oR 0 (c27 ss[i10.toNat]!) z0))))<|sn<|rG cx [6,25,26,27] [24] (fR 81 (fR 3 (fR 3 (fX c81 ss[i10.toNat]! 3 (fP ((List.map c81 l11).length+(List.map c81 ss[i10.toNat]!).length≤maxLen) (by have:=A96 h13 h16 h15;simp only [List.length_map,Go.maxLen];omega) (fP (((List.map c81 l11).length+(List.map c81 ss[i10.toNat]!).length)*(64:Nat)≤(140737488355328:Nat)) (by have:=A96 h13 h16 h15;simp only [List.length_map];omega) (fM c81 l11 ss[i10.toNat]! (oV 2 { rows:=some (List.map c81 (l11++ss[i10.toNat]!)) } z0)))))))) ?_
 refine bN<|sn<|rG cx [6,25,26,27] [24] (tW 0 (i10+1) z0)<|sn<|nX ((i10+1,l11++ss[i10.toNat]!)) (show((↑ss.length:Int)-(i10+1)).toNat <((↑ss.length:Int)-i10).toNat from(by omega)) (show A5g ss (i10+1) (l11++ss[i10.toNat]!)from(by exact A5j h13 h16 h15))
 refine eX 2<|nE<|nE<|bH<|sn<|sq<|rG cx [2] [24] z0<|sn<|rT<|A38 (rows':=(List.map c81 l11)) .ret (.inr rfl) 2 24 0 (by kernel_rfl) (by kernel_rfl) (by kernel_rfl) (by rw[Af4 h16 h15])
theorem Ba8(a b:Record)(ha:szR a)(hb:szR b):Con Tryz.prog 167 [.agg (c81 a),.agg (c81 b)] (.b (eqR a b)) :=
 by
 refine sC B1 [.tmp 4] 9 Tryz.func167 ?_
 intro e0 cx
 refine sq<|rG cx [2,3] [2,3] z0<|sn<|sq<|rG cx [4] [] (fT (Ac7 (a) (b) (by(with_reducible assumption)) (by(with_reducible assumption))) (tB 3 (C3 a b=0) (oA 2 (.i .i64 (C3 a b)) z0)))<|sn<|rT<|qR (.b (decide (C3 a b=0))) (.eq ?g0);rotate_left
 case g0=>exact rfl
def B8b(l:List Record)(q k:Int)(m:List Record):Prop:=m=I5 (l.take q.toNat)++l.drop k.toNat∧k=((I5 (l.take q.toNat)).length:Int)
def Bk7(l:List Record)(k:Int)(m:List Record):Prop:=m=l∧1≤k∧k≤l.length∧∀ j:Nat,1≤j→(j:Int) < k→eqR l[j]! l[j-1]! = false
def decC1(l:List Record)(k:Int)(m:List Record):Nat:=(l.length-k).toNat
def B8c(l:List Record)(k0:Int)(k k2:Int)(m:List Record):Prop:=1≤k2∧k0+k2≤l.length∧k0≤k∧k≤k0+k2-1∧m.length=l.length∧B8b l (k0+k2) k m
def decC2(l:List Record)(k0:Int)(k k2:Int)(m:List Record):Nat:=(l.length-k0-k2).toNat
theorem Af6{out:List Record}{b:Go.E.Blk}{n m:Nat}(hb:b.k=.row m (out.map c81))(h:n < out.length):Go.E.rowAt b n (c81 out[n]!):=by
 unfold Go.E.rowAt
 rw[hb]
 exact F7 h
theorem A5k{l m:List Record}{q k:Int}(h:B8b l q k m){j:Nat}(h1:k≤j)(h2:j < l.length):m[j]! = l[j]!:=by
 obtain⟨e,hk⟩:=h
 have hlen:m.length=(I5 (l.take q.toNat)).length+(l.length-k.toNat):=by rw[e,List.length_append,List.length_drop]
 rw[getElem!_pos m j (by omega),getElem!_pos l j h2]
 simp only [e]
 rw[List.getElem_append_right (by omega),List.getElem_drop]
 congr 1
 omega
theorem Bk8{l m:List Record}{q k:Int}(h1:1≤q)(hq:q < l.length)(hk:k < l.length)(he:eqR l[q.toNat]! l[q.toNat-1]! = false)(h:B8b l q k m):B8b l (q+1) (k+1) (m.set k.toNat l[q.toNat]!):=by
 obtain⟨e,hl⟩:=h
 have hs:I5 (l.take (q+1).toNat)=I5 (l.take q.toNat)++[l[q.toNat]!]:=by
  unfold I5
  rw[show(q+1).toNat=q.toNat+1 by omega,A0k eqR (by omega) (by omega),he]
  rfl
 refine⟨?_,by rw[hs,List.length_append,List.length_singleton];omega⟩
 rw[hs,e,List.set_append_right _ _ (by omega),show k.toNat-(I5 (l.take q.toNat)).length=0 by omega,List.drop_eq_getElem_cons (show k.toNat < l.length by omega),show(k+1).toNat=k.toNat+1 by omega,List.append_assoc]
 rfl
theorem Bk9{l m:List Record}{q k:Int}(h1:1≤q)(hq:q < l.length)(he:eqR l[q.toNat]! l[q.toNat-1]! = true)(h:B8b l q k m):B8b l (q+1) k m:=by
 obtain⟨e,hl⟩:=h
 have hs:I5 (l.take (q+1).toNat)=I5 (l.take q.toNat):=by
  unfold I5
  rw[show(q+1).toNat=q.toNat+1 by omega,A0k eqR (by omega) (by omega),he]
  simp
 exact⟨by rw[hs];exact e,by rw[hs];exact hl⟩
theorem B8d{l:List Record}{k:Int}(h1:1≤k)(hk:k < l.length)(h:∀ j:Nat,1≤j→(j:Int) < k→eqR l[j]! l[j-1]! = false)(he:eqR l[k.toNat]! l[(k-1).toNat]! = true):B8b l (k+1) k l:=by
 have hs:I5 (l.take (k+1).toNat)=l.take k.toNat:=by
  unfold I5
  rw[show(k+1).toNat=k.toNat+1 by omega,A0k eqR (by omega) (by omega),← show(k-1).toNat=k.toNat-1 by omega,he,A2y eqR l k.toNat (by omega) (fun j h1 h2=>h j h1 (by omega))]
  simp
 refine⟨by rw[hs,List.take_append_drop],by rw[hs,List.length_take];omega⟩
theorem cm_end{l m:List Record}{q k:Int}(hq:q=l.length)(h:B8b l q k m):m.take k.toNat=I5 l:=by
 obtain⟨e,hl⟩:=h
 rw[List.take_of_length_le (by omega)]at e hl
 rw[e,List.take_append_of_le_length (by omega),List.take_of_length_le (by omega)]
theorem cm_all{l:List Record}{k:Int}(hk:¬ k < l.length)(h:∀ j:Nat,1≤j→(j:Int) < k→eqR l[j]! l[j-1]! = false):l=I5 l:=by
 have:=A2y eqR l l.length (Nat.le_refl _) (fun j h1 h2=>h j h1 (by omega))
 rw[List.take_length]at this
 exact this.symm
theorem B8e{l:List Record}(h:(l.length:Int) < 2):l=I5 l:=by
 match l,h with
 | [],_=>rfl
 | [a],_=>rfl
 | a :: b :: l,h=>simp only [List.length_cons]at h;omega
theorem A30{α:Type}(c:α→List AV){m m':List α}{k:Int}(h0:0≤k)(h1:k≤m.length)(h:m'.length=m.length):((List.take ((none:Option Int).getD ((List.map c m).length:Int)-k).toNat (List.drop k.toNat (List.map c m'))).length:Int)=m.length-k:=by
 simp only [List.length_take,List.length_drop,List.length_map,Option.getD_none]
 omega
theorem cm_no(c:Record→List AV)(m:List Record):(none:Option Int).getD ((List.map c m).length:Int)=m.length:=by simp
theorem cm_cut{m X Y:List Record}{k:Nat}(h:k≤m.length):List.take k (List.take k m++X++Y)=m.take k:=by
 rw[List.append_assoc,List.take_append_of_le_length (by rw[List.length_take];omega),List.take_take,Nat.min_self]
theorem con166(l:List Record)(hs:Az6 l)(hl:l.length≤1000000000000000):Bm9 Tryz.prog 166 81 3 (l.map c81) [.fn (.func 167) [] []] ((I5 l).map c81) :=
 by
 have nn:=fun m:List Record=>cm_no c81 m
 refine B1s B1 (by kernel_rfl) (.tmp 4) 66 Tryz.func166 (by kernel_rfl) (by kernel_rfl) (by(with_reducible refine O4 (fun _=>?_) _);kernel_rfl) (by(with_reducible refine O4 (fun _=>?_) _);kernel_rfl) ?_
 intro e0 cx
 refine sq<|rG cx [0,1] [0] z0<|sn<|sq<|rD cx [0,1,10] [0] (tL 1 c81 l (zB 2 ((↑l.length:Int) <(2:Int)))) (fun hh0=>?_) fun hh0=>?_
 refine sq<|rG cx [4] [0] z0<|sn<|rT<|nR<|A38 (rows':=(List.map c81 l)) .ret (.inr rfl) 4 0 0 (by kernel_rfl) (by kernel_rfl) (by kernel_rfl) (by rw[← B8e hh0])
 refine sK<|sn<|sq<|sq<|rG cx [0,1,5] [0] z0<|sn<|bL 0<|sL (X:=Int×List Record) (fun x=>⟨[(0,.own 0 0),(1,.fn (Fn.func (167:FuncId)) [] []),(5,.i .i64 (x.1))],[(0,⟨0,81,.row 3 (List.map c81 x.2)⟩)]⟩) (fun x ↦ decC1 l x.1 x.2) (fun x ↦ Bk7 l x.1 x.2) [0,1,5] [0] (((1:Int),l)) (show Bk7 l (1:Int) l from(by exact⟨rfl,by omega,by omega,fun j h1 h2=>by omega⟩)) ?_
 rintro⟨k1,m2⟩ h_3
 obtain⟨hh4,hh5,h6,h7⟩:m2=l∧1≤k1∧k1≤(↑l.length:Int)∧∀(j:Nat),(1:Nat)≤j→(↑j:Int) < k1→eqR l[j]! l[j-(1:Nat)]! = false:=h_3
 refine sq<|rD cx [0,1,5,15] [0] (tL 2 c81 m2 (zB 3 (k1 <(↑m2.length:Int)))) (fun h8=>?_) fun h8=>?_
 refine sK<|sn<|sq<|bL 1<|sq<|rA cx [0,1,5,28] [0] (fO (0≤k1) (fP (k1.toNat <(List.map c81 m2).length) (by(first | omega | (simp only [List.length_map];omega))) (fR 3 (fP (E.rowAt { ver:=0,ty:=81,k:=BK.row (3) (List.map c81 m2):Blk } k1.toNat (c81 m2[k1.toNat]!)) (by subst hh4;exact Af6 rfl (by omega)) (fP (0+(3:Nat)≤(c81 m2[k1.toNat]!).length) (by exact Nat.le_refl 3) (tW 7 (k1-1) (fO (0≤k1-1) (fP ((k1-1).toNat <(List.map c81 m2).length) (by(first | omega | (simp only [List.length_map];omega))) (fR 3 (fP (E.rowAt { ver:=0,ty:=81,k:=BK.row (3) (List.map c81 m2):Blk } (k1-1).toNat (c81 m2[(k1-1).toNat]!)) (by subst hh4;exact Af6 rfl (by omega)) (fP (0+(3:Nat)≤(c81 m2[(k1-1).toNat]!).length) (by exact Nat.le_refl 3) (fT (Ba8 (m2[k1.toNat]!) (m2[(k1-1).toNat]!) (by subst hh4;exact hs _ (D6 (by omega))) (by subst hh4;exact hs _ (D6 (by omega)))) (oR 4 (c81 m2[k1.toNat]!) (oR 9 (c81 m2[(k1-1).toNat]!) (oA 10 (.b (eqR m2[k1.toNat]! m2[(k1-1).toNat]!)) z0))))))))))))))) ?_
 refine sn<|W8 (eqR m2[k1.toNat]! m2[(k1-1).toNat]!) (by kernel_rfl) (by kernel_rfl) (fun h9=>?_) (fun h9=>?_)
 refine sq<|rG cx [0,1,5,6] [0] (fO (0≤k1) (fP (k1≤none.getD (↑(List.map c81 m2).length:Int)) (by rw[nn];omega) (fP (none.getD (↑(List.map c81 m2).length:Int)≤(↑(List.map c81 m2).length:Int)) (by rw[nn,List.length_map];exact Int.le_refl _) (fP (k1 <(↑(List.map c81 m2).length:Int)) (by(first | omega | (simp only [List.length_map];omega))) (fR (some (3)) z0))))) ?_
 refine sn<|sq<|sq<|rG cx [0,1,5,6,7] [0] z0<|sn<|bL 2<|sL (X:=Int×Int×List Record) (fun x=>⟨[(0,.own 0 0),(1,.fn (Fn.func (167:FuncId)) [] []),(5,.i .i64 (x.1)),(6,.vw (0) (0) (k1.toNat) ((none.getD (↑(List.map c81 m2).length:Int)-k1).toNat)),(7,.i .i64 (x.2.1))],[(0,⟨0,81,.row 3 (List.map c81 x.2.2)⟩)]⟩) (fun x ↦ decC2 l k1 x.1 x.2.1 x.2.2) (fun x ↦ B8c l k1 x.1 x.2.1 x.2.2) [0,1,5,6,7] [0] ((k1,(1:Int),m2)) (show B8c l k1 k1 (1:Int) m2 from(by subst hh4;exact⟨by omega,by omega,by omega,by omega,rfl,B8d hh5 h8 h7 h9⟩)) ?_
 rintro⟨k10,k11,m12⟩ h_13
 obtain⟨h14,h15,h16,h17,h18,h19⟩:1≤k11∧k1+k11≤(↑l.length:Int)∧k1≤k10∧k10≤k1+k11-1∧m12.length=l.length∧B8b l (k1+k11) k10 m12:=h_13
 refine sq<|rD cx [0,1,5,6,7,35] [0] (zB 3 (k11 <(↑(List.take (none.getD (↑(List.map c81 m2).length:Int)-k1).toNat (List.drop k1.toNat (List.map c81 m12))).length:Int))) (fun h20=>?_) fun h20=>?_
 refine sK<|sn<|sq<|bL 3<|sq<|rA cx [0,1,5,6,7,49] [0] (fO (0≤k11) (fP (k11.toNat <(none.getD (↑(List.map c81 m2).length:Int)-k1).toNat) (by subst hh4;rw[A30 _ (by omega) h6 h18]at h20;rw[nn];omega) (fR 3 (fP (E.rowAt { ver:=0,ty:=81,k:=BK.row (3) (List.map c81 m12):Blk } (k1.toNat+k11.toNat) (c81 m12[k1.toNat+k11.toNat]!)) (by subst hh4;rw[A30 _ (by omega) h6 h18]at h20;exact Af6 rfl (by omega)) (fP (0+(3:Nat)≤(c81 m12[k1.toNat+k11.toNat]!).length) (by exact Nat.le_refl 3) (tW 7 (k11-1) (fO (0≤k11-1) (fP ((k11-1).toNat <(none.getD (↑(List.map c81 m2).length:Int)-k1).toNat) (by subst hh4;rw[A30 _ (by omega) h6 h18]at h20;rw[nn];omega) (fR 3 (fP (E.rowAt { ver:=0,ty:=81,k:=BK.row (3) (List.map c81 m12):Blk } (k1.toNat+(k11-1).toNat) (c81 m12[k1.toNat+(k11-1).toNat]!)) (by subst hh4;rw[A30 _ (by omega) h6 h18]at h20;exact Af6 rfl (by omega)) (fP (0+(3:Nat)≤(c81 m12[k1.toNat+(k11-1).toNat]!).length) (by exact Nat.le_refl 3) (fT (Ba8 (m12[k1.toNat+k11.toNat]!) (m12[k1.toNat+(k11-1).toNat]!) (by subst hh4;rw[A30 _ (by omega) h6 h18]at h20;rw[A5k h19 (by omega) (by omega)];exact hs _ (D6 (by omega))) (by subst hh4;rw[A30 _ (by omega) h6 h18]at h20;rw[A5k h19 (by omega) (by omega)];exact hs _ (D6 (by omega)))) (tT 11 (D0:(AV.b !eqR m12[k1.toNat+k11.toNat]! m12[k1.toNat+(k11-1).toNat]!)=AV.b (decide ¬eqR m12[k1.toNat+k11.toNat]! m12[k1.toNat+(k11-1).toNat]! = true)) (oR 4 (c81 m12[k1.toNat+k11.toNat]!) (oR 9 (c81 m12[k1.toNat+(k11-1).toNat]!) (oA 10 (.b (eqR m12[k1.toNat+k11.toNat]! m12[k1.toNat+(k11-1).toNat]!)) z0)))))))))))))))) ?_
 refine sn<|dC (¬eqR m12[k1.toNat+k11.toNat]! m12[k1.toNat+(k11-1).toNat]! = true) (fun h21=>?_) fun h21=>?_
 refine sq<|rG cx [0,1,5,6,7] [0] (fO (0≤k11) (fP (k11.toNat <(none.getD (↑(List.map c81 m2).length:Int)-k1).toNat) (by subst hh4;rw[A30 _ (by omega) h6 h18]at h20;rw[nn];omega) (fR 3 (fP (E.rowAt { ver:=0,ty:=81,k:=BK.row (3) (List.map c81 m12):Blk } (k1.toNat+k11.toNat) (c81 m12[k1.toNat+k11.toNat]!)) (by subst hh4;rw[A30 _ (by omega) h6 h18]at h20;exact Af6 rfl (by omega)) (fP (0+(3:Nat)≤(c81 m12[k1.toNat+k11.toNat]!).length) (by exact Nat.le_refl 3) (fO (0≤k10) (fP (k10.toNat <(List.map c81 m12).length) (by(first | omega | (simp only [List.length_map];omega))) (fR 3 (fG c81 m12 k10.toNat (fR 3 (fP (0+(3:Nat)≤3) (by(first | omega | (simp only [List.length_map];omega))) (fP ((List.map c81 m12).set k10.toNat (List.take (0) (c81 m12[k10.toNat]!)++E2 (AV.agg [AV.s m12[k1.toNat+k11.toNat]!.sku,AV.sl (List.map c3 m12[k1.toNat+k11.toNat]!.past.vec),AV.sl (List.map B7 m12[k1.toNat+k11.toNat]!.past.cloud)])++List.drop (0+(3:Nat)) (c81 m12[k10.toNat]!))=List.map c81 (m12.set k10.toNat m12[k1.toNat+k11.toNat]!)) (by(with_reducible refine A2q ?_;kernel_rfl)) (oR 5 (c81 m12[k1.toNat+k11.toNat]!) (oV 7 { row:=(c81 m12[k10.toNat]!),rows:=some (List.map c81 (m12.set k10.toNat m12[k1.toNat+k11.toNat]!)) } z0)))))))))))))) ?_
 refine sn<|rG cx [0,1,5,6,7] [0] (tW 1 (k10+1) z0)<|bN<|sn<|rG cx [0,1,5,6,7] [0] (tW 1 (k11+1) z0)<|sn<|nX ((k10+1,k11+1,m12.set k10.toNat m12[k1.toNat+k11.toNat]!)) (show((↑l.length:Int)-k1-(k11+1)).toNat <((↑l.length:Int)-k1-k11).toNat from(by subst hh4;rw[A30 _ (by omega) h6 h18]at h20;omega)) (show B8c l k1 (k10+1) (k11+1) (m12.set k10.toNat m12[k1.toNat+k11.toNat]!)from ?g23);rotate_left
 refine sK<|bN<|sn<|rG cx [0,1,5,6,7] [0] (tW 1 (k11+1) z0)<|sn<|nX ((k10,k11+1,m12)) (show((↑l.length:Int)-k1-(k11+1)).toNat <((↑l.length:Int)-k1-k11).toNat from(by subst hh4;rw[A30 _ (by omega) h6 h18]at h20;omega)) (show B8c l k1 k10 (k11+1) m12 from ?g25);rotate_left
 refine eX 2<|nE<|nE<|bH<|sn<|sq<|rG cx [0,5] [0] (fO (0≤k10) (fP (k10≤none.getD (↑(List.map c81 m12).length:Int)) (by rw[nn];omega) (fP (none.getD (↑(List.map c81 m12).length:Int)≤(↑(List.map c81 m12).length:Int)) (by rw[nn,List.length_map];exact Int.le_refl _) (fP (k10 <(↑(List.map c81 m12).length:Int)) (by(first | omega | (simp only [List.length_map];omega))) (fR (some (3)) (fR 3 (fR 3 (fP (ZLe [AV.s { data:=#[]:ByteArray },AV.nl,AV.nl] [AV.s { sku:={ data:=#[]:ByteArray },past:={ vec:=[],cloud:=[]:Past }:Record }.sku,AV.sl (List.map c3 { sku:={ data:=#[]:ByteArray },past:={ vec:=[],cloud:=[]:Past }:Record }.past.vec),AV.sl (List.map B7 { sku:={ data:=#[]:ByteArray },past:={ vec:=[],cloud:=[]:Past }:Record }.past.cloud)]) (by exact ZLe.cons (B8.refl _) (ZLe.cons B8.nl (ZLe.cons B8.nl ZLe.nil))) (fP ((0:Nat) <(none.getD (↑(List.map c81 m12).length:Int)-k10).toNat) (by rw[nn];omega) (fP (k10.toNat+(none.getD (↑(List.map c81 m12).length:Int)-k10).toNat≤(List.map c81 m12).length) (by rw[nn,List.length_map];omega) (fP (List.take k10.toNat (List.map c81 m12)++List.replicate (none.getD (↑(List.map c81 m12).length:Int)-k10).toNat [AV.s { sku:={ data:=#[]:ByteArray },past:={ vec:=[],cloud:=[]:Past }:Record }.sku,AV.sl (List.map c3 { sku:={ data:=#[]:ByteArray },past:={ vec:=[],cloud:=[]:Past }:Record }.past.vec),AV.sl (List.map B7 { sku:={ data:=#[]:ByteArray },past:={ vec:=[],cloud:=[]:Past }:Record }.past.cloud)]++List.drop (k10.toNat+(none.getD (↑(List.map c81 m12).length:Int)-k10).toNat) (List.map c81 m12)=List.map c81 (List.take k10.toNat m12++List.replicate (none.getD (↑(List.map c81 m12).length:Int)-k10).toNat { sku:={ data:=#[]:ByteArray },past:={ vec:=[],cloud:=[]:Past }:Record }++List.drop (k10.toNat+(none.getD (↑(List.map c81 m12).length:Int)-k10).toNat) m12)) (by(with_reducible refine Bc1 ?_;kernel_rfl)) (oV 3 { row:=[.s ({ sku:={ data:=#[]:ByteArray },past:={ vec:=[],cloud:=[]:Past }:Record }.sku),.sl (List.map c3 { sku:={ data:=#[]:ByteArray },past:={ vec:=[],cloud:=[]:Past }:Record }.past.vec),.sl (List.map B7 { sku:={ data:=#[]:ByteArray },past:={ vec:=[],cloud:=[]:Past }:Record }.past.cloud)],rows:=some (List.map c81 (List.take k10.toNat m12++List.replicate (none.getD (↑(List.map c81 m12).length:Int)-k10).toNat { sku:={ data:=#[]:ByteArray },past:={ vec:=[],cloud:=[]:Past }:Record }++List.drop (k10.toNat+(none.getD (↑(List.map c81 m12).length:Int)-k10).toNat) m12)) } z0)))))))))))) ?_
 refine sn<|sq<|rG cx [4] [0] (fR (0:Int) (fO (0≤k10) (fP (k10≤(↑(List.map c81 (List.take k10.toNat m12++List.replicate (none.getD (↑(List.map c81 m12).length:Int)-k10).toNat { sku:={ data:=#[]:ByteArray },past:={ vec:=[],cloud:=[]:Past }:Record }++List.drop (k10.toNat+(none.getD (↑(List.map c81 m12).length:Int)-k10).toNat) m12)).length:Int)) (by rw[List.length_map,List.length_append,List.length_append,List.length_take];omega) (fR (some (3)) (fP (List.take k10.toNat (List.map c81 (List.take k10.toNat m12++List.replicate (none.getD (↑(List.map c81 m12).length:Int)-k10).toNat { sku:={ data:=#[]:ByteArray },past:={ vec:=[],cloud:=[]:Past }:Record }++List.drop (k10.toNat+(none.getD (↑(List.map c81 m12).length:Int)-k10).toNat) m12))=List.map c81 (List.take k10.toNat (List.take k10.toNat m12++List.replicate (none.getD (↑(List.map c81 m12).length:Int)-k10).toNat { sku:={ data:=#[]:ByteArray },past:={ vec:=[],cloud:=[]:Past }:Record }++List.drop (k10.toNat+(none.getD (↑(List.map c81 m12).length:Int)-k10).toNat) m12))) (by(with_reducible exact List.map_take.symm)) (oV 2 { rows:=some (List.map c81 (List.take k10.toNat (List.take k10.toNat m12++List.replicate (none.getD (↑(List.map c81 m12).length:Int)-k10).toNat { sku:={ data:=#[]:ByteArray },past:={ vec:=[],cloud:=[]:Past }:Record }++List.drop (k10.toNat+(none.getD (↑(List.map c81 m12).length:Int)-k10).toNat) m12))),flat:=true } z0)))))) ?_
 refine sn<|rT<|bR<|nR<|nR<|bR<|nR<|A38 (rows':=(List.map c81 (List.take k10.toNat (List.take k10.toNat m12++List.replicate (none.getD (↑(List.map c81 m12).length:Int)-k10).toNat { sku:={ data:=#[]:ByteArray },past:={ vec:=[],cloud:=[]:Past }:Record }++List.drop (k10.toNat+(none.getD (↑(List.map c81 m12).length:Int)-k10).toNat) m12)))) .ret (.inr rfl) 4 0 0 (by kernel_rfl) (by kernel_rfl) (by kernel_rfl) ?g32;rotate_left
 refine sK<|bN<|sn<|rG cx [0,1,5] [0] (tW 1 (k1+1) z0)<|sn<|nX ((k1+1,m2)) (show((↑l.length:Int)-(k1+1)).toNat <((↑l.length:Int)-k1).toNat from(by subst hh4;omega)) (show Bk7 l (k1+1) m2 from ?g34);rotate_left
 refine eX 0<|nE<|nE<|bH<|sn<|sq<|rG cx [4] [0] z0<|sn<|rT<|A38 (rows':=(List.map c81 m2)) .ret (.inr rfl) 4 0 0 (by kernel_rfl) (by kernel_rfl) (by kernel_rfl) (by subst hh4;rw[← cm_all h8 h7])
 case g23 =>
  subst hh4
  rw[A30 _ (by omega) h6 h18]at h20
  rw[A5k h19 (by omega) (by omega),A5k h19 (by omega) (by omega)]at h21
  rw[A5k h19 (by omega) (by omega)]
  have e1:k1.toNat+k11.toNat=(k1+k11).toNat:=by omega
  have e2:k1.toNat+(k11-1).toNat=(k1+k11).toNat-1:=by omega
  rw[e1,e2]at h21
  rw[e1]
  refine⟨by omega,by omega,by omega,by omega,by rw[List.length_set];exact h18,?_⟩
  rw[show k1+(k11+1)=k1+k11+1 by omega]
  exact Bk8 (by omega) (by omega) (by omega) (by simpa using h21) h19
 case g25 =>
  subst hh4
  rw[A30 _ (by omega) h6 h18]at h20
  rw[A5k h19 (by omega) (by omega),A5k h19 (by omega) (by omega)]at h21
  have e1:k1.toNat+k11.toNat=(k1+k11).toNat:=by omega
  have e2:k1.toNat+(k11-1).toNat=(k1+k11).toNat-1:=by omega
  rw[e1,e2]at h21
  refine⟨by omega,by omega,by omega,by omega,h18,?_⟩
  rw[show k1+(k11+1)=k1+k11+1 by omega]
  exact Bk9 (by omega) (by omega) (Classical.not_not.1 h21) h19
 case g32 =>
  subst hh4
  rw[A30 _ (by omega) h6 h18]at h20
  rw[cm_cut (by omega),cm_end (by omega) h19]
 case g34 =>
  subst hh4
  refine⟨rfl,by omega,by omega,fun j hj1 hj2=>?_⟩
  by_cases c:j=k1.toNat
  ·subst c;rw[← show(k1-1).toNat=k1.toNat-1 by omega];exact h9
  ·exact h7 j hj1 (by omega)
theorem B8f(l:List Record):(A69 l).length=l.length:=by
 unfold A69 srtB
 rw[List.length_map,(R4 Ba5 (l.map B0x)).length_eq,List.length_map]
theorem An1{r:Record}:Af3 r=true↔¬(¬ r.sku=noneS∧¬ U0 r.sku=true):=by
 unfold Af3
 rw[Bool.or_eq_true,decide_eq_true_iff]
 constructor
 ·rintro(h | h) ⟨h1,h2⟩
  ·exact h1 h
  ·exact h2 h
 ·intro h
  by_cases c:r.sku=noneS
  ·exact .inl c
  ·exact .inr (Classical.byContradiction fun k=>h ⟨c,k⟩)
theorem Av6{rs:List Record}{i:Int}(h0:0≤i)(hi:i < rs.length)(h:¬ rs[i.toNat]!.sku=noneS∧¬ U0 rs[i.toNat]!.sku=true):I3 rs=([],5):=by
 unfold I3
 rw[if_neg]
 intro k
 exact An1.1 (List.all_eq_true.1 k _ (D6 (by omega))) h
theorem B4d{rs:List Record}{i:Int}(hi:¬ i < rs.length)(h:∀ j:Nat,(j:Int) < i→Af3 rs[j]! = true):I3 rs=(A76 (lsR rs),0):=by
 unfold I3
 rw[if_pos]
 rw[List.all_eq_true]
 intro r hr
 obtain⟨j,hj,rfl⟩:=List.mem_iff_getElem.1 hr
 have:=h j (by omega)
 rwa [getElem!_pos rs j hj]at this
theorem B4e{rs:List Record}{i:Int}(h0:0≤i)(hi:i < rs.length):lsR (rs.take (i+1).toNat)=lsR (rs.take i.toNat)++(if E3 rs[i.toNat]!.past=0 then[]else[clnR rs[i.toNat]!]):=by
 unfold lsR
 rw[← D9 h0 hi,List.filter_append,List.map_append]
 congr 1
 generalize rs[i.toNat]! = r
 by_cases h:E3 r.past=0
 ·rw[if_pos h,List.filter_cons_of_neg (by rw[decide_eq_true_iff];exact fun k=>k h)];rfl
 ·rw[if_neg h,List.filter_cons_of_pos (by rw[decide_eq_true_iff];exact h)];rfl
def B8g(rs:List Record)(i:Int)(out:List Record):Prop:=0≤i∧i≤rs.length∧(out.length:Int)≤i∧(∀ j:Nat,(j:Int) < i→Af3 rs[j]! = true)∧out=lsR (rs.take i.toNat)
def decKs(rs:List Record)(i:Int)(out:List Record):Nat:=(rs.length-i).toNat
theorem con122(rs:List Record)(hb:Az6 rs)(hl:rs.length*64≤140737488350000):Con Tryz.prog 122 [.sl (rs.map c81)] (.tup [.sl ((I3 rs).1.map c81),.i .i64 (I3 rs).2]) :=
 by
 refine lN 0 c81 (rs) Tryz.func122 fun hl_0=>sC B1 [.tmp 2,.tmp 3] 36 Tryz.func122 ?_
 intro e0 cx
 refine sq<|rG cx [0] [] z0<|sn<|sq<|rG cx [0,4] [] z0<|sn<|sq<|sq<|rG cx [4,7,8,9] [] (tL 1 c81 rs z0)<|sn<|bL 0<|H8 4 1004 81 3 (σ':=⟨[(4,.own 1004 0),(7,.sl (List.map c81 rs)),(8,.i .i64 ((↑rs.length:Int))),(9,.i .i64 ((0:Int)))],[(1004,⟨0,81,.row 3 (List.map c81 [])⟩)]⟩) (by kernel_rfl)<|sL (X:=Int×List Record) (fun x=>⟨[(4,.own 1004 0),(7,.sl (List.map c81 rs)),(8,.i .i64 ((↑rs.length:Int))),(9,.i .i64 (x.1))],[(1004,⟨0,81,.row 3 (List.map c81 x.2)⟩)]⟩) (fun x ↦ decKs rs x.1 x.2) (fun x ↦ B8g rs x.1 x.2) [4,7,8,9] [1004] (((0:Int),[])) (show B8g rs (0:Int) []from(by exact⟨by omega,by omega,by simp,fun j hj=>by omega,by simp [lsR]⟩)) ?_
 rintro⟨i0,o1⟩ h_2
 obtain⟨hh3,hh4,hh5,hh6,hh7⟩:0≤i0∧i0≤(↑rs.length:Int)∧(↑o1.length:Int)≤i0∧(∀(j:Nat),(↑j:Int) < i0→Af3 rs[j]! = true)∧o1=lsR (List.take i0.toNat rs):=h_2
 refine rE cx [4,7,8,9,10] [1004] (zB 0 (i0 <(↑rs.length:Int))) (fun h8=>?_) fun h8=>?_
 refine sK<|sn<|sq<|bL 1<|sq<|rG cx [4,7,8,9,6] [1004,6] (fA (0≤i0) (fG c81 rs i0.toNat (fR 3 (fN 3 3 (oR 0 (c81 rs[i0.toNat]!) z0)))))<|sn<|sq<|sq<|B4 (σ':=⟨[(4,.own 1004 0),(7,.sl (List.map c81 rs)),(8,.i .i64 ((↑rs.length:Int))),(9,.i .i64 (i0)),(6,.ptr (6) (0) (0) (0)),(21,.b (decide (¬rs[i0.toNat]!.sku={ data:=#[]:ByteArray }∧¬U0 rs[i0.toNat]!.sku=true)))],[(1004,⟨0,81,.row 3 (List.map c81 o1)⟩),(6,⟨0,81,.var [.s (rs[i0.toNat]!.sku),.sl (List.map c3 rs[i0.toNat]!.past.vec),.sl (List.map B7 rs[i0.toNat]!.past.cloud)]⟩)]⟩) ?_ ?_
 refine A4 (¬rs[i0.toNat]!.sku={ data:=#[]:ByteArray }) (fun h_10=>?_) (fun h_10=>?_)
 refine rG cx [4,7,8,9,6,21] [1004,6] (tT 2 (A1l h_10:(AV.b !rs[i0.toNat]!.sku.toList == { data:=#[]:ByteArray }.toList)=AV.b true) (fT (B34 (rs[i0.toNat]!.sku)) (tT 7 (D0:(AV.b !U0 rs[i0.toNat]!.sku)=AV.b (decide ¬U0 rs[i0.toNat]!.sku=true)) (tD 8 (decide ¬U0 rs[i0.toNat]!.sku=true) (¬rs[i0.toNat]!.sku={ data:=#[]:ByteArray }∧¬U0 rs[i0.toNat]!.sku=true) (by simp only [eq_false h_10,tsl]) (oA 6 (.b (U0 rs[i0.toNat]!.sku)) z0))))) ?_
 exact⟨rfl,by kernel_rfl⟩
 refine rG cx [4,7,8,9,6,21] [1004,6] (tT 2 (A3s:(AV.b !rs[i0.toNat]!.sku.toList == { data:=#[]:ByteArray }.toList)=AV.b (decide ¬rs[i0.toNat]!.sku={ data:=#[]:ByteArray })) (tT 3 (A3 h_10) (tT 8 (by first | (simp only [eq_false h_10,tsl];done) | simp_all:AV.b false=AV.b (decide (¬rs[i0.toNat]!.sku={ data:=#[]:ByteArray }∧¬U0 rs[i0.toNat]!.sku=true))) z0))) ?_
 exact⟨rfl,by kernel_rfl⟩
 refine sn<|dC (¬rs[i0.toNat]!.sku={ data:=#[]:ByteArray }∧¬U0 rs[i0.toNat]!.sku=true) (fun h11=>?_) fun h11=>?_
 refine sq<|rG cx [2,3] [] z0<|sn<|rT<|nR<|bR<|nR<|nR<|bR<|nR<|qR (.tup [.nl,.i .i64 ((5:Int))]) (B8.tup (ZLe.cons (B8.nl' (show List.map c81 (I3 rs).1=[]from(by rw[Av6 hh3 h8 h11];rfl))) (ZLe.cons (B8.eq (show AV.i .i64 5=AV.i .i64 (I3 rs).2 from(by rw[Av6 hh3 h8 h11]))) ZLe.nil)))
 refine sK<|sn<|sq<|rG cx [4,7,8,9,6,25] [1004,6] (fT (Az5 (rs[i0.toNat]!.past) (by exact Q9 hb hh3 h8)) (tQ 3 (E3 rs[i0.toNat]!.past=0) (oA 2 (.b (decide (E3 rs[i0.toNat]!.past=0))) z0))) ?_
 refine sn<|dC (¬E3 rs[i0.toNat]!.past=0) (fun h12=>?_) fun h12=>?_
 refine rG cx [4,7,8,9] [1004] (fT (Ba3 (rs[i0.toNat]!) (by exact Q9 hb hh3 h8)) (fR 81 (fR 3 (fR 3 (fX c81 [{ sku:=rs[i0.toNat]!.sku,past:=A5 rs[i0.toNat]!.past:Record }] 3 (fS c81 o1 c81 [{ sku:=rs[i0.toNat]!.sku,past:=A5 rs[i0.toNat]!.past:Record }] (fP (((List.map c81 o1).length+(List.map c81 [{ sku:=rs[i0.toNat]!.sku,past:=A5 rs[i0.toNat]!.past:Record }]).length)*(64:Nat)≤(140737488355328:Nat)) (by(simp only [Go.maxLen,List.length_map,List.length_append,List.length_cons,List.length_nil];omega)) (fM c81 o1 [{ sku:=rs[i0.toNat]!.sku,past:=A5 rs[i0.toNat]!.past:Record }] (oA 2 (.agg [.s ({ sku:=rs[i0.toNat]!.sku,past:=A5 rs[i0.toNat]!.past:Record }.sku),.sl (List.map c3 { sku:=rs[i0.toNat]!.sku,past:=A5 rs[i0.toNat]!.past:Record }.past.vec),.sl (List.map B7 { sku:=rs[i0.toNat]!.sku,past:=A5 rs[i0.toNat]!.past:Record }.past.cloud)]) (oV 4 { rows:=some (List.map c81 (o1++[{ sku:=rs[i0.toNat]!.sku,past:=A5 rs[i0.toNat]!.past:Record }])) } z0)))))))))) ?_
 refine bN<|sn<|rG cx [4,7,8,9] [1004] (tW 0 (i0+1) z0)<|sn<|nX ((i0+1,o1++[{ sku:=rs[i0.toNat]!.sku,past:=A5 rs[i0.toNat]!.past:Record }])) (show((↑rs.length:Int)-(i0+1)).toNat <((↑rs.length:Int)-i0).toNat from(by omega)) (show B8g rs (i0+1) (o1++[{ sku:=rs[i0.toNat]!.sku,past:=A5 rs[i0.toNat]!.past:Record }])from ?g5);rotate_left
 refine sK<|bN<|sn<|rG cx [4,7,8,9] [1004] (tW 0 (i0+1) z0)<|sn<|nX ((i0+1,o1)) (show((↑rs.length:Int)-(i0+1)).toNat <((↑rs.length:Int)-i0).toNat from(by omega)) (show B8g rs (i0+1) o1 from ?g6);rotate_left
 refine eX 0<|nE<|nE<|bH<|sn<|sq<|rG cx [4] [1004] (fP (Y4 Tryz.prog (165:FuncId) (106:FuncId) none false (81:Nat) (3:Nat) (List.map c81 o1) (List.map c81 (A69 o1))) (io165 (o1) (by rw[hh7];exact B87 _) (by omega)) (oV 1 { rows:=some (List.map c81 (A69 o1)) } z0)) ?_
 refine sn<|sq<|rG cx [2,3] [1004] (fT (con166 (A69 o1) (by exact B86 (A5e _)) (by rw[B8f];omega)) (oV 1 { val:=some (.vw (0) (0) (0) (0)),rows:=some (List.map c81 (I5 (A69 o1))) } z0)) ?_
 refine sn<|rT<|qR (.tup [.sl (((E.look [(1,{ val:=some (AV.vw (0) (0) (0) (0)),rows:=some (List.map c81 (I5 (A69 o1))):Ov })] (1)).getD {:Ov }).rows.getD []),.i .i64 ((0:Int))]) (B8.tup (ZLe.cons (B8.eq (show AV.sl (((E.look [(1,{ val:=some (AV.vw (0) (0) (0) (0)),rows:=some (List.map c81 (I5 (A69 o1))):Ov })] (1)).getD {:Ov }).rows.getD [])=AV.sl (List.map c81 (I3 rs).1)from ?g11)) (ZLe.cons (B8.eq (show AV.i .i64 0=AV.i .i64 (I3 rs).2 from(by rw[B4d h8 hh6]))) ZLe.nil)));rotate_left
 case g5 =>
  refine⟨by omega,by omega,by rw[List.length_append,List.length_singleton];omega,fun j hj=>?_,?_⟩
  ·by_cases e:j=i0.toNat
   ·rw[e];exact An1.2 h11
   ·exact hh6 j (by omega)
  ·rw[B4e hh3 h8,if_neg h12,hh7];rfl
 case g6 =>
  refine⟨by omega,by omega,by omega,fun j hj=>?_,?_⟩
  ·by_cases e:j=i0.toNat
   ·rw[e];exact An1.2 h11
   ·exact hh6 j (by omega)
  ·rw[B4e hh3 h8,if_pos (Classical.not_not.1 h12),hh7,List.append_nil]
 case g11 =>
  rw[B4d h8 hh6]
  rw[List.take_of_length_le (by omega)]at hh7
  rw[hh7]
  rfl
theorem con75(a b:List Record)(ha:Az6 a)(hb:Az6 b)(hl:(a.length+b.length)*64≤140737488350000):Con Tryz.prog 75 [.sl (a.map c81),.sl (b.map c81)] (.tup [.sl ((F2 a b).1.map c81),.i .i64 (F2 a b).2]) :=
 by
 have no:¬G9 a=0∨¬G9 b=0→F2 a b=([],1):=fun h=>by unfold F2;rw[if_neg (fun k=>h.elim (fun g=>g k.1) (fun g=>g k.2))]
 have yes:¬(¬G9 a=0∨¬G9 b=0)→G9 a=0∧G9 b=0:=fun h=>⟨Classical.not_not.1 fun k=>h (.inl k),Classical.not_not.1 fun k=>h (.inr k)⟩
 have fl:[a,b].flatten=a++b:=by simp
 have un:¬(¬G9 a=0∨¬G9 b=0)→I3 [a,b].flatten=F2 a b:=fun h=>by rw[fl,B0h (yes h).1 (yes h).2];unfold F2;rw[if_pos (yes h)]
 refine lN 0 c81 (a) Tryz.func75 fun hl_0=>lN 1 c81 (b) Tryz.func75 fun hl_1=>sC B1 [.tmp 4,.tmp 5] 21 Tryz.func75 ?_
 intro e0 cx
 refine sq<|rG cx [0,1] [] z0<|sn<|sq<|sq<|B4 (σ':=⟨[(0,.sl (List.map c81 a)),(1,.sl (List.map c81 b)),(13,.b (decide (¬G9 a=0∨¬G9 b=0)))],[]⟩) ?_ ?_
 refine A4 (¬G9 a=0) (fun h_1=>?_) (fun h_1=>?_)
 refine rG cx [0,1,13] [] (fT (Az7 (a) (by(with_reducible assumption))) (tT 2 (C4 h_1:AV.b (G9 a !=0)=AV.b true) (tD 7 true (¬G9 a=0∨¬G9 b=0) (by simp only [eq_false h_1,tsl]) (oA 1 (.i .i64 (G9 a)) z0)))) ?_
 exact⟨rfl,by kernel_rfl⟩
 refine rG cx [0,1,13] [] (fT (Az7 (a) (by(with_reducible assumption))) (tN 2 (G9 a) (0:Int) (tT 3 (A3 h_1) (fT (Az7 (b) (by(with_reducible assumption))) (tN 6 (G9 b) (0:Int) (tT 7 (by first | (simp only [eq_false h_1,tsl];done) | simp_all:AV.b (decide ¬G9 b=0)=AV.b (decide (¬G9 a=0∨¬G9 b=0))) (oA 1 (.i .i64 (G9 a)) (oA 5 (.i .i64 (G9 b)) z0)))))))) ?_
 exact⟨rfl,by kernel_rfl⟩
 refine sn<|dC (¬G9 a=0∨¬G9 b=0) (fun h2=>?_) fun h2=>?_
 refine sq<|rG cx [4,5] [] z0<|sn<|rT<|nR<|qR (.tup [.nl,.i .i64 ((1:Int))]) (B8.tup (ZLe.cons (B8.nl' (show List.map c81 (F2 a b).1=[]from(by rw[no h2];rfl))) (ZLe.cons (B8.eq (show AV.i .i64 1=AV.i .i64 (F2 a b).2 from(by rw[no h2]))) ZLe.nil)))
 refine sK<|sn<|sq<|rG cx [4,5] [] (fT (con123 ([a,b]) (by rw[fl,List.length_append];omega)) (fT (con122 ([a,b].flatten) (by rw[fl];exact fun r hr=>(List.mem_append.1 hr).elim (ha r) (hb r)) (by rw[fl,List.length_append];omega)) (oV 3 { val:=some (.own (81:Nat) (3:Nat)),rows:=some (List.map c81 [a,b].flatten) } (oA 4 (.tup [.sl (List.map c81 (I3 [a,b].flatten).1),.i .i64 ((I3 [a,b].flatten).2)]) z0)))) ?_
 refine sn<|rT<|qR (.tup [.sl (List.map c81 (I3 [a,b].flatten).1),.i .i64 ((I3 [a,b].flatten).2)]) (B8.tup (ZLe.cons (B8.eq (show AV.sl (List.map c81 (I3 [a,b].flatten).1)=AV.sl (List.map c81 (F2 a b).1)from(by rw[un h2]))) (ZLe.cons (B8.eq (show AV.i .i64 (I3 [a,b].flatten).2=AV.i .i64 (F2 a b).2 from(by rw[un h2]))) ZLe.nil)))
end Go.Proofs.YtaiepnaokhpmcaaGreat
namespace Go.Proofs.YtaiepnaokhpmcaaGreat
open Go.E
set_option maxRecDepth 100000
set_option maxHeartbeats 4000000
theorem B4f{a b:List Record}(ha:G9 a=0)(hb:G9 b=0):F2 a b=(A76 (a++b),0):=by unfold F2;rw[if_pos ⟨ha,hb⟩]
theorem Af7{a b:List Record}(ha:G9 a=0)(hb:G9 b=0):A0z (a++b):=fun r hr=>(A8h.1 (A2e ha hb r hr)).2.1
theorem con124(r:Record)(e:Entry)(hl:szR r):Con Tryz.prog 124 [.agg (c81 r),.agg (c45 e)] (.b (A2l r e)) :=
 by
 have hq:r.past.cloud.length≤9223372036854775807:=by unfold szR at hl;omega
 refine sC B1 [.tmp 4] 22 Tryz.func124 ?_
 intro e0 cx
 refine sq<|rG cx [2,3] [2,3] z0<|sn<|sq<|B4 (σ':=⟨[(4,.b (decide (r.sku={ data:=#[]:ByteArray }∧C5 r.past e.dot=true∨¬r.sku={ data:=#[]:ByteArray }∧r.sku=e.sku∧C5 r.past e.dot=true)))],[]⟩) ?_ ?_
 refine A4 (r.sku={ data:=#[]:ByteArray }) (fun h1=>?_) (fun h1=>?_)
 refine rG cx [4] [] (tT 2 (A1k h1:AV.b (r.sku.toList == { data:=#[]:ByteArray }.toList)=AV.b true) (fT (A20 (r.past) (e.dot) (by exact hq)) (tD 17 (C5 r.past e.dot) (r.sku={ data:=#[]:ByteArray }∧C5 r.past e.dot=true∨¬r.sku={ data:=#[]:ByteArray }∧r.sku=e.sku∧C5 r.past e.dot=true) (by simp only [eq_true h1,tsl]) (oA 15 (.b (C5 r.past e.dot)) z0)))) ?_
 exact⟨rfl,by kernel_rfl⟩
 refine A4 (r.sku=e.sku) (fun h2=>?_) (fun h2=>?_)
 refine rG cx [4] [] (tT 2 (U8 h1:AV.b (r.sku.toList == { data:=#[]:ByteArray }.toList)=AV.b false) (tT 8 (A1k h2:AV.b (r.sku.toList == e.sku.toList)=AV.b true) (fT (A20 (r.past) (e.dot) (by exact hq)) (tD 17 (C5 r.past e.dot) (r.sku={ data:=#[]:ByteArray }∧C5 r.past e.dot=true∨¬r.sku={ data:=#[]:ByteArray }∧r.sku=e.sku∧C5 r.past e.dot=true) (by simp only [eq_false h1,eq_true h2,tsl]) (oA 15 (.b (C5 r.past e.dot)) z0))))) ?_
 exact⟨rfl,by kernel_rfl⟩
 refine rG cx [4] [] (tT 2 (U8 h1:AV.b (r.sku.toList == { data:=#[]:ByteArray }.toList)=AV.b false) (tT 8 (U8 h2:AV.b (r.sku.toList == e.sku.toList)=AV.b false) (tD 17 false (r.sku={ data:=#[]:ByteArray }∧C5 r.past e.dot=true∨¬r.sku={ data:=#[]:ByteArray }∧r.sku=e.sku∧C5 r.past e.dot=true) (by simp only [eq_false h1,eq_false h2,tsl]) z0))) ?_
 exact⟨rfl,by kernel_rfl⟩
 refine sn<|rT<|qR (.b (decide (r.sku={ data:=#[]:ByteArray }∧C5 r.past e.dot=true∨¬r.sku={ data:=#[]:ByteArray }∧r.sku=e.sku∧C5 r.past e.dot=true))) (.eq ?g2);rotate_left
 case g2 =>
  refine congrArg AV.b ?_
  rw[Bool.eq_iff_iff,A18,decide_eq_true_iff]
  show(r.sku=noneS∧_∨¬ r.sku=noneS∧_)↔_
  by_cases c:r.sku=noneS <;> simp [c]
theorem Af8(rs:List Record)(e:Entry){i:Int}(h0:0≤i)(h1:i < rs.length):G3 (rs.take (i+1).toNat) e=G3 (rs.take i.toNat) e+if A2l rs[i.toNat]! e=true then 1 else 0:=by
 unfold G3
 rw[← D9 h0 h1,List.filter_append,List.length_append]
 generalize rs[i.toNat]! = x
 split
 ·rename_i h;simp [List.filter_cons,h]
 ·rename_i h;simp [List.filter_cons,h]
theorem con76(rs:List Record)(e:Entry)(hb:Az6 rs):Con Tryz.prog 76 [.sl (rs.map c81),.agg (c45 e)] (.i .i64 (G3 rs e)) :=
 by
 refine lN 0 c81 (rs) Tryz.func76 fun hl_0=>sC B1 [.tmp 4] 22 Tryz.func76 ?_
 intro e0 cx
 refine sq<|rG cx [0,3] [3] z0<|sn<|sq<|rG cx [0,3,5] [3] z0<|sn<|sq<|sq<|rG cx [0,3,5,6] [3] z0<|sn<|bL 0<|sL (X:=Int×Int×Int×Int×ByteArray×Int) (fun x=>⟨[(0,.sl (List.map c81 rs)),(3,.ptr (3) (0) (0) (0)),(5,.i .i64 (x.1)),(6,.i .i64 (x.2.1))],[(3,⟨0,45,.var [.i .i64 (x.2.2.1),.i .i64 (x.2.2.2.1),.s (x.2.2.2.2.1),.i .i64 (x.2.2.2.2.2)]⟩)]⟩) (fun x ↦ decBr rs x.1 x.2.1 x.2.2.1 x.2.2.2.1 x.2.2.2.2.1 x.2.2.2.2.2) (fun x ↦ Ae7 rs e x.1 x.2.1 x.2.2.1 x.2.2.2.1 x.2.2.2.2.1 x.2.2.2.2.2) [0,3,5,6] [3] (((0:Int),(0:Int),e.dot.rep,e.dot.num,e.sku,e.qty)) (show Ae7 rs e (0:Int) (0:Int) e.dot.rep e.dot.num e.sku e.qty from(by exact⟨rfl,rfl,rfl,rfl,by omega,by omega,by omega,by omega,by simp [G3]⟩)) ?_
 rintro⟨n0,i1,r2,m3,s4,q5⟩ h_6
 obtain⟨hh7,hh8,hh9,hh10,h11,h12,h13,h14,h15⟩:r2=e.dot.rep∧m3=e.dot.num∧s4=e.sku∧q5=e.qty∧0≤i1∧i1≤(↑rs.length:Int)∧0≤n0∧n0≤i1∧n0=G3 (List.take i1.toNat rs) e:=h_6
 refine sq<|rD cx [0,3,5,6,10] [3] (tL 2 c81 rs (zB 3 (i1 <(↑rs.length:Int)))) (fun h16=>?_) fun h16=>?_
 refine sK<|sn<|sq<|bL 1<|sq<|rA cx [0,3,5,6,18] [3] (fA (0≤i1) (fG c81 rs i1.toNat (fR 3 (fN 3 3 (fT (con124 (rs[i1.toNat]!) ({ dot:={ rep:=r2,num:=m3:Dot },sku:=s4,qty:=q5:Entry }) (by exact Q9 hb h11 h16)) (oR 2 (c81 rs[i1.toNat]!) (oA 5 (.b (A2l rs[i1.toNat]! { dot:={ rep:=r2,num:=m3:Dot },sku:=s4,qty:=q5:Entry })) z0))))))) ?_
 refine sn<|W8 (A2l rs[i1.toNat]! { dot:={ rep:=r2,num:=m3:Dot },sku:=s4,qty:=q5:Entry }) (by kernel_rfl) (by kernel_rfl) (fun h17=>?_) (fun h17=>?_)
 refine rG cx [0,3,5,6] [3] (tW 1 (n0+1) z0)<|bN<|sn<|rG cx [0,3,5,6] [3] (tW 1 (i1+1) z0)<|sn<|nX ((n0+1,i1+1,r2,m3,s4,q5)) (show((↑rs.length:Int)-(i1+1)).toNat <((↑rs.length:Int)-i1).toNat from(by omega)) (show Ae7 rs e (n0+1) (i1+1) r2 m3 s4 q5 from ?g2);rotate_left
 refine sK<|bN<|sn<|rG cx [0,3,5,6] [3] (tW 1 (i1+1) z0)<|sn<|nX ((n0,i1+1,r2,m3,s4,q5)) (show((↑rs.length:Int)-(i1+1)).toNat <((↑rs.length:Int)-i1).toNat from(by omega)) (show Ae7 rs e n0 (i1+1) r2 m3 s4 q5 from ?g3);rotate_left
 refine eX 0<|nE<|nE<|bH<|sn<|sq<|rG cx [4] [] z0<|sn<|rT<|qR (.i .i64 (n0)) (.eq (by rw[h15,List.take_of_length_le (by omega)]))
 case g2 =>
  subst hh7 hh8 hh9 hh10
  refine⟨rfl,rfl,rfl,rfl,by omega,by omega,by omega,by omega,?_⟩
  rw[Af8 rs e h11 h16,if_pos h17,h15]
 case g3 =>
  subst hh7 hh8 hh9 hh10
  refine⟨rfl,rfl,rfl,rfl,by omega,by omega,by omega,by omega,?_⟩
  have h17:A2l rs[i1.toNat]! e=false:=h17
  rw[Af8 rs e h11 h16,if_neg (by rw[h17];simp),h15]
  omega
end Go.Proofs.YtaiepnaokhpmcaaGreat
namespace Go.Proofs.YtaiepnaokhpmcaaGreat
open Go.E
set_option maxRecDepth 100000
set_option maxHeartbeats 4000000
theorem An2{a b:Dot}:dLt a b=true↔a.rep < b.rep∨a.rep=b.rep∧a.num < b.num:=by simp [dLt]
theorem A5l(a:Dot):¬ dLt a a=true:=by rw[An2];omega
theorem Af9{a b c:Dot}(h1:dLt a b=true)(h2:dLt b c=true):dLt a c=true:=by rw[An2]at *;omega
theorem Ag0{a b:Dot}(h1:¬ dLt a b=true)(h2:¬ dLt b a=true):a=b:=by
 rw[An2]at *
 cases a;cases b
 simp only at *
 congr 1 <;> omega
def upE(es:List Entry):Prop:=es.Pairwise (fun a b=>dLt a.dot b.dot=true)
def A19(es:List Entry):Prop:=(∀ e∈es,R8 e=0)∧upE es
theorem Bl0(es:List Entry):okL es=true↔A19 es:=by
 constructor
 ·intro h
  refine⟨fun e he=>?_,?_⟩
  ·obtain⟨i,hi,rfl⟩:=List.mem_iff_getElem.1 he
   have:=(A0x h hi).1
   rwa [getElem!_pos es i hi]at this
  ·unfold upE
   rw[List.pairwise_iff_getElem]
   have step:∀ n i:Nat,(hi:i+n+1 < es.length)→dLt es[i]!.dot es[i+n+1]!.dot=true:=by
    intro n
    induction n with
    | zero =>
     intro i hi
     have:=(A0x h hi).2
     rcases this with k | k
     ·omega
     ·simpa using k
    | succ n ih =>
     intro i hi
     have h1:=ih i (by omega)
     have h2:=(A0x h (i:=i+(n+1)+1) hi).2
     rcases h2 with k | k
     ·omega
     ·rw[show i+(n+1)+1-1=i+n+1 by omega]at k;exact Af9 h1 k
   intro i j hi hj hij
   have:=step (j-i-1) i (by omega)
   rw[show i+(j-i-1)+1=j by omega,getElem!_pos es i hi,getElem!_pos es j hj]at this
   exact this
 ·rintro⟨h1,h2⟩
  unfold upE at h2
  rw[List.pairwise_iff_getElem]at h2
  unfold okL
  rw[K2]
  intro i hi
  rw[X6]
  refine⟨h1 _ (A7y hi),?_⟩
  by_cases e:i=0
  ·exact .inl e
  ·refine .inr ?_
   have:=h2 (i-1) i (by omega) hi (by omega)
   rwa [getElem!_pos es (i-1) (by omega),getElem!_pos es i hi]
theorem Y1(es:List Entry):E5 es=0↔A19 es:=by
 rw[← Bl0]
 exact⟨L8,fun h=>by unfold E5;rw[if_pos h]⟩
theorem A2g{l es:List Entry}(h:A19 es)(hs:l.Sublist es):A19 l:=⟨fun e he=>h.1 e (hs.subset he),List.Pairwise.sublist hs h.2⟩
theorem A2h{es:List Entry}(h:A19 es){x y:Entry}(hx:x∈es)(hy:y∈es)(hd:x.dot=y.dot):x=y:=by
 obtain⟨i,hi,rfl⟩:=List.mem_iff_getElem.1 hx
 obtain⟨j,hj,rfl⟩:=List.mem_iff_getElem.1 hy
 have hp:=List.pairwise_iff_getElem.1 h.2
 by_cases e:i=j
 ·subst e;rfl
 ·rcases Nat.lt_or_gt_of_ne e with e | e
  ·have:=hp i j hi hj e;rw[hd]at this;exact absurd this (A5l _)
  ·have:=hp j i hj hi e;rw[hd]at this;exact absurd this (A5l _)
theorem A78:∀ {a b:List Entry},upE a→upE b→(∀ e,e∈a↔e∈b)→a=b
 | [],[],_,_,_=>rfl
 | [],y :: b,_,_,h=>by have:=(h y).2 (by simp);cases this
 | x :: a,[],_,_,h=>by have:=(h x).1 (by simp);cases this
 | x :: a,y :: b,ha,hb,h=>by
  have pa:=List.pairwise_cons.1 ha
  have pb:=List.pairwise_cons.1 hb
  have e:x=y:=by
   apply Classical.byContradiction
   intro hne
   have h1:x∈b:=by
    rcases List.mem_cons.1 ((h x).1 (by simp))with k | k
    ·exact absurd k hne
    ·exact k
   have h2:y∈a:=by
    rcases List.mem_cons.1 ((h y).2 (by simp))with k | k
    ·exact absurd k.symm hne
    ·exact k
   exact A5l _ (Af9 (pa.1 y h2) (pb.1 x h1))
  subst e
  rw[A78 pa.2 pb.2 fun e=>?_]
  constructor
  ·intro he
   rcases List.mem_cons.1 ((h e).1 (by simp [he]))with k | k
   ·subst k;exact absurd (pa.1 e he) (A5l _)
   ·exact k
  ·intro he
   rcases List.mem_cons.1 ((h e).2 (by simp [he]))with k | k
   ·subst k;exact absurd (pb.1 e he) (A5l _)
   ·exact k
end Go.Proofs.YtaiepnaokhpmcaaGreat
