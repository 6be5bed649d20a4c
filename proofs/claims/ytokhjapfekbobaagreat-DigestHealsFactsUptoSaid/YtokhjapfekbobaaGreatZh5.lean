/- Ta: the act layer's document: entries, records, facts in form. Conditions: sizes. Kw: keep.Waits and the document's; lists of entries in the document's chapter 7. Conditions: sizes. Ya: the library's stable sort, piece by piece: what each function of it does to the row. Conditions: what is asked of 'less' and of 'swap'. Yb: the library's stable sort: symMerge puts two sorted runs into one. Conditions: what is asked of 'less' and of 'swap'; the order. Yc: the library's stable sort, whole: blocks of 20 by insertion, then merged by pairs. Conditions: what is asked of 'less' and of 'swap'; the order. Yd: the library's stable sort: the one order that it gives (by tags: each element with its place), and sort.SliceStable. Conditions: what is asked of 'less'; the order; the types. Ye: sort.SliceStable, walked. Conditions: what is asked of 'less'; the order; the types. Yg: sort.SliceStable as a call that puts a row of one's own into the stable order. Conditions: 'less' by its contract; the order; the types. Le: lines: the library's sort at entries; copies; what sorted lists come to. Conditions: none. Lf: lines: Sort, Find and what the document says of them. Conditions: sizes. Tt: tomb: in plain words. Conditions: none. Tu: tomb: Check, Less, Within, Order. Conditions: sizes. Lm: lines: Dots, Inside, Outside. Conditions: sizes. Tv: the document's Check, Less, Within, Order, Copy, Equal. Conditions: sizes. Lh: lines: Union, and the library's Grow and Concat at entries. Conditions: sizes. Ks: records: slices.SortFunc, CompactFunc, Grow and Concat at them, keep.Sort, keep.Union. Conditions: sizes. Kt: records in the documents: ordered, Union, Bars. Conditions: sizes. Lpa: entries in form, in plain words (first part). Conditions: none. Tx: tomb: Join, Live, Past, Clash, and the document's. Conditions: sizes. Lp: entries in form, in plain words. Conditions: none. Tn: what the tomb's calls come to, in plain words. Conditions: none. Xa: the values of more Go types (a state is taken as facts: live, past, waiting). Conditions: none. Sp: compact states: in plain words. Conditions: none. Sw: swot.Check; digest's Check, OfFacts, OfSwot, LackFacts, LackSwot. Conditions: sizes. Ea: act.Effect, the document's Effect. Conditions: sizes. -/
import Derived.Below
import Derived.OwnWalk
import Derived.WalkKit
import Derived.KernelRfl
import Derived.Laws.MakeOwn
import Derived.Laws.OwnMore
import Derived.Laws.Slices
import Derived.Laws.CopyOwn
import Derived.Laws.AppendOwnNone
import Derived.Laws.Rows
import Derived.Orders
import Derived.Test.YtokhjapfekbobaaGreatProg
import Derived.DataReads
import Derived.ChangeOld
import Derived.DataElems
import Derived.SizedLaws
import Derived.ChangeKeysEq
import Derived.Sort.LotA
import Derived.Shelf.SlSortFuncK.RowK2
import Derived.Shelf.SlSortCmp.NoneTotal
import Derived.Lib.Walk
import Derived.Shelf.SlLaysE0
import Derived.Shelf.RegionOpenPlain
import Derived.Deep.LoopGhost
import Derived.Lib.SliceRun
import Derived.Lib.Bytealg
import Derived.Calls
import Derived.Shelf.SlSortFuncK.SWK
import Derived.Deep.Cut
import Derived.Deep.CutRange
import Derived.Deep.DeepCutAuto
import Derived.Lib.ReflectliteSwap
import Derived.Laws.Externs
import Derived.Lib.ReflectliteSlice
import Derived.Lib.AppendZeros
import Derived.BigQuiet
import Derived.Shelf.SlSortFuncK.WholeK
import Derived.Shelf.GgSortFunc.Tiny
import Derived.Maps.RangeRun
import Derived.Test.YtokhjapfekbobaaGreatZh4
set_option linter.unusedVariables false
set_option linter.unusedSimpArgs false
set_option linter.unusedSectionVars false
namespace Go.Proofs.YtokhjapfekbobaaGreat
open Go.E
set_option maxRecDepth 100000
set_option maxHeartbeats 4000000
theorem B3o{e:Entry}:N9 e=0↔P7 e.dot=true∧K2 e.sku=true∧1≤e.qty∧e.qty≤1000000:=by
 unfold N9 P7
 rw[decide_eq_true_iff]
 by_cases a:e.dot.rep < 0∨16≤e.dot.rep
 ·rw[if_pos a];omega
 ·rw[if_neg a]
  by_cases b:e.dot.num < 1∨1000000000 < e.dot.num
  ·rw[if_pos b];omega
  ·rw[if_neg b]
   cases c:K2 e.sku with
   | false=>simp
   | true =>
    rw[if_neg (by simp)]
    by_cases d:e.qty < 1∨1000000 < e.qty
    ·rw[if_pos d]
     exact⟨fun h=>by omega,fun h=>by have:=h.2.2.1;have:=h.2.2.2;omega⟩
    ·rw[if_neg d]
     exact⟨fun _=>⟨by omega,rfl,by omega,by omega⟩,fun _=>rfl⟩
theorem rec_lt{r s:Record}:E6 r s < 0↔sLt r.sku s.sku=true∨r.sku=s.sku∧A3o r.past s.past < 0:=by
 unfold E6
 by_cases e:A02 r.sku s.sku=0
 ·rw[if_neg (by simpa using e)]
  have e2:=A0p.1 e
  constructor
  ·exact fun h=>.inr ⟨e2,h⟩
  ·rintro(h | h)
   ·rw[e2]at h;exact absurd h (A01 _)
   ·exact h.2
 ·rw[if_pos e,N1]
  by_cases a:sLt r.sku s.sku=true
  ·rw[if_pos a];exact⟨fun _=>.inl a,fun _=>by omega⟩
  ·rw[if_neg a]
   constructor
   ·intro h
    split at h <;> omega
   ·rintro(h | h)
    ·exact absurd h a
    ·exact absurd (A0p.2 h.1) e
theorem B9g(f:Facts):∃ b:Bool,b=decide (D9 f.adds=0∧f.gone=A3 f.gone∧E2 f.recs=0):=⟨_,rfl⟩
noncomputable def okF(f:Facts):Bool:=Classical.choose (B9g f)
theorem B9h(f:Facts):okF f=decide (D9 f.adds=0∧f.gone=A3 f.gone∧E2 f.recs=0):=Classical.choose_spec (B9g f)
def szF(f:Facts):Prop:=szP f.gone∧szQ f.recs
theorem Af7(e:Entry):Con Tryz.prog 131 [.agg (c67 e)] (.b (decide (N9 e=0))) :=
 by
 refine sC A9 [.tmp 2] 21 Tryz.func131 ?_
 intro e0 cx
 refine sq<|rG cx [1] [1] z0<|sn<|sq<|B4 (σ':=⟨[(2,.b (decide (P7 e.dot=true∧K2 e.sku=true∧1≤e.qty∧e.qty≤1000000)))],[]⟩) ?_ ?_
 refine A4 (P7 e.dot=true) (fun h_1=>?_) (fun h_1=>?_)
 refine A4 (K2 e.sku=true) (fun h_2=>?_) (fun h_2=>?_)
 refine A4 (1≤e.qty) (fun h_3=>?_) (fun h_3=>?_)
 refine rg (A:=_∧_∧_∧_∧_∧(AV.b (decide (e.qty≤1000000))=AV.b (decide (e.qty≤1000000)))∧(AV.b (decide (e.qty≤1000000))=AV.b (decide (P7 e.dot=true∧K2 e.sku=true∧1≤e.qty∧e.qty≤1000000)))) cx [(2,{ val:=some (.b (P7 e.dot)),tell:=some (.b (true)) }),(6,{ val:=some (.b (K2 e.sku)),tell:=some (.b (true)) }),(11,{ tell:=some (.b (true)) }),(16,{ tell:=some (.b (decide (e.qty≤1000000))) }),(18,{ tell:=some (.b (decide (P7 e.dot=true∧K2 e.sku=true∧1≤e.qty∧e.qty≤1000000))) })] [2] [] ⟨(P4 h_1),(B6q (e.dot)),(P4 h_2),(Az4 (e.sku)),(A6 h_3),(by kernel_rfl),(by simp only [eq_true h_1,eq_true h_2,eq_true h_3,tsl])⟩ ?_
 exact⟨rfl,by kernel_rfl⟩
 refine rg (A:=_∧_∧_∧_∧_∧(AV.b false=AV.b (decide (P7 e.dot=true∧K2 e.sku=true∧1≤e.qty∧e.qty≤1000000)))) cx [(2,{ val:=some (.b (P7 e.dot)),tell:=some (.b (true)) }),(6,{ val:=some (.b (K2 e.sku)),tell:=some (.b (true)) }),(11,{ tell:=some (.b (false)) }),(18,{ tell:=some (.b (decide (P7 e.dot=true∧K2 e.sku=true∧1≤e.qty∧e.qty≤1000000))) })] [2] [] ⟨(P4 h_1),(B6q (e.dot)),(P4 h_2),(Az4 (e.sku)),(A0 h_3),(by simp only [eq_true h_1,eq_true h_2,eq_false h_3,tsl])⟩ ?_
 exact⟨rfl,by kernel_rfl⟩
 refine rg (A:=_∧_∧_∧_∧(AV.b false=AV.b (decide (P7 e.dot=true∧K2 e.sku=true∧1≤e.qty∧e.qty≤1000000)))) cx [(2,{ val:=some (.b (P7 e.dot)),tell:=some (.b (true)) }),(6,{ val:=some (.b (K2 e.sku)),tell:=some (.b (false)) }),(18,{ tell:=some (.b (decide (P7 e.dot=true∧K2 e.sku=true∧1≤e.qty∧e.qty≤1000000))) })] [2] [] ⟨(P4 h_1),(B6q (e.dot)),(X6 h_2),(Az4 (e.sku)),(by simp only [eq_true h_1,eq_false h_2,tsl])⟩ ?_
 exact⟨rfl,by kernel_rfl⟩
 refine rg (A:=_∧_∧(AV.b false=AV.b (decide (P7 e.dot=true∧K2 e.sku=true∧1≤e.qty∧e.qty≤1000000)))) cx [(2,{ val:=some (.b (P7 e.dot)),tell:=some (.b (false)) }),(18,{ tell:=some (.b (decide (P7 e.dot=true∧K2 e.sku=true∧1≤e.qty∧e.qty≤1000000))) })] [2] [] ⟨(X6 h_1),(B6q (e.dot)),(by simp only [eq_false h_1,tsl])⟩ ?_
 exact⟨rfl,by kernel_rfl⟩
 refine sn<|rT<|qR (.b (decide (P7 e.dot=true∧K2 e.sku=true∧1≤e.qty∧e.qty≤1000000))) (.eq ?g0);rotate_left
 case g0=>rw[decide_eq_decide.2 B3o]
theorem con132(a b:Dot):Con Tryz.prog 132 [.agg (c65 a),.agg (c65 b)] (.b (dLt a b)) :=
 by
 refine sC A9 [.tmp 4] 24 Tryz.func132 ?_
 intro e0 cx
 refine sq<|rG cx [2,3] [2,3] z0<|sn<|sq<|B4 (σ':=⟨[(4,.b (decide (a.rep < b.rep∨a.rep=b.rep∧a.num < b.num)))],[]⟩) ?_ ?_
 refine A4 (a.rep < b.rep) (fun h_1=>?_) (fun h_1=>?_)
 refine rG cx [4] [] (tT 4 (A6 h_1) (tD 19 true (a.rep < b.rep∨a.rep=b.rep∧a.num < b.num) (by simp only [eq_true h_1,tsl]) z0)) ?_
 exact⟨rfl,by kernel_rfl⟩
 refine A4 (a.rep=b.rep) (fun h_2=>?_) (fun h_2=>?_)
 refine rG cx [4] [] (tT 4 (A0 h_1) (tT 10 (A6 h_2) (tB 16 (a.num < b.num) (tD 19 (decide (a.num < b.num)) (a.rep < b.rep∨a.rep=b.rep∧a.num < b.num) (by simp only [eq_false h_1,eq_true h_2,tsl]) z0)))) ?_
 exact⟨rfl,by kernel_rfl⟩
 refine rG cx [4] [] (tT 4 (A0 h_1) (tT 10 (A0 h_2) (tD 19 false (a.rep < b.rep∨a.rep=b.rep∧a.num < b.num) (by simp only [eq_false h_1,eq_false h_2,tsl]) z0))) ?_
 exact⟨rfl,by kernel_rfl⟩
 refine sn<|rT<|qR (.b (decide (a.rep < b.rep∨a.rep=b.rep∧a.num < b.num))) (.eq ?g0);rotate_left
 case g0=>exact rfl
theorem Bi6(es:List Entry):Con Tryz.prog 83 [.sl (es.map c67)] (.b (decide (D9 es=0))) :=
 by
 have e:∀ {i:Int},0≤i→(i-1).toNat=i.toNat-1:=fun {i} h=>by omega
 refine lN 0 c67 (es) Tryz.func83 fun hl_0=>sC A9 [.tmp 2] 35 Tryz.func83 ?_
 intro e0 cx
 refine sq<|rG cx [0] [] z0<|sn<|sq<|sq<|rG cx [0,3] [] z0<|sn<|bL 0<|sL (X:=Int) (fun x=>⟨[(0,.sl (List.map c67 es)),(3,.i .i64 (x))],[]⟩) (fun x ↦ decL es x) (fun x ↦ Bd9 es x) [0,3] [] ((0:Int)) (show Bd9 es (0:Int)from(by exact⟨by omega,by omega,fun j hj=>by omega⟩)) ?_
 intro i0 h_1
 obtain⟨hh2,hh3,hh4⟩:0≤i0∧i0≤(↑es.length:Int)∧∀(j:Nat),(↑j:Int) < i0→B0p es j=true:=h_1
 refine sq<|rD cx [0,3,7] [] (tL 2 c67 es (zB 3 (i0 <(↑es.length:Int)))) (fun hh5=>?_) fun hh5=>?_
 refine sK<|sn<|sq<|bL 1<|sq<|B4 (σ':=⟨[(0,.sl (List.map c67 es)),(3,.i .i64 (i0)),(34,.b (decide (¬N9 es[i0.toNat]! =(0:Int)∨(0:Int) < i0∧¬dLt es[(i0-1).toNat]!.dot es[i0.toNat]!.dot=true)))],[]⟩) ?_ ?_
 refine A4 (¬N9 es[i0.toNat]! =(0:Int)) (fun h_7=>?_) (fun h_7=>?_)
 refine ra (A:=(0≤i0)∧((List.map c67 es)[i0.toNat]?=some (c67 es[i0.toNat]!))∧((c67 es[i0.toNat]!).length=(4:Nat))∧((4:Nat)≤[AV.i .i64 es[i0.toNat]!.dot.rep,AV.i .i64 es[i0.toNat]!.dot.num,AV.s es[i0.toNat]!.sku,AV.i .i64 es[i0.toNat]!.qty].length)∧_∧_∧(AV.b true=AV.b (decide (¬N9 es[i0.toNat]! =(0:Int)∨(0:Int) < i0∧¬dLt es[(i0-1).toNat]!.dot es[i0.toNat]!.dot=true)))) cx [(2,{ row:=(c67 es[i0.toNat]!) }),(4,{ val:=some (.b (decide (N9 es[i0.toNat]! =(0:Int)))),tell:=some (.b (false)) }),(24,{ tell:=some (.b (decide (¬N9 es[i0.toNat]! =(0:Int)∨(0:Int) < i0∧¬dLt es[(i0-1).toNat]!.dot es[i0.toNat]!.dot=true))) })] [0,3,34] [] ⟨(by(with_reducible assumption)),(by(with_reducible refine H6 ?_;omega)),(by kernel_rfl),(by(simp only [List.length_append,List.length_cons,List.length_nil];omega)),(A0 h_7),(Af7 (es[i0.toNat]!)),(by simp only [eq_false h_7,tsl])⟩ ?_
 exact⟨rfl,by kernel_rfl⟩
 refine A4 ((0:Int) < i0) (fun h_8=>?_) (fun h_8=>?_)
 refine rA cx [0,3,34] [] (fA (0≤i0) (fG c67 es i0.toNat (fR 4 (fN 4 4 (fT (Af7 (es[i0.toNat]!)) (tQ 5 (N9 es[i0.toNat]! =(0:Int)) (tT 6 (A0 h_7) (tT 8 (A6 h_8) (tW 12 (i0-1) (fO (0≤i0-1) (fG c67 es ((i0-1).toNat) (fR 4 (fN 2 4 (fA (0≤i0) (fG c67 es i0.toNat (fR 4 (fN 2 4 (fT (con132 (es[(i0-1).toNat]!.dot) (es[i0.toNat]!.dot)) (tT 22 (G4:(AV.b !dLt es[(i0-1).toNat]!.dot es[i0.toNat]!.dot)=AV.b (decide ¬dLt es[(i0-1).toNat]!.dot es[i0.toNat]!.dot=true)) (tT 24 (by first | (simp only [eq_false h_7,eq_true h_8,tsl];done) | simp_all:AV.b (decide ¬dLt es[(i0-1).toNat]!.dot es[i0.toNat]!.dot=true)=AV.b (decide (¬N9 es[i0.toNat]! =(0:Int)∨(0:Int) < i0∧¬dLt es[(i0-1).toNat]!.dot es[i0.toNat]!.dot=true))) (oR 2 (c67 es[i0.toNat]!) (oA 4 (Bm8 (Af7 (es[i0.toNat]!))) (oR 13 (c67 es[(i0-1).toNat]!) (oR 18 (c67 es[i0.toNat]!) (oA 21 (.b (dLt es[(i0-1).toNat]!.dot es[i0.toNat]!.dot)) z0))))))))))))))))))))))))) ?_
 exact⟨rfl,by kernel_rfl⟩
 refine rA cx [0,3,34] [] (fA (0≤i0) (fG c67 es i0.toNat (fR 4 (fN 4 4 (fT (Af7 (es[i0.toNat]!)) (tQ 5 (N9 es[i0.toNat]! =(0:Int)) (tT 6 (A0 h_7) (tT 8 (A0 h_8) (tT 24 (by first | (simp only [eq_false h_7,eq_false h_8,tsl];done) | simp_all:AV.b false=AV.b (decide (¬N9 es[i0.toNat]! =(0:Int)∨(0:Int) < i0∧¬dLt es[(i0-1).toNat]!.dot es[i0.toNat]!.dot=true))) (oR 2 (c67 es[i0.toNat]!) (oA 4 (Bm8 (Af7 (es[i0.toNat]!))) z0))))))))))) ?_
 exact⟨rfl,by kernel_rfl⟩
 refine sn<|dC (¬N9 es[i0.toNat]! =(0:Int)∨(0:Int) < i0∧¬dLt es[(i0-1).toNat]!.dot es[i0.toNat]!.dot=true) (fun h9=>?_) fun h9=>?_
 refine sq<|rG cx [2] [] z0<|sn<|rT<|bR<|nR<|nR<|bR<|nR<|qR (.b (false)) (.eq ?g1);rotate_left
 refine sK<|bN<|sn<|rG cx [0,3] [] (tW 1 (i0+1) z0)<|sn<|nX (i0+1) (show((↑es.length:Int)-(i0+1)).toNat <((↑es.length:Int)-i0).toNat from(by omega)) (show Bd9 es (i0+1)from ?g2);rotate_left
 refine eX 0<|nE<|nE<|bH<|sn<|sq<|rG cx [2] [] z0<|sn<|rT<|qR (.b (true)) (.eq (by rw[B2v fun j hj=>hh4 j (by omega)];rfl))
 case g1 =>
  revert i0 hh2 hh3 hh4 hh5 h9
  intro i h0 h1 h2 h3 h4
  rw[As1 (i:=i.toNat) (by omega) (As2 _)]
  ·rfl
  rw[e h0]at h4
  rw[A0q];rintro⟨a,b⟩
  rcases h4 with h4 | ⟨h4,h5⟩
  ·exact h4 a
  ·rcases b with b | b
   ·omega
   ·exact h5 b
 case g2 =>
  rw[e hh2]at h9
  refine Ad8 hh2 hh5 hh4 ((A0q _ _).2 ⟨Classical.byContradiction fun a=>h9 (.inl a),?_⟩)
  by_cases c:i0.toNat=0
  ·exact .inl c
  ·exact .inr (Classical.byContradiction fun a=>h9 (.inr ⟨by omega,a⟩))
theorem con133(r:Record)(hb:szP r.past):Con Tryz.prog 133 [.agg (c83 r)] (.b (decide (ckR r=0))) :=
 by
 refine sC A9 [.tmp 2] 22 Tryz.func133 ?_
 intro e0 cx
 refine sq<|rG cx [1] [1] z0<|sn<|sq<|B4 (σ':=⟨[(2,.b (decide (r.sku={ data:=#[]:ByteArray }∧r.past=A3 r.past∧¬B8 r.past=0∨¬r.sku={ data:=#[]:ByteArray }∧K2 r.sku=true∧r.past=A3 r.past∧¬B8 r.past=0)))],[]⟩) ?_ ?_
 refine A4 (r.sku={ data:=#[]:ByteArray }) (fun h1=>?_) (fun h1=>?_)
 refine A4 (r.past=A3 r.past) (fun h2=>?_) (fun h2=>?_)
 refine rg (A:=(AV.b (r.sku.toList == { data:=#[]:ByteArray }.toList)=AV.b true)∧_∧_∧_∧((AV.b !decide (B8 r.past=0))=AV.b (decide ¬B8 r.past=0))∧(AV.b (decide ¬B8 r.past=0)=AV.b (decide (r.sku={ data:=#[]:ByteArray }∧r.past=A3 r.past∧¬B8 r.past=0∨¬r.sku={ data:=#[]:ByteArray }∧K2 r.sku=true∧r.past=A3 r.past∧¬B8 r.past=0)))) cx [(2,{ tell:=some (.b (true)) }),(11,{ val:=some (.b (decide (r.past=A3 r.past))),tell:=some (.b (true)) }),(16,{ val:=some (.b (decide (B8 r.past=0))) }),(17,{ tell:=some (.b (decide ¬B8 r.past=0)) }),(19,{ tell:=some (.b (decide (r.sku={ data:=#[]:ByteArray }∧r.past=A3 r.past∧¬B8 r.past=0∨¬r.sku={ data:=#[]:ByteArray }∧K2 r.sku=true∧r.past=A3 r.past∧¬B8 r.past=0))) })] [2] [] ⟨(Z7 h1),(A6 h2),(B03 (r.past) ?g0 ?g1),(con91 (r.past) ?g2),(A1s),(by simp only [eq_true h1,eq_true h2,tsl])⟩ ?_;rotate_left 3
 exact⟨rfl,by kernel_rfl⟩
 refine rg (A:=(AV.b (r.sku.toList == { data:=#[]:ByteArray }.toList)=AV.b true)∧_∧_∧(AV.b false=AV.b (decide (r.sku={ data:=#[]:ByteArray }∧r.past=A3 r.past∧¬B8 r.past=0∨¬r.sku={ data:=#[]:ByteArray }∧K2 r.sku=true∧r.past=A3 r.past∧¬B8 r.past=0)))) cx [(2,{ tell:=some (.b (true)) }),(11,{ val:=some (.b (decide (r.past=A3 r.past))),tell:=some (.b (false)) }),(19,{ tell:=some (.b (decide (r.sku={ data:=#[]:ByteArray }∧r.past=A3 r.past∧¬B8 r.past=0∨¬r.sku={ data:=#[]:ByteArray }∧K2 r.sku=true∧r.past=A3 r.past∧¬B8 r.past=0))) })] [2] [] ⟨(Z7 h1),(A0 h2),(B03 (r.past) ?g3 ?g4),(by simp only [eq_true h1,eq_false h2,tsl])⟩ ?_;rotate_left 2
 exact⟨rfl,by kernel_rfl⟩
 refine A4 (K2 r.sku=true) (fun h3=>?_) (fun h3=>?_)
 refine A4 (r.past=A3 r.past) (fun h4=>?_) (fun h4=>?_)
 refine rg (A:=(AV.b (r.sku.toList == { data:=#[]:ByteArray }.toList)=AV.b false)∧_∧_∧_∧_∧_∧((AV.b !decide (B8 r.past=0))=AV.b (decide ¬B8 r.past=0))∧(AV.b (decide ¬B8 r.past=0)=AV.b (decide (r.sku={ data:=#[]:ByteArray }∧r.past=A3 r.past∧¬B8 r.past=0∨¬r.sku={ data:=#[]:ByteArray }∧K2 r.sku=true∧r.past=A3 r.past∧¬B8 r.past=0)))) cx [(2,{ tell:=some (.b (false)) }),(6,{ val:=some (.b (K2 r.sku)),tell:=some (.b (true)) }),(11,{ val:=some (.b (decide (r.past=A3 r.past))),tell:=some (.b (true)) }),(16,{ val:=some (.b (decide (B8 r.past=0))) }),(17,{ tell:=some (.b (decide ¬B8 r.past=0)) }),(19,{ tell:=some (.b (decide (r.sku={ data:=#[]:ByteArray }∧r.past=A3 r.past∧¬B8 r.past=0∨¬r.sku={ data:=#[]:ByteArray }∧K2 r.sku=true∧r.past=A3 r.past∧¬B8 r.past=0))) })] [2] [] ⟨(Q7 h1),(P4 h3),(Az4 (r.sku)),(A6 h4),(B03 (r.past) ?g5 ?g6),(con91 (r.past) ?g7),(A1s),(by simp only [eq_false h1,eq_true h3,eq_true h4,tsl])⟩ ?_;rotate_left 3
 exact⟨rfl,by kernel_rfl⟩
 refine rg (A:=(AV.b (r.sku.toList == { data:=#[]:ByteArray }.toList)=AV.b false)∧_∧_∧_∧_∧(AV.b false=AV.b (decide (r.sku={ data:=#[]:ByteArray }∧r.past=A3 r.past∧¬B8 r.past=0∨¬r.sku={ data:=#[]:ByteArray }∧K2 r.sku=true∧r.past=A3 r.past∧¬B8 r.past=0)))) cx [(2,{ tell:=some (.b (false)) }),(6,{ val:=some (.b (K2 r.sku)),tell:=some (.b (true)) }),(11,{ val:=some (.b (decide (r.past=A3 r.past))),tell:=some (.b (false)) }),(19,{ tell:=some (.b (decide (r.sku={ data:=#[]:ByteArray }∧r.past=A3 r.past∧¬B8 r.past=0∨¬r.sku={ data:=#[]:ByteArray }∧K2 r.sku=true∧r.past=A3 r.past∧¬B8 r.past=0))) })] [2] [] ⟨(Q7 h1),(P4 h3),(Az4 (r.sku)),(A0 h4),(B03 (r.past) ?g8 ?g9),(by simp only [eq_false h1,eq_true h3,eq_false h4,tsl])⟩ ?_;rotate_left 2
 exact⟨rfl,by kernel_rfl⟩
 refine rg (A:=(AV.b (r.sku.toList == { data:=#[]:ByteArray }.toList)=AV.b false)∧(AV.b (K2 r.sku)=AV.b false)∧_∧(AV.b false=AV.b (decide (r.sku={ data:=#[]:ByteArray }∧r.past=A3 r.past∧¬B8 r.past=0∨¬r.sku={ data:=#[]:ByteArray }∧K2 r.sku=true∧r.past=A3 r.past∧¬B8 r.past=0)))) cx [(2,{ tell:=some (.b (false)) }),(6,{ val:=some (.b (K2 r.sku)),tell:=some (.b (false)) }),(19,{ tell:=some (.b (decide (r.sku={ data:=#[]:ByteArray }∧r.past=A3 r.past∧¬B8 r.past=0∨¬r.sku={ data:=#[]:ByteArray }∧K2 r.sku=true∧r.past=A3 r.past∧¬B8 r.past=0))) })] [2] [] ⟨(Q7 h1),(X6 h3),(Az4 (r.sku)),(by simp only [eq_false h1,eq_false h3,tsl])⟩ ?_
 exact⟨rfl,by kernel_rfl⟩
 refine sn<|rT<|qR (.b (decide (r.sku={ data:=#[]:ByteArray }∧r.past=A3 r.past∧¬B8 r.past=0∨¬r.sku={ data:=#[]:ByteArray }∧K2 r.sku=true∧r.past=A3 r.past∧¬B8 r.past=0))) (.eq ?g10);rotate_left
 revert h1 h2;rotate_left
 revert h1 h2;rotate_left
 revert h1 h2;rotate_left
 revert h1 h2;rotate_left
 revert h1 h2;rotate_left
 revert h1 h3 h4;rotate_left
 revert h1 h3 h4;rotate_left
 revert h1 h3 h4;rotate_left
 revert h1 h3 h4;rotate_left
 revert h1 h3 h4;rotate_left
 rotate_left
 case g10 =>
  refine congrArg AV.b (decide_eq_decide.2 (Iff.trans ?_ A6b.symm))
  show(r.sku=noneS∧_∨¬ r.sku=noneS∧_)↔_
  by_cases c:r.sku=noneS
  ·simp [c]
  ·simp [c]
 all_goals (intros;first | exact hb.1 | exact hb.2)
theorem con84(rs:List Record)(hb:szQ rs):Con Tryz.prog 84 [.sl (rs.map c83)] (.b (decide (E2 rs=0))) :=
 by
 have e:∀ {i:Int},0≤i→(i-1).toNat=i.toNat-1:=fun {i} h=>by omega
 have L:∀ {r s:Record},(¬(sLt r.sku s.sku=true∨r.sku=s.sku)∨r.sku=s.sku∧0≤A3o r.past s.past)↔¬ E6 r s < 0:=by
  intro r s
  rw[rec_lt]
  constructor
  ·rintro(h | ⟨h1,h2⟩) (k | ⟨k1,k2⟩)
   ·exact h (.inl k)
   ·exact h (.inr k1)
   ·rw[h1]at k;exact A01 _ k
   ·omega
  ·intro h
   by_cases c:r.sku=s.sku
   ·exact .inr ⟨c,Int.not_lt.1 fun k=>h (.inr ⟨c,k⟩)⟩
   ·exact .inl fun k=>by
     rcases k with k | k
     ·exact h (.inl k)
     ·exact c k
 refine lN 0 c83 (rs) Tryz.func84 fun hl_0=>sC A9 [.tmp 2] 49 Tryz.func84 ?_
 intro e0 cx
 refine sq<|rG cx [0] [] z0<|sn<|sq<|sq<|rG cx [0,3] [] z0<|sn<|bL 0<|sL (X:=Int) (fun x=>⟨[(0,.sl (List.map c83 rs)),(3,.i .i64 (x))],[]⟩) (fun x ↦ decKc rs x) (fun x ↦ Ad6 rs x) [0,3] [] ((0:Int)) (show Ad6 rs (0:Int)from(by exact⟨by omega,by omega,fun j hj=>by omega⟩)) ?_
 intro i0 h_1
 obtain⟨hh2,hh3,hh4⟩:0≤i0∧i0≤(↑rs.length:Int)∧∀(j:Nat),(↑j:Int) < i0→B4m rs j=true:=h_1
 refine sq<|rD cx [0,3,9] [] (tL 2 c83 rs (zB 3 (i0 <(↑rs.length:Int)))) (fun hh5=>?_) fun hh5=>?_
 refine sK<|sn<|sq<|bL 1<|sq<|sq<|rG cx [0,3,17] [] (fA (0≤i0) (fG c83 rs i0.toNat (fR 3 (fN 3 3 (fT (con133 (rs[i0.toNat]!) (by exact At7 hb hh2 hh5)) (tQ 5 (ckR rs[i0.toNat]! =(0:Int)) (oR 2 (c83 rs[i0.toNat]!) (oA 4 (.b (decide (ckR rs[i0.toNat]! =(0:Int)))) z0)))))))) ?_
 refine sn<|dC (¬ckR rs[i0.toNat]! =(0:Int)) (fun hh6=>?_) fun hh6=>?_
 refine sq<|rG cx [2] [] z0<|sn<|rT<|nR<|bR<|nR<|nR<|bR<|nR<|qR (.b (false)) (.eq ?g2);rotate_left
 refine sK<|sn<|rD cx [0,3,19] [] (zB 1 ((0:Int) < i0)) (fun hh7=>?_) fun hh7=>?_
 refine sq<|rA cx [0,3,4,5] [4,5] (tW 2 (i0-1) (fO (0≤i0-1) (fG c83 rs ((i0-1).toNat) (fR 3 (fN 3 3 (fA (0≤i0) (fG c83 rs i0.toNat (fR 3 (fN 3 3 (oR 3 (c83 rs[(i0-1).toNat]!) (oR 7 (c83 rs[i0.toNat]!) z0)))))))))))<|sn<|sq<|B4 (σ':=⟨[(0,.sl (List.map c83 rs)),(3,.i .i64 (i0)),(48,.b (decide (¬(sLt rs[(i0-1).toNat]!.sku rs[i0.toNat]!.sku=true∨rs[(i0-1).toNat]!.sku=rs[i0.toNat]!.sku)∨rs[(i0-1).toNat]!.sku=rs[i0.toNat]!.sku∧0≤A3o rs[(i0-1).toNat]!.past rs[i0.toNat]!.past)))],[]⟩) ?_ ?_
 refine A4 (¬(sLt rs[(i0-1).toNat]!.sku rs[i0.toNat]!.sku=true∨rs[(i0-1).toNat]!.sku=rs[i0.toNat]!.sku)) (fun h9=>?_) (fun h9=>?_)
 refine rG cx [0,3,48] [] (tT 4 (A81:(AV.b !(Op.bytesLess rs[(i0-1).toNat]!.sku.toList rs[i0.toNat]!.sku.toList || rs[(i0-1).toNat]!.sku.toList == rs[i0.toNat]!.sku.toList))=AV.b (decide ¬(sLt rs[(i0-1).toNat]!.sku rs[i0.toNat]!.sku=true∨rs[(i0-1).toNat]!.sku=rs[i0.toNat]!.sku))) (tT 5 (A6 h9) (tD 19 true (¬(sLt rs[(i0-1).toNat]!.sku rs[i0.toNat]!.sku=true∨rs[(i0-1).toNat]!.sku=rs[i0.toNat]!.sku)∨rs[(i0-1).toNat]!.sku=rs[i0.toNat]!.sku∧0≤A3o rs[(i0-1).toNat]!.past rs[i0.toNat]!.past) (by simp only [eq_false h9,tsl]) z0))) ?_
 exact⟨rfl,by kernel_rfl⟩
 refine A4 (rs[(i0-1).toNat]!.sku=rs[i0.toNat]!.sku) (fun h10=>?_) (fun h10=>?_)
 refine rG cx [0,3,48] [] (tT 4 (A81:(AV.b !(Op.bytesLess rs[(i0-1).toNat]!.sku.toList rs[i0.toNat]!.sku.toList || rs[(i0-1).toNat]!.sku.toList == rs[i0.toNat]!.sku.toList))=AV.b (decide ¬(sLt rs[(i0-1).toNat]!.sku rs[i0.toNat]!.sku=true∨rs[(i0-1).toNat]!.sku=rs[i0.toNat]!.sku))) (tT 5 (A0 h9) (tT 10 (Z7 h10:AV.b (rs[(i0-1).toNat]!.sku.toList == rs[i0.toNat]!.sku.toList)=AV.b true) (fT (con134 (rs[(i0-1).toNat]!.past) (rs[i0.toNat]!.past) (by exact(Bh1 hb hh7 hh5).1) (by exact(At7 hb hh2 hh5).1)) (tB 17 (0≤A3o rs[(i0-1).toNat]!.past rs[i0.toNat]!.past) (tT 19 (by first | (simp only [eq_false h9,eq_true h10,tsl];done) | simp_all:AV.b (decide (0≤A3o rs[(i0-1).toNat]!.past rs[i0.toNat]!.past))=AV.b (decide (¬(sLt rs[(i0-1).toNat]!.sku rs[i0.toNat]!.sku=true∨rs[(i0-1).toNat]!.sku=rs[i0.toNat]!.sku)∨rs[(i0-1).toNat]!.sku=rs[i0.toNat]!.sku∧0≤A3o rs[(i0-1).toNat]!.past rs[i0.toNat]!.past))) (oA 16 (.i .i64 (A3o rs[(i0-1).toNat]!.past rs[i0.toNat]!.past)) z0))))))) ?_
 exact⟨rfl,by kernel_rfl⟩
 refine rG cx [0,3,48] [] (tT 4 (A81:(AV.b !(Op.bytesLess rs[(i0-1).toNat]!.sku.toList rs[i0.toNat]!.sku.toList || rs[(i0-1).toNat]!.sku.toList == rs[i0.toNat]!.sku.toList))=AV.b (decide ¬(sLt rs[(i0-1).toNat]!.sku rs[i0.toNat]!.sku=true∨rs[(i0-1).toNat]!.sku=rs[i0.toNat]!.sku))) (tT 5 (A0 h9) (tT 10 (Q7 h10:AV.b (rs[(i0-1).toNat]!.sku.toList == rs[i0.toNat]!.sku.toList)=AV.b false) (tT 19 (by first | (simp only [eq_false h9,eq_false h10,tsl];done) | simp_all:AV.b false=AV.b (decide (¬(sLt rs[(i0-1).toNat]!.sku rs[i0.toNat]!.sku=true∨rs[(i0-1).toNat]!.sku=rs[i0.toNat]!.sku)∨rs[(i0-1).toNat]!.sku=rs[i0.toNat]!.sku∧0≤A3o rs[(i0-1).toNat]!.past rs[i0.toNat]!.past))) z0)))) ?_
 exact⟨rfl,by kernel_rfl⟩
 refine sn<|dC (¬(sLt rs[(i0-1).toNat]!.sku rs[i0.toNat]!.sku=true∨rs[(i0-1).toNat]!.sku=rs[i0.toNat]!.sku)∨rs[(i0-1).toNat]!.sku=rs[i0.toNat]!.sku∧0≤A3o rs[(i0-1).toNat]!.past rs[i0.toNat]!.past) (fun h11=>?_) fun h11=>?_
 refine sq<|rG cx [2] [] z0<|sn<|rT<|bR<|nR<|nR<|bR<|nR<|qR (.b (false)) (.eq ?g5);rotate_left
 refine sK<|bN<|sn<|rG cx [0,3] [] (tW 1 (i0+1) z0)<|sn<|nX (i0+1) (show((↑rs.length:Int)-(i0+1)).toNat <((↑rs.length:Int)-i0).toNat from(by omega)) (show Ad6 rs (i0+1)from ?g6);rotate_left
 refine sK<|bN<|sn<|rG cx [0,3] [] (tW 1 (i0+1) z0)<|sn<|nX (i0+1) (show((↑rs.length:Int)-(i0+1)).toNat <((↑rs.length:Int)-i0).toNat from(by omega)) (show Ad6 rs (i0+1)from ?g7);rotate_left
 refine eX 0<|nE<|nE<|bH<|sn<|sq<|rG cx [2] [] z0<|sn<|rT<|qR (.b (true)) (.eq (by rw[B2t fun j hj=>hh4 j (by omega)];rfl))
 case g2 =>
  revert i0 hh2 hh3 hh4 hh5 hh6
  intro i h0 h1 h2 h3 h4
  rw[A8p (i:=i.toNat) (by omega)]
  ·rfl
  ·rw[Q1]
   exact fun c=>h4 c.1
 case g5 =>
  revert i0 hh2 hh3 hh4 hh5 hh6 hh7 h11
  intro i h0 h1 h2 h3 h4 h5 h6
  rw[A8p (i:=i.toNat) (by omega)]
  ·rfl
  ·rw[L,e h0]at h6
   rw[Q1]
   rintro⟨a,b⟩
   rcases b with b | b
   ·omega
   ·exact h6 b
 case g6 =>
  rw[L,e hh2]at h11
  exact A2x hh2 hh5 hh4 ((Q1 _ _).2 ⟨Classical.not_not.1 hh6,.inr (Classical.not_not.1 h11)⟩)
 case g7 =>
  exact A2x hh2 hh5 hh4 ((Q1 _ _).2 ⟨Classical.not_not.1 hh6,.inl (by omega)⟩)
theorem Bi7(f:Facts)(hb:szF f):Con Tryz.prog 38 [.agg (c29 f)] (.b (okF f)) :=
 by
 refine sC A9 [.tmp 2] 16 Tryz.func38 ?_
 intro e0 cx
 refine sq<|rG cx [1] [1] z0<|sn<|sq<|B4 (σ':=⟨[(2,.b (decide (D9 f.adds=0∧f.gone=A3 f.gone∧E2 f.recs=0)))],[]⟩) ?_ ?_
 refine A4 (D9 f.adds=0) (fun h1=>?_) (fun h1=>?_)
 refine A4 (f.gone=A3 f.gone) (fun h2=>?_) (fun h2=>?_)
 refine rg (A:=_∧_∧_∧_∧_∧(AV.b (decide (E2 f.recs=0))=AV.b (decide (D9 f.adds=0∧f.gone=A3 f.gone∧E2 f.recs=0)))) cx [(2,{ val:=some (.b (decide (D9 f.adds=0))),tell:=some (.b (true)) }),(6,{ val:=some (.b (decide (f.gone=A3 f.gone))),tell:=some (.b (true)) }),(11,{ val:=some (.b (decide (E2 f.recs=0))) }),(13,{ tell:=some (.b (decide (D9 f.adds=0∧f.gone=A3 f.gone∧E2 f.recs=0))) })] [2] [] ⟨(A6 h1),(Bi6 (f.adds)),(A6 h2),(B03 (f.gone) ?g0 ?g1),(con84 (f.recs) ?g2),(by simp only [eq_true h1,eq_true h2,tsl])⟩ ?_;rotate_left 3
 exact⟨rfl,by kernel_rfl⟩
 refine rg (A:=_∧_∧_∧_∧(AV.b false=AV.b (decide (D9 f.adds=0∧f.gone=A3 f.gone∧E2 f.recs=0)))) cx [(2,{ val:=some (.b (decide (D9 f.adds=0))),tell:=some (.b (true)) }),(6,{ val:=some (.b (decide (f.gone=A3 f.gone))),tell:=some (.b (false)) }),(13,{ tell:=some (.b (decide (D9 f.adds=0∧f.gone=A3 f.gone∧E2 f.recs=0))) })] [2] [] ⟨(A6 h1),(Bi6 (f.adds)),(A0 h2),(B03 (f.gone) ?g3 ?g4),(by simp only [eq_true h1,eq_false h2,tsl])⟩ ?_;rotate_left 2
 exact⟨rfl,by kernel_rfl⟩
 refine rg (A:=_∧_∧(AV.b false=AV.b (decide (D9 f.adds=0∧f.gone=A3 f.gone∧E2 f.recs=0)))) cx [(2,{ val:=some (.b (decide (D9 f.adds=0))),tell:=some (.b (false)) }),(13,{ tell:=some (.b (decide (D9 f.adds=0∧f.gone=A3 f.gone∧E2 f.recs=0))) })] [2] [] ⟨(A0 h1),(Bi6 (f.adds)),(by simp only [eq_false h1,tsl])⟩ ?_
 exact⟨rfl,by kernel_rfl⟩
 refine sn<|rT<|qR (.b (decide (D9 f.adds=0∧f.gone=A3 f.gone∧E2 f.recs=0))) (.eq ?g5);rotate_left
 revert h1 h2;rotate_left
 revert h1 h2;rotate_left
 revert h1 h2;rotate_left
 revert h1 h2;rotate_left
 revert h1 h2;rotate_left
 rotate_left
 case g2=>intros;exact hb.2
 case g5=>rw[B9h]
 all_goals (intros;first | exact hb.1.1 | exact hb.1.2)
end Go.Proofs.YtokhjapfekbobaaGreat
namespace Go.Proofs.YtokhjapfekbobaaGreat
open Go.E
set_option maxRecDepth 100000
set_option maxHeartbeats 4000000
noncomputable def I2(rs:List Record)(p:Past):List Record:=rs.filter fun r=>decide (¬ B8 (B1 r.past p)=0)
noncomputable def S9(rs:List Record)(p:Past):List Record×Int:=if E2 rs=0∧p=A3 p then(I2 rs p,0)else([],1)
def B0c(rs:List Record)(p:Past)(i:Int)(v:List Int)(c:List Span)(out:List Record):Prop:=v=p.vec∧c=p.cloud∧0≤i∧i≤rs.length∧(out.length:Int)≤i∧out=I2 (rs.take i.toNat) p
def decWt(rs:List Record)(i:Int)(v:List Int)(c:List Span)(out:List Record):Nat:=(rs.length-i).toNat
theorem B3p{rs:List Record}{p:Past}{i:Int}{o:List Record}(h0:0≤i)(hi:i < rs.length)(ho:o=I2 (rs.take i.toNat) p) :
  I2 (rs.take (i+1).toNat) p=o++if B8 (B1 rs[i.toNat]!.past p)=0 then[]else[rs[i.toNat]!]:=by
 unfold I2 at *
 rw[← D4 h0 hi,List.filter_append,ho]
 congr 1
 generalize rs[i.toNat]! = x
 split
 ·rename_i h;simp [List.filter_cons,h]
 ·rename_i h;simp [List.filter_cons,h]
theorem Bi8{rs:List Record}(h:E2 rs=0){i:Int}(h0:0≤i)(hi:i < rs.length):(⟨rs[i.toNat]!.sku,A3 rs[i.toNat]!.past⟩:Record)=rs[i.toNat]!:=by
 have:=(A6b.1 (((G8 rs).1 h).1 _ (E4 (l:=rs) (i:=i.toNat) (by omega)))).2.1
 rw[← this]
theorem B3q{rs:List Record}{p:Past}(h:¬E2 rs=0∨¬p=A3 p):S9 rs p=([],1):=by unfold S9;rw[if_neg (fun k=>h.elim (fun g=>g k.1) (fun g=>g k.2))]
theorem A2d{rs:List Record}{p:Past}(h:¬(¬E2 rs=0∨¬p=A3 p)):E2 rs=0∧p=A3 p:=⟨Classical.not_not.1 fun k=>h (.inl k),Classical.not_not.1 fun k=>h (.inr k)⟩
theorem Am0{rs:List Record}{p:Past}(h:E2 rs=0)(k:p=A3 p):S9 rs p=(I2 rs p,0):=by unfold S9;rw[if_pos ⟨h,k⟩]
theorem wt_yes{rs:List Record}{p:Past}{i:Int}{o:List Record}(hr:E2 rs=0)(h0:0≤i)(hi:i < rs.length)(h1:(o.length:Int)≤i)(ho:o=I2 (rs.take i.toNat) p)(h:¬ B8 (B1 rs[i.toNat]!.past p)=0):B0c rs p (i+1) p.vec p.cloud (o++[⟨rs[i.toNat]!.sku,A3 rs[i.toNat]!.past⟩]) :=
 ⟨rfl,rfl,by omega,by omega,by rw[List.length_append,List.length_singleton];omega,by rw[B3p h0 hi ho,if_neg h,Bi8 hr h0 hi]⟩
theorem Bi9{rs:List Record}{p:Past}{i:Int}{o:List Record}(h0:0≤i)(hi:i < rs.length)(h1:(o.length:Int)≤i)(ho:o=I2 (rs.take i.toNat) p)(h:¬ ¬ B8 (B1 rs[i.toNat]!.past p)=0):B0c rs p (i+1) p.vec p.cloud o :=
 ⟨rfl,rfl,by omega,by omega,by omega,by rw[B3p h0 hi ho,if_pos (Classical.not_not.1 h),List.append_nil]⟩
theorem con48(rs:List Record)(p:Past)(hb:B0o rs)(hl:rs.length*64≤140737488350000)(hp:p.cloud.length*16≤140737488350000):Con Tryz.prog 48 [.sl (rs.map c83),.agg (c26 p)] (.tup [.sl ((S9 rs p).1.map c83),.i .i64 (S9 rs p).2]) :=
 by
 refine lN 0 c83 (rs) Tryz.func48 fun hl_0=>sC A9 [.tmp 4,.tmp 5] 35 Tryz.func48 ?_
 intro e0 cx
 refine sq<|rG cx [0,3] [3] z0<|sn<|sq<|sq<|B4 (σ':=⟨[(0,.sl (List.map c83 rs)),(3,.ptr (3) (0) (0) (0)),(16,.b (decide (¬E2 rs=0∨¬p=A3 p)))],[(3,⟨0,26,.var [.sl (List.map c3 p.vec),.sl (List.map B3 p.cloud)]⟩)]⟩) ?_ ?_
 refine A4 (¬E2 rs=0) (fun h_1=>?_) (fun h_1=>?_)
 refine rG cx [0,3,16] [3] (fT (Ad7 (rs) (by(with_reducible assumption))) (tT 2 (F4 h_1:AV.b (E2 rs !=0)=AV.b true) (tD 7 true (¬E2 rs=0∨¬p=A3 p) (by simp only [eq_false h_1,tsl]) (oA 1 (.i .i64 (E2 rs)) z0)))) ?_
 exact⟨rfl,by kernel_rfl⟩
 refine rG cx [0,3,16] [3] (fT (Ad7 (rs) (by(with_reducible assumption))) (tN 2 (E2 rs) (0:Int) (tT 3 (A0 h_1) (fT (A4w (p) (by(with_reducible assumption))) (tQ 6 (p=A3 p) (tT 7 (by first | (simp only [eq_false h_1,tsl];done) | simp_all:AV.b (decide ¬p=A3 p)=AV.b (decide (¬E2 rs=0∨¬p=A3 p))) (oA 1 (.i .i64 (E2 rs)) (oA 5 (.b (decide (p=A3 p))) z0)))))))) ?_
 exact⟨rfl,by kernel_rfl⟩
 refine sn<|dC (¬E2 rs=0∨¬p=A3 p) (fun hh2=>?_) fun hh2=>?_
 refine sq<|rG cx [4,5] [] z0<|sn<|rT<|nR<|qR (.tup [.nl,.i .i64 ((1:Int))]) (C1.tup (ZLe.cons (C1.nl' (show List.map c83 (S9 rs p).1=[]from(by rw[B3q hh2];rfl))) (ZLe.cons (C1.eq (show AV.i .i64 1=AV.i .i64 (S9 rs p).2 from(by rw[B3q hh2]))) ZLe.nil)))
 refine sK<|sn<|sq<|rG cx [0,3,6] [3] z0<|sn<|sq<|sq<|rG cx [3,6,17,18,19] [3] (tL 1 c83 rs z0)<|sn<|bL 0<|G3 6 1006 83 3 (σ':=⟨[(3,.ptr (3) (0) (0) (0)),(6,.own 1006 0),(17,.sl (List.map c83 rs)),(18,.i .i64 ((↑rs.length:Int))),(19,.i .i64 ((0:Int)))],[(3,⟨0,26,.var [.sl (List.map c3 p.vec),.sl (List.map B3 p.cloud)]⟩),(1006,⟨0,83,.row 3 (List.map c83 [])⟩)]⟩) (by kernel_rfl)<|sL (X:=Int×List Int×List Span×List Record) (fun x=>⟨[(3,.ptr (3) (0) (0) (0)),(6,.own 1006 0),(17,.sl (List.map c83 rs)),(18,.i .i64 ((↑rs.length:Int))),(19,.i .i64 (x.1))],[(3,⟨0,26,.var [.sl (List.map c3 x.2.1),.sl (List.map B3 x.2.2.1)]⟩),(1006,⟨0,83,.row 3 (List.map c83 x.2.2.2)⟩)]⟩) (fun x ↦ decWt rs x.1 x.2.1 x.2.2.1 x.2.2.2) (fun x ↦ B0c rs p x.1 x.2.1 x.2.2.1 x.2.2.2) [3,6,17,18,19] [3,1006] (((0:Int),p.vec,p.cloud,[])) (show B0c rs p (0:Int) p.vec p.cloud []from(by exact⟨rfl,rfl,by omega,by omega,by simp,rfl⟩)) ?_
 rintro⟨i3,v4,c5,o6⟩ h_7
 obtain⟨h8,h9,h10,h11,h12,h13⟩:v4=p.vec∧c5=p.cloud∧0≤i3∧i3≤(↑rs.length:Int)∧(↑o6.length:Int)≤i3∧o6=I2 (List.take i3.toNat rs) p:=h_7
 refine rE cx [3,6,17,18,19,20] [3,1006] (zB 0 (i3 <(↑rs.length:Int))) (fun h14=>?_) fun h14=>?_
 refine sK<|sn<|sq<|bL 1<|sq<|rG cx [3,6,17,18,19,8] [3,1006,8] (fA (0≤i3) (fG c83 rs i3.toNat (fR 3 (fN 3 3 (oR 0 (c83 rs[i3.toNat]!) z0)))))<|sn<|sq<|rG cx [3,6,17,18,19,8,27] [3,1006,8] (fT (con69 (rs[i3.toNat]!.past) ({ vec:=v4,cloud:=c5:Past }) (by exact A03 hb h10 h14) (by subst h9;exact hp)) (tQ 4 (B8 (B1 rs[i3.toNat]!.past { vec:=v4,cloud:=c5:Past })=0) (oA 3 (.b (decide (B8 (B1 rs[i3.toNat]!.past { vec:=v4,cloud:=c5:Past })=0))) z0))) ?_
 refine sn<|dC (¬B8 (B1 rs[i3.toNat]!.past { vec:=v4,cloud:=c5:Past })=0) (fun h15=>?_) fun h15=>?_
 refine rG cx [3,6,17,18,19] [3,1006] (fT (Bf6 (rs[i3.toNat]!) (by exact A03 hb h10 h14)) (fR 83 (fR 3 (fR 3 (fX c83 [{ sku:=rs[i3.toNat]!.sku,past:=A3 rs[i3.toNat]!.past:Record }] 3 (fS c83 o6 c83 [{ sku:=rs[i3.toNat]!.sku,past:=A3 rs[i3.toNat]!.past:Record }] (fP (((List.map c83 o6).length+(List.map c83 [{ sku:=rs[i3.toNat]!.sku,past:=A3 rs[i3.toNat]!.past:Record }]).length)*(64:Nat)≤(140737488355328:Nat)) (by(simp only [Go.maxLen,List.length_map,List.length_append,List.length_cons,List.length_nil];omega)) (fM c83 o6 [{ sku:=rs[i3.toNat]!.sku,past:=A3 rs[i3.toNat]!.past:Record }] (oA 2 (.agg [.s ({ sku:=rs[i3.toNat]!.sku,past:=A3 rs[i3.toNat]!.past:Record }.sku),.sl (List.map c3 { sku:=rs[i3.toNat]!.sku,past:=A3 rs[i3.toNat]!.past:Record }.past.vec),.sl (List.map B3 { sku:=rs[i3.toNat]!.sku,past:=A3 rs[i3.toNat]!.past:Record }.past.cloud)]) (oV 4 { rows:=some (List.map c83 (o6++[{ sku:=rs[i3.toNat]!.sku,past:=A3 rs[i3.toNat]!.past:Record }])) } z0)))))))))) ?_
 refine bN<|sn<|rG cx [3,6,17,18,19] [3,1006] (tW 0 (i3+1) z0)<|sn<|nX ((i3+1,v4,c5,o6++[{ sku:=rs[i3.toNat]!.sku,past:=A3 rs[i3.toNat]!.past:Record }])) (show((↑rs.length:Int)-(i3+1)).toNat <((↑rs.length:Int)-i3).toNat from(by omega)) (show B0c rs p (i3+1) v4 c5 (o6++[{ sku:=rs[i3.toNat]!.sku,past:=A3 rs[i3.toNat]!.past:Record }])from(by subst h8 h9;exact wt_yes (A2d hh2).1 h10 h14 h12 h13 h15))
 refine sK<|bN<|sn<|rG cx [3,6,17,18,19] [3,1006] (tW 0 (i3+1) z0)<|sn<|nX ((i3+1,v4,c5,o6)) (show((↑rs.length:Int)-(i3+1)).toNat <((↑rs.length:Int)-i3).toNat from(by omega)) (show B0c rs p (i3+1) v4 c5 o6 from(by subst h8 h9;exact Bi9 h10 h14 h12 h13 h15))
 refine eX 0<|nE<|nE<|bH<|sn<|sq<|rG cx [4,5] [1006] z0<|sn<|rT<|qR (.tup [.sl (List.map c83 o6),.i .i64 ((0:Int))]) (C1.tup (ZLe.cons (C1.eq (show AV.sl (List.map c83 o6)=AV.sl (List.map c83 (S9 rs p).1)from(by rw[Am0 (A2d hh2).1 (A2d hh2).2,h13,List.take_of_length_le (by omega)]))) (ZLe.cons (C1.eq (show AV.i .i64 0=AV.i .i64 (S9 rs p).2 from(by rw[Am0 (A2d hh2).1 (A2d hh2).2]))) ZLe.nil)))
end Go.Proofs.YtokhjapfekbobaaGreat
namespace Go.Proofs.YtokhjapfekbobaaGreat
open Go.E
set_option maxRecDepth 100000
set_option maxHeartbeats 4000000
open Go Go.Sort Go.RowKit Go.Lib Go.Shelf Go.Proofs
section
variable {α : Type} [Inhabited α] {enc : α → List Value} {k blk off : Nat}
def A2e(sf:Nat)(sb:Array Value)(enc:α→List Value)(k blk off size:Nat):Prop :=
 ∀(W:World) (dk:Array α),HoldsK enc k W blk off dk→dk.size=size→∀ i j:Nat,i < size→j < size→i≠j →
  (callFunc sf (#[.int .i64 i,.int .i64 j]++sb)).run Tryz.prog W=.ok (.value (.tuple #[])) ((W.setCells blk (off+i*k) (enc dk[j]!)).setCells blk (off+j*k) (enc dk[i]!))
def A1j(w:World)(g:Nat)(lb:Array Value)(sf:Nat)(sb:Array Value):World:=w.alloc (.cells #[.func (.func g) #[] lb,.func (.func sf) #[] sb] 169)
theorem S4(w:World)(g:Nat)(lb:Array Value)(sf:Nat)(sb:Array Value):(A1j w g lb sf sb).heap.size=w.heap.size+1:=by simp [A1j]
theorem A2f{w0:World}{d:Array α}(hH:HoldsK enc k w0 blk off d)(g:Nat)(lb:Array Value)(sf:Nat)(sb:Array Value):Fam enc k blk off w0 d (A1j w0 g lb sf sb):=(Fam.start hH).alloc _
theorem G9{w0:World}(hb:blk < w0.heap.size)(g:Nat)(lb:Array Value)(sf:Nat)(sb:Array Value){W:World}{d':Array α}(h:Fam enc k blk off (A1j w0 g lb sf sb) d' W) :
  W.cell? ⟨w0.heap.size,0,none⟩=some (.func (.func g) #[] lb)∧W.cell? ⟨w0.heap.size,1,none⟩=some (.func (.func sf) #[] sb):=by
 constructor
 ·rw[h.cell (by show w0.heap.size < _;rw[S4];omega) (by show w0.heap.size≠blk;omega)];simp [A1j]
 ·rw[h.cell (by show w0.heap.size < _;rw[S4];omega) (by show w0.heap.size≠blk;omega)];simp [A1j]
set_option maxHeartbeats 4000000 in
theorem V2 (hk:∀ x,(enc x).length=k) (g:Nat) (lb:Array Value) (sf:Nat) (sb:Array Value) (w0:World) (d:Array α) (hswap:A2e sf sb enc k blk off d.size) (hH:HoldsK enc k w0 blk off d) (hb:blk < w0.heap.size)
  (a b n:Nat) (hab:a+n≤b) (hbn:b+n≤d.size) (hsz:d.size < 4611686018427387904) :
  Calls Tryz.prog 228 #[.agg #[.func (.func g) #[] lb,.func (.func sf) #[] sb],.int .i64 a,.int .i64 b,.int .i64 n] w0 fun e w' =>
   e=.returned (.tuple #[])∧∃ d',Fam enc k blk off w0 d' w'∧d'.size=d.size∧PermIn a (b+n) d d'∧∀ j,d'[j]! = d[A69 a b n j]!:=by
 have HF:Hid (Fam enc k blk off w0 d (A1j w0 g lb sf sb)):=A2f hH g lb sf sb
 have hb1:blk <(A1j w0 g lb sf sb).heap.size:=by rw[S4];omega
 have HH:Hid (HoldsK enc k (A1j w0 g lb sf sb) blk off d):=HF.out.holds hb hH rfl
 have HS:Hid (A2e sf sb enc k blk off d.size):=hswap
 clear hswap
 go_enter Tryz.func228,Tryz.ntmps228
 go_wp2
 go_loopw [8] (fun v8 wr=>∃(i:Nat) (dk:Array α),v8=.int .i64 i∧i≤n∧Hid (dk.size=d.size∧Fam enc k blk off (A1j w0 g lb sf sb) dk wr∧PermIn a (b+n) d dk∧∀ j,dk[j]! = d[A69 a b i j]!)) (fun v8 _=>n-(intOf v8).toNat)
 case atStart=>exact⟨0,d,by go_num,by omega,rfl,Fam.start HH.out,permIn_refl d _ _,fun j=>by rw[B1o]⟩
 case round =>
  obtain⟨i,dk,rfl,hin,HI⟩:=hrel
  have c:=(G9 hb g lb sf sb HI.out.2.1).2
  go_wp2
  ·have hlt:i < n:=by omega
   have hs:=HS.out wr dk (HI.out.2.1.holds hb1 HH.out HI.out.1) HI.out.1 (a+i) (b+i) (by omega) (by omega) (by omega)
   rw[show((a+i:Nat):Int)=(a:Int)+(i:Int)by omega,show((b+i:Nat):Int)=(b:Int)+(i:Int)by omega]at hs
   rw[hs,Oper.upon_value]
   clear hs
   go_wp2
   go_roundw
   case rel =>
    obtain⟨e1,e2,e3,e4⟩:=HI.out
    exact⟨i+1,swp dk (a+i) (b+i),by go_num,by omega,by rw[Sort.size_swp];exact e1,e2.swap hk hb1 _ _ (by omega) (by omega),
     permIn_trans d dk _ _ _ e3 (swp_permIn dk a (b+n) (a+i) (b+i) (by omega) (by omega) (by omega) (by omega) (by omega)),Bb1 (by omega) (by omega) e1 e4⟩
   case measure=>simp [intOf];omega
  ·go_end0
   obtain⟨e1,e2,e3,e4⟩:=HI.out
   have hi:i=n:=by omega
   exact⟨rfl,dk,HF.out.trans hb e2 e1,e1,e3,fun j=>by rw[e4 j,hi]⟩
set_option maxHeartbeats 4000000 in
theorem Am1 (hk:∀ x,(enc x).length=k) (g:Nat) (lb:Array Value) (sf:Nat) (sb:Array Value) (w0:World) (d:Array α) (hswap:A2e sf sb enc k blk off d.size) (hH:HoldsK enc k w0 blk off d) (hb:blk < w0.heap.size)
  (a m b:Nat) (ham:a < m) (hmb:m < b) (hbn:b≤d.size) (hsz:d.size < 4611686018427387904) :
  Calls Tryz.prog 219 #[.agg #[.func (.func g) #[] lb,.func (.func sf) #[] sb],.int .i64 a,.int .i64 m,.int .i64 b] w0 fun e w' =>
   e=.returned (.tuple #[])∧∃ d',Fam enc k blk off w0 d' w'∧d'.size=d.size∧PermIn a b d d'∧∀ j,d'[j]! = d[G6 a m b j]!:=by
 have HF:Hid (Fam enc k blk off w0 d (A1j w0 g lb sf sb)):=A2f hH g lb sf sb
 have hb1:blk <(A1j w0 g lb sf sb).heap.size:=by rw[S4];omega
 have HH:Hid (HoldsK enc k (A1j w0 g lb sf sb) blk off d):=HF.out.holds hb hH rfl
 have HS:Hid (A2e sf sb enc k blk off d.size):=hswap
 have u:=run_underlying (P:=Tryz.prog) (A9 169 _ rfl).1
 clear hswap
 go_enter Tryz.func219,Tryz.ntmps219
 go_wp2
 go_loopw [8,9] (fun v8 v9 wr=>∃(i j:Nat) (dk:Array α),v8=.int .i64 i∧v9=.int .i64 j∧0 < i∧0 < j∧a+i≤m∧m+j≤b∧Hid (dk.size=d.size∧Fam enc k blk off (A1j w0 g lb sf sb) dk wr∧PermIn a b d dk∧∀ q,dk[G6 (m-i) m (m+j) q]! = d[G6 a m b q]!)) (fun v8 v9 _=>(intOf v8).toNat+(intOf v9).toNat)
 case atStart =>
  refine⟨m-a,b-m,d,by go_num,by go_num,by omega,by omega,by omega,by omega,rfl,Fam.start HH.out,permIn_refl d _ _,fun q=>?_⟩
  rw[show m-(m-a)=a by omega,show m+(b-m)=b by omega]
 case round =>
  obtain⟨i,j,dk,rfl,rfl,hi0,hj0,hi,hj,HI⟩:=hrel
  have c:=G9 hb g lb sf sb HI.out.2.1
  have c0:=c.1
  have c1:=c.2
  clear c
  have hw:=HI.out.2.1.size
  by_cases hij:i=j
  ·subst hij
   have hc:=V2 hk g lb sf sb wr dk (HI.out.1 ▸ HS.out) (HI.out.2.1.holds hb1 HH.out HI.out.1) (by omega) (m-i) m i (by omega) (by rw[HI.out.1];omega) (by rw[HI.out.1];omega)
   rw[show((m-i:Nat):Int)=(m:Int)-(i:Int)by omega]at hc
   have HC:=Box.mk hc
   clear hc
   go_wp2_with (go_at_call 228;refine HC.out.mono ?_;rintro e w' ⟨rfl,d',f1,f2,f3,f4⟩)
   go_end0
   obtain⟨e1,e2,e3,e4⟩:=HI.out
   exact⟨rfl,d',HF.out.trans hb (e2.trans hb1 f1 (by rw[f2,e1])) (by rw[f2,e1]),by rw[f2,e1],permIn_trans d dk d' _ _ e3 (J4 (by omega) (by omega) (by omega) f3),fun q=>by rw[f4 q,B5v (by omega),e4 q]⟩
  ·by_cases hlt:j < i
   ·have hc:=V2 hk g lb sf sb wr dk (HI.out.1 ▸ HS.out) (HI.out.2.1.holds hb1 HH.out HI.out.1) (by omega) (m-i) m j (by omega) (by rw[HI.out.1];omega) (by rw[HI.out.1];omega)
    rw[show((m-i:Nat):Int)=(m:Int)-(i:Int)by omega]at hc
    have HC:=Box.mk hc
    clear hc
    go_wp2_with (go_at_call 228;refine HC.out.mono ?_;rintro e w' ⟨rfl,d',f1,f2,f3,f4⟩)
    go_roundw
    case rel =>
     obtain⟨e1,e2,e3,e4⟩:=HI.out
     exact⟨i-j,j,d',by go_num,rfl,by omega,by omega,by omega,by omega,by rw[f2,e1],e2.trans hb1 f1 (by rw[f2]),permIn_trans d dk d' _ _ e3 (J4 (by omega) (by omega) (by omega) f3),fun q=>by rw[f4,B5u (by omega) hj0 hlt,e4 q]⟩
    case measure=>simp [intOf];omega
   ·have hc:=V2 hk g lb sf sb wr dk (HI.out.1 ▸ HS.out) (HI.out.2.1.holds hb1 HH.out HI.out.1) (by omega) (m-i) (m+j-i) i (by omega) (by rw[HI.out.1];omega) (by rw[HI.out.1];omega)
    rw[show((m-i:Nat):Int)=(m:Int)-(i:Int)by omega,show((m+j-i:Nat):Int)=(m:Int)+(j:Int)-(i:Int)by omega]at hc
    have HC:=Box.mk hc
    clear hc
    go_wp2_with (go_at_call 228;refine HC.out.mono ?_;rintro e w' ⟨rfl,d',f1,f2,f3,f4⟩)
    go_roundw
    case rel =>
     obtain⟨e1,e2,e3,e4⟩:=HI.out
     exact⟨i,j-i,d',rfl,by go_num,by omega,by omega,by omega,by omega,by rw[f2,e1],e2.trans hb1 f1 (by rw[f2]),permIn_trans d dk d' _ _ e3 (J4 (by omega) (by omega) (by omega) f3),fun q=>by rw[f4,B1p (by omega) hi0 (by omega),e4 q]⟩
    case measure=>simp [intOf];omega
def A2g(g:Nat)(lb:Array Value)(enc:α→List Value)(k:Nat)(lt:α→α→Bool)(blk off size:Nat)(w0:World):Prop :=
 ∀(W:World) (dk:Array α),Fam enc k blk off w0 dk W→dk.size=size→∀ i j:Nat,i < size→j < size →
  Calls Tryz.prog g (#[.int .i64 i,.int .i64 j]++lb) W fun e w'=>e=.returned (.bool (lt dk[i]! dk[j]!))∧Below W.heap.size W w'
theorem A2g.on{g:Nat}{lb:Array Value}{lt:α→α→Bool}{size:Nat}{w0 W:World}{d:Array α}(h:A2g g lb enc k lt blk off size w0)(hb:blk < w0.heap.size)(hF:Fam enc k blk off w0 d W)(hs:d.size=size):A2g g lb enc k lt blk off size W :=
 fun W' dk hF' hs' i j hi hj=>h W' dk (hF.trans hb hF' (by omega)) hs' i j hi hj
set_option maxHeartbeats 4000000 in
theorem A13 (hk:∀ x,(enc x).length=k) (lt:α→α→Bool) (g:Nat) (lb:Array Value) (sf:Nat) (sb:Array Value) (w0:World) (d:Array α) (hg:D5 Tryz.prog g) (hless:A2g g lb enc k lt blk off d.size w0) (hswap:A2e sf sb enc k blk off d.size) (hH:HoldsK enc k w0 blk off d) (hb:blk < w0.heap.size)
  (a b:Nat) (hab:a≤b) (hbn:b≤d.size) (hsz:d.size < 4611686018427387904) :
  Calls Tryz.prog 168 #[.agg #[.func (.func g) #[] lb,.func (.func sf) #[] sb],.int .i64 a,.int .i64 b] w0 fun e w' =>
   e=.returned (.tuple #[])∧Fam enc k blk off w0 (Sort.insertionSort lt d a b) w':=by
 have HF:=Box.mk (A2f hH g lb sf sb)
 have hb1:blk <(A1j w0 g lb sf sb).heap.size:=by rw[S4];omega
 have HH:=Box.mk (HF.out.holds hb hH rfl)
 have HS:=Box.mk hswap
 have HL:=Box.mk (hless.on hb HF.out rfl)
 have eg:∀ args w,(callFunc g args).run Tryz.prog w=.ok (.enter g args) w:=fun args w=>N6 hg w
 clear hswap hless
 go_enter Tryz.func168,Tryz.ntmps168
 go_wp2
 go_loopw [6] (fun vi wr=>∃(i:Nat) (dk:Array α),vi=.int .i64 i∧a < i∧i≤b+1∧dk.size=d.size∧Box (Fam enc k blk off (A1j w0 g lb sf sb) dk wr)∧Box (insOuter lt a b i dk=insOuter lt a b (a+1) d)) (fun vi _=>b+1-(intOf vi).toNat)
 case atStart=>exact⟨a+1,d,by go_num,by omega,by omega,rfl,⟨Fam.start HH.out⟩,⟨rfl⟩⟩
 case round =>
  obtain⟨i,dk,rfl,hai,hib,hsk,HW,HO⟩:=hrel
  go_wp2
  ·go_loopw [7] (fun vj wr2=>∃(j:Nat) (dj:Array α),vj=.int .i64 j∧a≤j∧j≤i∧dj.size=d.size∧Box (Fam enc k blk off (A1j w0 g lb sf sb) dj wr2)∧Box (insInner lt a j dj=insInner lt a i dk)) (fun vj _=>(intOf vj).toNat)
   case atStart=>exact⟨i,dk,rfl,by omega,Nat.le_refl _,hsk,HW,⟨rfl⟩⟩
   case round =>
    obtain⟨j,dj,rfl,haj,hji,hsj,HJ,HI⟩:=hrel
    have hlt:i < b:=by assumption
    have c:=G9 hb g lb sf sb HJ.out
    have c0:=c.1
    have c1:=c.2
    clear c
    by_cases hja:a < j
    ·have hl:=HL.out wr dj HJ.out hsj j (j-1) (by omega) (by omega)
     rw[show(((j-1:Nat):Int))=(j:Int)-1 by omega]at hl
     cases hlv:lt dj[j]! dj[j-1]! with
     | true =>
      rw[hlv]at hl
      have HQ:=Box.mk hl
      clear hl
      go_wp2_with (go_at_fn g;refine HQ.out.mono ?_;rintro e w' ⟨rfl,hB⟩;have c2:=(G9 hb g lb sf sb (HJ.out.below hB)).2;have FB:=Box.mk (HJ.out.below hB);clear hB)
      have hs:=HS.out w' dj (FB.out.holds hb1 HH.out hsj) hsj j (j-1) (by omega) (by omega) (by omega)
      rw[show(((j-1:Nat):Int))=(j:Int)-1 by omega]at hs
      rw[hs,Oper.upon_value]
      clear hs
      go_wp2
      go_roundw
      case rel =>
       (repeat apply Exists.intro)
       refine⟨⟨j-1,swp dj j (j-1),by congr 1 <;> omega,by omega,by omega,by rw[Sort.size_swp];exact hsj,⟨FB.out.swap hk hb1 _ _ (by omega) (by omega)⟩,⟨?_⟩⟩,by rw[decide_eq_true hlt,show((j-1:Nat):Int)=(j:Int)-1 by omega]⟩
       rw[← HI.out,insInner_go lt a j dj hja hlv]
      case measure=>simp [intOf];omega
     | false =>
      rw[hlv]at hl
      have HQ:=Box.mk hl
      clear hl
      go_wp2_with (go_at_fn g;refine HQ.out.mono ?_;rintro e w' ⟨rfl,hB⟩)
      go_roundw
      case rel=>exact⟨i+1,dj,by go_num,by omega,by omega,hsj,⟨HJ.out.below hB⟩,⟨by rw[← HO.out,insOuter_go _ _ _ _ _ hlt,← HI.out,insInner_stop _ _ _ _ (Or.inr hlv)]⟩⟩
      case measure=>simp [intOf];omega
    ·go_wp2
     go_roundw
     case rel=>exact⟨i+1,dj,by go_num,by omega,by omega,hsj,HJ,⟨by rw[← HO.out,insOuter_go _ _ _ _ _ hlt,← HI.out,insInner_stop _ _ _ _ (Or.inl (by omega))]⟩⟩
     case measure=>simp [intOf];omega
  ·have hge:¬ i < b:=by omega
   go_end0
   exact⟨rfl,by unfold Sort.insertionSort;rw[← HO.out,insOuter_stop _ _ _ _ _ hge];exact HF.out.trans hb HW.out hsk⟩
end
end Go.Proofs.YtokhjapfekbobaaGreat
namespace Go.Proofs.YtokhjapfekbobaaGreat
open Go.E
set_option maxRecDepth 100000
set_option maxHeartbeats 4000000
open Go Go.Sort Go.RowKit Go.Lib Go.Shelf Go.Proofs
section
variable {α : Type} [Inhabited α] {enc : α → List Value} {k blk off : Nat}
section
variable {lt0 lt : α → α → Bool} {d dA dB dC : Array α} {a m b start h h' : Nat}
theorem Af8(hO:SWO lt)(hs:SortedIn lt a b d){i j:Nat}(h1:a≤i)(h2:i≤j)(h3:j < b):lt d[j]! d[i]! = false:=by
 rcases Nat.lt_or_ge i j with h | h
 ·exact hs i j h1 h h3
 ·rw[show i=j by omega];exact hO.irrefl _
theorem srA_t(hO:SWO lt)(hs:SortedIn lt m b d){x:α}(h1:h < b)(ht:lt d[h]! x=true)(h2:m≤h')(h3:h'≤h):lt d[h']! x=true:=by
 cases hc:lt d[h']! x with
 | true=>rfl
 | false=>rw[hO.ntrans _ _ _ (Af8 hO hs h2 h3 h1) hc]at ht;cases ht
theorem srA_f(hO:SWO lt)(hs:SortedIn lt m b d){x:α}(h1:m≤h)(ht:lt d[h]! x=false)(h2:h≤h')(h3:h' < b):lt d[h']! x=false:=hO.ntrans _ _ _ (Af8 hO hs h1 h2 h3) ht
theorem srB_f(hO:SWO lt)(hs:SortedIn lt a m d){x:α}(h1:h < m)(ht:lt x d[h]! = false)(h2:a≤h')(h3:h'≤h):lt x d[h']! = false:=hO.ntrans _ _ _ ht (Af8 hO hs h2 h3 h1)
theorem srB_t(hO:SWO lt)(hs:SortedIn lt a m d){x:α}(h1:a≤h)(ht:lt x d[h]! = true)(h2:h≤h')(h3:h' < m):lt x d[h']! = true:=by
 cases hc:lt x d[h']! with
 | true=>rfl
 | false=>rw[hO.ntrans _ _ _ hc (Af8 hO hs h1 h2 h3)]at ht;cases ht
theorem srC_f(hO:SWO lt)(hs1:SortedIn lt a m d)(hs2:SortedIn lt m b d){p c c':Nat}(hc:c < m)(hpc:m≤p-c)(ht:lt d[p-c]! d[c]! = false)(h2:a≤c')(h3:c'≤c)(h4:p-c' < b):lt d[p-c']! d[c']! = false :=
 hO.ntrans _ _ _ (hO.ntrans _ _ _ (Af8 hO hs2 hpc (by omega) h4) ht) (Af8 hO hs1 h2 h3 hc)
theorem srC_t(hO:SWO lt)(hs1:SortedIn lt a m d)(hs2:SortedIn lt m b d){p c c':Nat}(hc:a≤c)(hpc:p-c < b)(ht:lt d[p-c]! d[c]! = true)(h2:c≤c')(h3:c' < m)(h4:m≤p-c'):lt d[p-c']! d[c']! = true:=by
 cases hh:lt d[p-c']! d[c']! with
 | true=>rfl
 | false=>rw[hO.ntrans _ _ _ (hO.ntrans _ _ _ (Af8 hO hs2 h4 (by omega) hpc) hh) (Af8 hO hs1 hc h2 h3)]at ht;cases ht
theorem B7l{a m b q:Nat}(h:a=m∨m=b)(h1:a≤m)(h2:m≤b):G6 a m b q=q:=by
 unfold G6;rcases h with h | h
 ·subst h;split
  ·omega
  ·rw[if_neg (by omega)]
 ·subst h;rw[if_neg (by omega)];split <;> omega
theorem Bj0(ham:a < m)(hmb:m < b)(hC:Cut lt a m b start d)(hd:∀ q,dA[q]! = d[G6 start m ((a+b) / 2+m-start) q]!)(ho:∀ p q,a≤p→p < m→m≤q→q < b→lt0 d[q]! d[p]! = lt d[q]! d[p]!) :
  (∀ p q,a≤p→p < start→start≤q→q <(a+b) / 2→lt0 dA[q]! dA[p]! = lt dA[q]! dA[p]!)∧(∀ p q,(a+b) / 2≤p→p <(a+b) / 2+m-start→(a+b) / 2+m-start≤q→q < b→lt0 dA[q]! dA[p]! = lt dA[q]! dA[p]!):=by
 obtain⟨c1,c2,c3,c4,c5,c6⟩:=hC
 clear c5 c6
 constructor
 ·intro p q h1 h2 h3 h4
  rw[hd p,hd q]
  have e1:G6 start m ((a+b) / 2+m-start) p=p:=by unfold G6;rw[if_neg (by omega),if_neg (by omega)]
  have e2:G6 start m ((a+b) / 2+m-start) q=q-start+m:=by unfold G6;rw[if_pos (by omega)]
  rw[e1,e2]
  exact ho _ _ h1 (by omega) (by omega) (by omega)
 ·intro p q h1 h2 h3 h4
  rw[hd p,hd q]
  have e1:G6 start m ((a+b) / 2+m-start) p=p-((a+b) / 2+m-start-m):=by unfold G6;rw[if_neg (by omega),if_pos (by omega)]
  have e2:G6 start m ((a+b) / 2+m-start) q=q:=by unfold G6;rw[if_neg (by omega),if_neg (by omega)]
  rw[e1,e2]
  exact ho _ _ (by omega) (by omega) (by omega) (by omega)
theorem B7m{mid e:Nat}(h:PermIn a mid dA dB)(ho:∀ p q,mid≤p→p < e→e≤q→q < b→lt0 dA[q]! dA[p]! = lt dA[q]! dA[p]!):∀ p q,mid≤p→p < e→e≤q→q < b→lt0 dB[q]! dB[p]! = lt dB[q]! dB[p]!:=by
 intro p q h1 h2 h3 h4
 rw[h.2.1 p (by omega),h.2.1 q (by omega)];exact ho p q h1 h2 h3 h4
theorem Y6{mid e f:Nat}(h:PermIn a mid dA dB)(hm:mid≤e)(hs:SortedIn lt e f dA):SortedIn lt e f dB:=K7 hs fun i h1 h2=>h.2.1 i (by omega)
theorem Bj1{mid:Nat}(ham:a≤mid)(hmb:mid≤b)(hb:b≤d.size)(hA:PermIn a b d dA)(hx:∀ p q,a≤p→p < mid→mid≤q→q < b→lt dA[q]! dA[p]! = false)(hB:PermIn a mid dA dB)(hBs:SortedIn lt a mid dB)
  (hC:PermIn mid b dB dC) (hCs:SortedIn lt mid b dC):PermIn a b d dC∧SortedIn lt a b dC:=by
 have sA:dA.size=d.size:=hA.1
 have sB:dB.size=dA.size:=hB.1
 refine⟨permIn_trans d dA dC _ _ hA (permIn_trans dA dB dC _ _ (J4 (Nat.le_refl _) hmb (by omega) hB) (J4 ham (Nat.le_refl _) (by omega) hC)),?_⟩
 exact A89 (K7 hBs fun i h1 h2=>hC.2.1 i (by omega)) hCs (Aj7 ham hmb (by omega) hC (Ay5 ham hmb (by omega) hB hx))
end
set_option maxHeartbeats 8000000 in
theorem A2h (hk:∀ x,(enc x).length=k) (lt0 lt:α→α→Bool) (hO:SWO lt) (g:Nat) (lb:Array Value) (sf:Nat) (sb:Array Value) (hg:D5 Tryz.prog g):∀(n:Nat) (w0:World) (d:Array α) (hless:A2g g lb enc k lt0 blk off d.size w0) (hswap:A2e sf sb enc k blk off d.size) (hH:HoldsK enc k w0 blk off d) (hb:blk < w0.heap.size)
  (a m b:Nat) (ham:a < m) (hmb:m < b) (hbn:b≤d.size) (hsz:d.size < 4611686018427387904) (hn:b-a≤n)
  (hord:∀ p q,a≤p→p < m→m≤q→q < b→lt0 d[q]! d[p]! = lt d[q]! d[p]!) (hs1:SortedIn lt a m d) (hs2:SortedIn lt m b d),
  Calls Tryz.prog 214 #[.agg #[.func (.func g) #[] lb,.func (.func sf) #[] sb],.int .i64 a,.int .i64 m,.int .i64 b] w0 fun e w' =>
   e=.returned (.tuple #[])∧∃ d',Fam enc k blk off w0 d' w'∧d'.size=d.size∧PermIn a b d d'∧SortedIn lt a b d':=by
 intro n
 induction n with
 | zero=>intros;omega
 | succ n ih =>
 intro w0 d hless hswap hH hb a m b ham hmb hbn hsz hn hord hs1 hs2
 have HF:=Box.mk (A2f hH g lb sf sb)
 have hb1:blk <(A1j w0 g lb sf sb).heap.size:=by rw[S4];omega
 have HH:=Box.mk (HF.out.holds hb hH rfl)
 have HS:=Box.mk hswap
 have HL:=Box.mk (hless.on hb HF.out rfl)
 have HO:=Box.mk hord
 have H1:=Box.mk hs1
 have H2:=Box.mk hs2
 have IH:=Box.mk ih
 have eg:∀ args w,(callFunc g args).run Tryz.prog w=.ok (.enter g args) w:=fun args w=>N6 hg w
 clear hswap hless hord hs1 hs2 ih
 by_cases hone:m=a+1
 ·have hone1:(m:Int)-a=1:=by omega
  have hma1:m≤a+1:=by omega
  have HM:=Box.mk hone
  clear hone
  go_enter Tryz.func214,Tryz.ntmps214
  go_wp2
  clear hone1
  go_loopw [8,9] (fun v8 v9 wr=>∃(i j:Nat),v8=.int .i64 i∧v9=.int .i64 j∧m≤i∧i≤j∧j≤b∧Box (Fam enc k blk off (A1j w0 g lb sf sb) d wr)∧Box ((∀ h,m≤h→h < i→lt d[h]! d[a]! = true)∧(∀ h,j≤h→h < b→lt d[h]! d[a]! = false))) (fun v8 v9 _=>(intOf v9).toNat-(intOf v8).toNat)
  case atStart=>exact⟨m,b,rfl,rfl,by omega,by omega,by omega,⟨Fam.start HH.out⟩,⟨fun h h1 h2=>by omega,fun h h1 h2=>by omega⟩⟩
  case round =>
   obtain⟨i,j,rfl,rfl,hai,hij,hjb,HW,HI⟩:=hrel
   have c:=G9 hb g lb sf sb HW.out
   have c0:=c.1
   have c1:=c.2
   clear c
   by_cases hlt:i < j
   ·have hl:=HL.out wr d HW.out rfl ((i+j) / 2) a (by omega) (by omega)
    have ho:=HO.out a ((i+j) / 2) (by omega) (by omega) (by omega) (by omega)
    cases hlv:lt d[(i+j) / 2]! d[a]! with
    | true =>
     rw[ho,hlv]at hl
     clear ho
     have HQ:=Box.mk hl
     clear hl
     go_wp2_with (go_at_fn g;refine HQ.out.mono ?_;rintro e w' ⟨rfl,hB⟩;have FB:=Box.mk (HW.out.below hB);clear hB)
     go_roundw
     case rel=>exact⟨(i+j) / 2+1,j,by go_num,rfl,by omega,by omega,by omega,FB,⟨fun h h1 h2=>srA_t hO H2.out (by omega) hlv h1 (by omega),HI.out.2⟩⟩
     case measure=>simp [intOf];omega
    | false =>
     rw[ho,hlv]at hl
     clear ho
     have HQ:=Box.mk hl
     clear hl
     go_wp2_with (go_at_fn g;refine HQ.out.mono ?_;rintro e w' ⟨rfl,hB⟩;have FB:=Box.mk (HW.out.below hB);clear hB)
     go_roundw
     case rel=>exact⟨i,(i+j) / 2,rfl,by go_num,by omega,by omega,by omega,FB,⟨HI.out.1,fun h h1 h2=>srA_f hO H2.out (by omega) hlv h1 h2⟩⟩
     case measure=>simp [intOf];omega
   ·obtain rfl:i=j:=by omega
    go_wp2
    go_loopw [11] (fun v11 wz=>∃(c:Nat) (dk:Array α),v11=.int .i64 c∧a≤c∧c+1≤i∧dk.size=d.size∧Box (Fam enc k blk off (A1j w0 g lb sf sb) dk wz)∧Box (PermIn a b d dk∧∀ q,dk[q]! = d[G6 a (a+1) (c+1) q]!)) (fun v11 _=>i-(intOf v11).toNat)
    case atStart=>exact⟨a,d,rfl,by omega,by omega,rfl,HW,⟨permIn_refl d _ _,fun q=>by rw[B1q]⟩⟩
    case round =>
     obtain⟨c,dk,rfl,hac,hci,hsk,HK,HD⟩:=hrel
     have c1':=(G9 hb g lb sf sb HK.out).2
     clear c0 c1
     by_cases hend:c+1 < i
     ·have hs:=HS.out wr dk (HK.out.holds hb1 HH.out hsk) hsk c (c+1) (by omega) (by omega) (by omega)
      rw[show((c+1:Nat):Int)=(c:Int)+1 by omega]at hs
      have hend1:(c:Int) <(i:Int)-1:=by omega
      go_wp2
      go_roundw
      case rel =>
       exact⟨c+1,swp dk c (c+1),by go_num,by omega,by omega,by rw[Sort.size_swp];exact hsk,⟨HK.out.swap hk hb1 _ _ (by omega) (by omega)⟩,
        ⟨permIn_trans d dk _ _ _ HD.out.1 (swp_permIn dk a b c (c+1) (by omega) (by omega) (by omega) (by omega) (by omega)),Bb2 hac (by omega) hsk HD.out.2⟩⟩
      case measure=>simp [intOf];omega
     ·obtain rfl:i=c+1:=by omega
      have hend1:¬(c:Int) <((c+1:Nat):Int)-1:=by omega
      go_wp2
      (try simp only [Exit.inBlock,Exit.then]);refine bodyPost_ret (results_none rfl _ _ _) rfl ?_
      obtain rfl:=HM.out
      exact⟨rfl,dk,HF.out.trans hb HK.out hsk,hsk,HD.out.1,A6a hO H2.out (by omega) (by omega) (fun h h1 h2=>HI.out.1 h h1 h2) (fun h h1 h2=>HI.out.2 h h1 h2) HD.out.2⟩
 ·by_cases hlast:b=m+1
  ·have hone1:(b:Int)-m=1:=by omega
   have hone0:¬(m:Int)-a=1:=by omega
   have hma1:b≤m+1:=by omega
   have hma2:a+2≤m:=by omega
   have HM:=Box.mk hlast
   clear hlast hone
   go_enter Tryz.func214,Tryz.ntmps214
   go_wp2
   clear hone1 hone0
   have hx:((m:Int)-a == 1)=false:=beq_false_of_ne (by omega)
   try simp only [hx]
   clear hx
   go_loopw [12,13] (fun v8 v9 wr=>∃(i j:Nat),v8=.int .i64 i∧v9=.int .i64 j∧a≤i∧i≤j∧j≤m∧Box (Fam enc k blk off (A1j w0 g lb sf sb) d wr)∧Box ((∀ h,a≤h→h < i→lt d[m]! d[h]! = false)∧(∀ h,j≤h→h < m→lt d[m]! d[h]! = true))) (fun v8 v9 _=>(intOf v9).toNat-(intOf v8).toNat)
   case atStart=>exact⟨a,m,rfl,rfl,by omega,by omega,by omega,⟨Fam.start HH.out⟩,⟨fun h h1 h2=>by omega,fun h h1 h2=>by omega⟩⟩
   case round =>
    obtain⟨i,j,rfl,rfl,hai,hij,hjb,HW,HI⟩:=hrel
    have c:=G9 hb g lb sf sb HW.out
    have c0:=c.1
    have c1:=c.2
    clear c
    by_cases hlt:i < j
    ·have hl:=HL.out wr d HW.out rfl m ((i+j) / 2) (by omega) (by omega)
     have ho:=HO.out ((i+j) / 2) m (by omega) (by omega) (by omega) (by omega)
     cases hlv:lt d[m]! d[(i+j) / 2]! with
     | false =>
      rw[ho,hlv]at hl
      clear ho
      have HQ:=Box.mk hl
      clear hl
      go_wp2_with (go_at_fn g;refine HQ.out.mono ?_;rintro e w' ⟨rfl,hB⟩;have FB:=Box.mk (HW.out.below hB);clear hB)
      go_roundw
      case rel=>exact⟨(i+j) / 2+1,j,by go_num,rfl,by omega,by omega,by omega,FB,⟨fun h h1 h2=>srB_f hO H1.out (by omega) hlv h1 (by omega),HI.out.2⟩⟩
      case measure=>simp [intOf];omega
     | true =>
      rw[ho,hlv]at hl
      clear ho
      have HQ:=Box.mk hl
      clear hl
      go_wp2_with (go_at_fn g;refine HQ.out.mono ?_;rintro e w' ⟨rfl,hB⟩;have FB:=Box.mk (HW.out.below hB);clear hB)
      go_roundw
      case rel=>exact⟨i,(i+j) / 2,rfl,by go_num,by omega,by omega,by omega,FB,⟨HI.out.1,fun h h1 h2=>srB_t hO H1.out (by omega) hlv h1 h2⟩⟩
      case measure=>simp [intOf];omega
    ·obtain rfl:i=j:=by omega
     go_wp2
     go_loopw [15] (fun v11 wz=>∃(c:Nat) (dk:Array α),v11=.int .i64 c∧i≤c∧c≤m∧dk.size=d.size∧Box (Fam enc k blk off (A1j w0 g lb sf sb) dk wz)∧Box (PermIn a b d dk∧∀ q,dk[q]! = d[G6 c m (m+1) q]!)) (fun v11 _=>(intOf v11).toNat-i)
     case atStart=>exact⟨m,d,rfl,by omega,by omega,rfl,HW,⟨permIn_refl d _ _,fun q=>by rw[B1s]⟩⟩
     case round =>
      obtain⟨c,dk,rfl,hac,hci,hsk,HK,HD⟩:=hrel
      have c1':=(G9 hb g lb sf sb HK.out).2
      clear c0 c1
      by_cases hend:i < c
      ·have hs:=HS.out wr dk (HK.out.holds hb1 HH.out hsk) hsk c (c-1) (by omega) (by omega) (by omega)
       rw[show((c-1:Nat):Int)=(c:Int)-1 by omega]at hs
       go_wp2
       go_roundw
       case rel =>
        have hd:=B1r (d:=d) (dk:=dk) (c:=c-1) (m:=m) (by omega) (by omega) hsk
        rw[show c-1+1=c by omega]at hd
        exact⟨c-1,swp dk c (c-1),by go_num,by omega,by omega,by rw[Sort.size_swp];exact hsk,⟨HK.out.swap hk hb1 _ _ (by omega) (by omega)⟩,
         ⟨permIn_trans d dk _ _ _ HD.out.1 (swp_permIn dk a b c (c-1) (by omega) (by omega) (by omega) (by omega) (by omega)),hd HD.out.2⟩⟩
       case measure=>simp [intOf];omega
      ·obtain rfl:i=c:=by omega
       go_wp2
       (try simp only [Exit.inBlock,Exit.then]);refine bodyPost_ret (results_none rfl _ _ _) rfl ?_
       obtain rfl:=HM.out
       exact⟨rfl,dk,HF.out.trans hb HK.out hsk,hsk,HD.out.1,A4q hO H1.out (by omega) (by omega) (fun h h1 h2=>HI.out.1 h h1 h2) (fun h h1 h2=>HI.out.2 h h1 h2) HD.out.2⟩
  ·have hone1:¬(b:Int)-m=1:=by omega
   have hone0:¬(m:Int)-a=1:=by omega
   clear hlast hone
   have hmid1:2*((a+b) / 2)≤a+b:=by omega
   have hmid2:a+b≤2*((a+b) / 2)+1:=by omega
   go_enter Tryz.func214,Tryz.ntmps214
   go_upto_if 106 with fail
   go_cut [18,19] (fun s18 s19 wx=>wx=A1j w0 g lb sf sb∧∃ s0 r0:Nat,s18=.int .i64 s0∧s19=.int .i64 r0∧a≤s0∧(a+b) / 2+m≤b+s0∧(s0=a∨s0+b=(a+b) / 2+m)∧r0≤m∧r0≤(a+b) / 2∧(r0=m∨r0=(a+b) / 2)∧s0≤r0)
   case first =>
    by_cases hm:(a+b) / 2 < m
    ·go_wp2
     go_meet
     case rel=>exact⟨rfl,(a+b) / 2+m-b,(a+b) / 2,by go_num,by go_num,by omega,by omega,by omega,by omega,by omega,by omega,by omega⟩
    ·go_wp2
     go_meet
     case rel=>exact⟨rfl,a,m,by go_num,by go_num,by omega,by omega,by omega,by omega,by omega,by omega,by omega⟩
   case rest =>
    obtain⟨rfl,s0,r0,rfl,rfl,g1,g2,g3,g4,g5,g6,g7⟩:=hcut
    go_wp2
    clear hone0 hone1
    go_loopw [18,19] (fun v8 v9 wr=>∃(i j:Nat),v8=.int .i64 i∧v9=.int .i64 j∧s0≤i∧i≤j∧j≤r0∧Box (Fam enc k blk off (A1j w0 g lb sf sb) d wr)∧Box ((∀ c,a≤c→(a+b) / 2+m≤b+c→c < i→lt d[(a+b) / 2+m-1-c]! d[c]! = false)∧(∀ c,j≤c→c < m→c <(a+b) / 2→lt d[(a+b) / 2+m-1-c]! d[c]! = true))) (fun v8 v9 _=>(intOf v9).toNat-(intOf v8).toNat)
    case atStart=>exact⟨s0,r0,rfl,rfl,by omega,by omega,by omega,⟨Fam.start HH.out⟩,⟨fun h h1 h2 h3=>by omega,fun h h1 h2 h3=>by omega⟩⟩
    case round =>
     obtain⟨i,j,rfl,rfl,hai,hij,hjb,HW,HI⟩:=hrel
     by_cases hlt:i < j
     ·have c:=G9 hb g lb sf sb HW.out
      have c0:=c.1
      have c1:=c.2
      clear c
      have hl:=HL.out wr d HW.out rfl ((a+b) / 2+m-1-(i+j) / 2) ((i+j) / 2) (by omega) (by omega)
      have ho:=HO.out ((i+j) / 2) ((a+b) / 2+m-1-(i+j) / 2) (by omega) (by omega) (by omega) (by omega)
      cases hlv:lt d[(a+b) / 2+m-1-(i+j) / 2]! d[(i+j) / 2]! with
      | false =>
       rw[ho,hlv,show(((a+b) / 2+m-1-(i+j) / 2:Nat):Int)=((a:Int)+b) / 2+m-1-((i:Int)+j) / 2 by omega]at hl
       clear ho
       have HQ:=Box.mk hl
       clear hl
       go_wp2_with (go_at_fn g;refine HQ.out.mono ?_;rintro e w' ⟨rfl,hB⟩;have FB:=Box.mk (HW.out.below hB);clear hB)
       go_roundw
       case rel=>exact⟨(i+j) / 2+1,j,by go_num,rfl,by omega,by omega,by omega,FB,⟨fun c h1 h2 h3=>srC_f hO H1.out H2.out (by omega) (by omega) hlv h1 (by omega) (by omega),HI.out.2⟩⟩
       case measure=>simp [intOf];omega
      | true =>
       rw[ho,hlv,show(((a+b) / 2+m-1-(i+j) / 2:Nat):Int)=((a:Int)+b) / 2+m-1-((i:Int)+j) / 2 by omega]at hl
       clear ho
       have HQ:=Box.mk hl
       clear hl
       go_wp2_with (go_at_fn g;refine HQ.out.mono ?_;rintro e w' ⟨rfl,hB⟩;have FB:=Box.mk (HW.out.below hB);clear hB)
       go_roundw
       case rel=>exact⟨i,(i+j) / 2,rfl,by go_num,by omega,by omega,by omega,FB,⟨HI.out.1,fun c h1 h2 h3=>srC_t hO H1.out H2.out (by omega) (by omega) hlv h1 h2 (by omega)⟩⟩
       case measure=>simp [intOf];omega
     ·obtain rfl:i=j:=by omega
      have HC:=Box.mk (Cut.mk (lt:=lt) (a:=a) (m:=m) (b:=b) (start:=i) (d:=d) (by omega) (by omega) (by omega) (by omega) HI.out.1 HI.out.2)
      have he:(((a+b) / 2+m-i:Nat):Int)=((a:Int)+b) / 2+m-i:=by omega
      have HE:=Box.mk he
      clear he
      go_upto_region 40 with fail
      go_cut [145] (fun s wx=>wx=wr∧s=.bool (decide (i < m∧m <(a+b) / 2+m-i)))
      case first =>
       by_cases h1:i < m
       ·by_cases h2:m <(a+b) / 2+m-i
        ·go_wp2
         go_meet
         case rel=>exact⟨rfl,(congrArg Value.bool (by first | exact(decide_eq_true (by omega)).symm | exact(decide_eq_false (by omega)).symm | exact decide_eq_decide.mpr (by omega)))⟩
        ·go_wp2
         go_meet
         case rel=>exact⟨rfl,(congrArg Value.bool (by first | exact(decide_eq_true (by omega)).symm | exact(decide_eq_false (by omega)).symm | exact decide_eq_decide.mpr (by omega)))⟩
       ·go_wp2
        go_meet
        case rel=>exact⟨rfl,(congrArg Value.bool (by first | exact(decide_eq_true (by omega)).symm | exact(decide_eq_false (by omega)).symm | exact decide_eq_decide.mpr (by omega)))⟩
      case rest =>
       obtain⟨rfl,rfl⟩:=hcut
       go_upto_if 145 with fail
       go_cut [] (fun wx=>∃ dA,Box (Fam enc k blk off (A1j w0 g lb sf sb) dA wx)∧Box (dA.size=d.size)∧Box (PermIn a b d dA∧∀ q,dA[q]! = d[G6 i m ((a+b) / 2+m-i) q]!))
       case first =>
        by_cases h12:i < m∧m <(a+b) / 2+m-i
        ·have hc:=Am1 hk g lb sf sb wc d HS.out (HW.out.holds hb1 HH.out rfl) (by have:=HW.out.size;omega) i m ((a+b) / 2+m-i) h12.1 h12.2 (by omega) hsz
         rw[HE.out]at hc
         have HQ:=Box.mk hc
         have c:=G9 hb g lb sf sb HW.out
         have c0:=c.1
         have c1:=c.2
         clear c
         have h12b:decide (i < m∧m <(a+b) / 2+m-i)=true:=decide_eq_true h12
         clear hc
         go_wp2_with (go_at_call 219;refine HQ.out.mono ?_;rintro e w1 ⟨rfl,dA,f1,f2,f3,f4⟩;have FA:=Box.mk (HW.out.trans hb1 f1 f2);have SA:=Box.mk f2;have PA:=Box.mk f3;have RA:=Box.mk f4;clear f1 f2 f3 f4)
         go_meet
         case rel=>exact⟨dA,FA,SA,⟨J4 (by omega) (by omega) (by omega) PA.out,RA.out⟩⟩
        ·have h12b:decide (i < m∧m <(a+b) / 2+m-i)=false:=decide_eq_false h12
         go_wp2_with fail
         go_meet
         case rel=>exact⟨d,HW,⟨rfl⟩,⟨permIn_refl d _ _,fun q=>by rw[B7l (by omega) (by omega) (by omega)]⟩⟩
       case rest =>
        obtain⟨dA,FA,SA,PA⟩:=hcut
        have HP:=Box.mk (B1t hO H1.out H2.out ham hmb HC.out PA.out.2)
        have HR:=Box.mk (Bj0 ham hmb HC.out PA.out.2 HO.out)
        clear HW
        go_upto_region 42 with fail
        go_cut [158] (fun s wx=>wx=wc∧s=.bool (decide (a < i∧i <(a+b) / 2)))
        case first =>
         by_cases h1:a < i
         ·by_cases h2:i <(a+b) / 2
          ·go_wp2
           go_meet
           case rel=>exact⟨rfl,(congrArg Value.bool (by first | exact(decide_eq_true (by omega)).symm | exact(decide_eq_false (by omega)).symm | exact decide_eq_decide.mpr (by omega)))⟩
          ·go_wp2
           go_meet
           case rel=>exact⟨rfl,(congrArg Value.bool (by first | exact(decide_eq_true (by omega)).symm | exact(decide_eq_false (by omega)).symm | exact decide_eq_decide.mpr (by omega)))⟩
         ·go_wp2
          go_meet
          case rel=>exact⟨rfl,(congrArg Value.bool (by first | exact(decide_eq_true (by omega)).symm | exact(decide_eq_false (by omega)).symm | exact decide_eq_decide.mpr (by omega)))⟩
        case rest =>
         obtain⟨rfl,rfl⟩:=hcut
         go_upto_if 158 with fail
         go_cut [] (fun wx=>∃ dB,Box (Fam enc k blk off (A1j w0 g lb sf sb) dB wx)∧Box (dB.size=d.size)∧Box (PermIn a ((a+b) / 2) dA dB∧SortedIn lt a ((a+b) / 2) dB))
         case first =>
          by_cases h12:a < i∧i <(a+b) / 2
          ·have hc:=IH.out wc dA (by rw[SA.out];exact HL.out.on hb1 FA.out SA.out) (by rw[SA.out];exact HS.out) (FA.out.holds hb1 HH.out SA.out) (by have:=FA.out.size;omega) a i ((a+b) / 2) h12.1 h12.2 (by rw[SA.out];omega) (by rw[SA.out];exact hsz) (by omega) HR.out.1 HP.out.1 HP.out.2.1
           rw[show((((a+b) / 2:Nat)):Int)=((a:Int)+b) / 2 by omega]at hc
           have HQ:=Box.mk hc
           have c:=G9 hb g lb sf sb FA.out
           have c0:=c.1
           have c1:=c.2
           clear c
           have h12b:decide (a < i∧i <(a+b) / 2)=true:=decide_eq_true h12
           clear hc
           go_wp2_with (go_at_call 214;refine HQ.out.mono ?_;rintro e w1 ⟨rfl,dB,f1,f2,f3,f4⟩;have FB:=Box.mk (FA.out.trans hb1 f1 f2);have SB:=Box.mk (f2.trans SA.out);have PB:=Box.mk f3;have RB:=Box.mk f4;clear f1 f2 f3 f4)
           go_meet
           case rel=>exact⟨dB,FB,SB,⟨PB.out,RB.out⟩⟩
          ·have h12b:decide (a < i∧i <(a+b) / 2)=false:=decide_eq_false h12
           go_wp2_with fail
           go_meet
           case rel =>
            refine⟨dA,FA,SA,⟨permIn_refl dA _ _,?_⟩⟩
            have q1:=HC.out.hi2
            have q2:=HC.out.lo
            rcases Nat.lt_or_ge a i with q3 | q3
            ·have q4:i=(a+b) / 2:=by omega
             have q5:=HP.out.1
             rw[q4]at q5
             exact q5
            ·have q4:i=a:=by omega
             have q5:=HP.out.2.1
             rw[q4]at q5
             exact q5
         case rest =>
          obtain⟨dB,FB,SB,PB⟩:=hcut
          go_upto_region 44 with fail
          go_cut [171] (fun s wx=>wx=wc∧s=.bool (decide ((a+b) / 2 <(a+b) / 2+m-i∧(a+b) / 2+m-i < b)))
          case first =>
           by_cases h1:(a+b) / 2 <(a+b) / 2+m-i
           ·by_cases h2:(a+b) / 2+m-i < b
            ·go_wp2
             go_meet
             case rel=>exact⟨rfl,(congrArg Value.bool (by first | exact(decide_eq_true (by omega)).symm | exact(decide_eq_false (by omega)).symm | exact decide_eq_decide.mpr (by omega)))⟩
            ·go_wp2
             go_meet
             case rel=>exact⟨rfl,(congrArg Value.bool (by first | exact(decide_eq_true (by omega)).symm | exact(decide_eq_false (by omega)).symm | exact decide_eq_decide.mpr (by omega)))⟩
           ·go_wp2
            go_meet
            case rel=>exact⟨rfl,(congrArg Value.bool (by first | exact(decide_eq_true (by omega)).symm | exact(decide_eq_false (by omega)).symm | exact decide_eq_decide.mpr (by omega)))⟩
          case rest =>
           obtain⟨rfl,rfl⟩:=hcut
           have PA1:=PA.out.1
           have HX:=Box.mk (fun dC h1 h2=>Bj1 (lt:=lt) (mid:=(a+b) / 2) (dC:=dC) (by omega) (by omega) hbn PA1 HP.out.2.2.2.2 PB.out.1 PB.out.2 h1 h2)
           clear PA1
           by_cases h12:(a+b) / 2 <(a+b) / 2+m-i∧(a+b) / 2+m-i < b
           ·have hc:=IH.out wc dB (by rw[SB.out];exact HL.out.on hb1 FB.out SB.out) (by rw[SB.out];exact HS.out) (FB.out.holds hb1 HH.out SB.out) (by have:=FB.out.size;omega) ((a+b) / 2) ((a+b) / 2+m-i) b h12.1 h12.2 (by rw[SB.out];omega) (by rw[SB.out];exact hsz) (by omega) (B7m PB.out.1 HR.out.2) (Y6 PB.out.1 (Nat.le_refl _) HP.out.2.2.1) (Y6 PB.out.1 (by omega) HP.out.2.2.2.1)
            rw[HE.out,show((((a+b) / 2:Nat)):Int)=((a:Int)+b) / 2 by omega]at hc
            have HQ:=Box.mk hc
            have c:=G9 hb g lb sf sb FB.out
            have c0:=c.1
            have c1:=c.2
            clear c
            have h12b:decide ((a+b) / 2 <(a+b) / 2+m-i∧(a+b) / 2+m-i < b)=true:=decide_eq_true h12
            clear hc
            go_wp2_with (go_at_call 214;refine HQ.out.mono ?_;rintro e w1 ⟨rfl,dC,f1,f2,f3,f4⟩;have FC:=Box.mk (FB.out.trans hb1 f1 f2);have SC:=Box.mk (f2.trans SB.out);have PC:=Box.mk f3;have RC:=Box.mk f4;clear f1 f2 f3 f4)
            go_end0
            exact⟨rfl,dC,HF.out.trans hb FC.out SC.out,SC.out,HX.out dC PC.out RC.out⟩
           ·have h12b:decide ((a+b) / 2 <(a+b) / 2+m-i∧(a+b) / 2+m-i < b)=false:=decide_eq_false h12
            go_wp2_with fail
            go_end0
            refine⟨rfl,dB,HF.out.trans hb FB.out SB.out,SB.out,HX.out dB (permIn_refl dB _ _) ?_⟩
            have q1:=HC.out.hi
            have q2:=HC.out.lo2
            have q6:=HC.out.hi2
            rcases Nat.lt_or_ge ((a+b) / 2) ((a+b) / 2+m-i)with q3 | q3
            ·have q4:(a+b) / 2+m-i=b:=by omega
             have q5:=Y6 PB.out.1 (Nat.le_refl _) HP.out.2.2.1
             rw[q4]at q5
             exact q5
            ·have q4:(a+b) / 2+m-i=(a+b) / 2:=by omega
             have q5:=Y6 PB.out.1 (by omega) HP.out.2.2.2.1
             rw[q4]at q5
             exact q5
end
end Go.Proofs.YtokhjapfekbobaaGreat
namespace Go.Proofs.YtokhjapfekbobaaGreat
open Go.E
set_option maxRecDepth 100000
set_option maxHeartbeats 4000000
open Go Go.Sort Go.RowKit Go.Lib Go.Shelf Go.Proofs
section
variable {α : Type} [Inhabited α] {enc : α → List Value} {k blk off : Nat}
section
variable {lt0 lt : α → α → Bool} {d d' dk : Array α} {a b c n B : Nat}
def OB(lt0 lt:α→α→Bool)(n c:Nat)(d:Array α):Prop:=∀ p q,p < c→c≤q→q < n→lt0 d[q]! d[p]! = lt d[q]! d[p]!
theorem OB.keep(h:PermIn a b d d')(hb:b≤d.size)(hc:c≤a∨b≤c)(ho:OB lt0 lt n c d)(hbn:b≤n):OB lt0 lt n c d':=by
 intro p q h1 h2 h3
 rcases hc with hc | hc
 ·rw[h.2.1 p (by omega)]
  by_cases hq:a≤q∧q < b
  ·exact permIn_all d d' a b (fun x=>lt0 x d[p]! = lt x d[p]!) hb h (fun i hi him=>ho p i h1 (by omega) (by omega)) q hq.1 hq.2
  ·rw[h.2.1 q (by omega)];exact ho p q h1 h2 h3
 ·rw[h.2.1 q (by omega)]
  by_cases hp:a≤p∧p < b
  ·exact permIn_all d d' a b (fun x=>lt0 d[q]! x=lt d[q]! x) hb h (fun i hi him=>ho i q (by omega) h2 h3) p hp.1 hp.2
  ·rw[h.2.1 p (by omega)];exact ho p q h1 h2 h3
theorem Y9(h1:B ∣ c)(h2:B ∣ a)(h:c < a):c+B≤a:=by
 obtain⟨x,rfl⟩:=h1
 obtain⟨y,rfl⟩:=h2
 have hxy:x < y:=by
  rcases Nat.lt_or_ge x y with h' | h'
  ·exact h'
  ·exact absurd h (Nat.not_lt.mpr (Nat.mul_le_mul_left B h'))
 calc B*x+B=B*(x+1):=by rw[Nat.mul_add,Nat.mul_one]
  _≤B*y:=Nat.mul_le_mul_left B hxy
theorem Am2(h:2*B ∣ c):B ∣ c:=Nat.dvd_trans ⟨2,Nat.mul_comm 2 B⟩ h
structure Blocks (lt0 lt:α→α→Bool) (B n:Nat) (d:Array α):Prop where
 hi:∀ c,B ∣ c→SortedIn lt c (min (c+B) n) d
 o:∀ c,B ∣ c→OB lt0 lt n c d
structure Pass (lt0 lt:α→α→Bool) (B n a:Nat) (d:Array α):Prop where
 al:2*B ∣ a
 lo:∀ c,2*B ∣ c→c < a→SortedIn lt c (c+2*B) d
 hi:∀ c,B ∣ c→a≤c→SortedIn lt c (min (c+B) n) d
 o1:∀ c,2*B ∣ c→OB lt0 lt n c d
 o2:∀ c,B ∣ c→a≤c→OB lt0 lt n c d
theorem Blocks.start(h:Blocks lt0 lt B n d):Pass lt0 lt B n 0 d:=⟨Nat.dvd_zero _,fun c _ h1=>absurd h1 (Nat.not_lt_zero c),fun c h1 _=>h.hi c h1,fun c h1=>h.o c (Am2 h1),fun c h1 _=>h.o c h1⟩
theorem Pass.args(h:Pass lt0 lt B n a d)(hb:b≤n)(h1:a+B < b)(h2:b=a+2*B∨(b=n∧b≤a+2*B)) :
  (∀ p q,a≤p→p < a+B→a+B≤q→q < b→lt0 d[q]! d[p]! = lt d[q]! d[p]!)∧SortedIn lt a (a+B) d∧SortedIn lt (a+B) b d:=by
 have hB:B ∣ a:=Am2 h.al
 have hB2:B ∣ a+B:=Nat.dvd_add hB (Nat.dvd_refl B)
 refine⟨fun p q _ k2 k3 k4=>h.o2 (a+B) hB2 (by omega) p q k2 k3 (by omega),?_,?_⟩
 ·have:=h.hi a hB (Nat.le_refl _);rw[show min (a+B) n=a+B by omega]at this;exact this
 ·have:=h.hi (a+B) hB2 (by omega);rw[show min (a+B+B) n=b by omega]at this;exact this
theorem Pass.step(h:Pass lt0 lt B n a d)(hB:0 < B)(hn:n=d.size)(hb:a+2*B≤n)(hp:PermIn a (a+2*B) d d')(hs:SortedIn lt a (a+2*B) d'):Pass lt0 lt B n (a+2*B) d':=by
 refine⟨Nat.dvd_add h.al (Nat.dvd_refl _),fun c h1 h2=>?_,fun c h1 h2=>?_,fun c h1=>?_,fun c h1 h2=>?_⟩
 ·rcases Nat.lt_or_ge c a with h3 | h3
  ·have:=Y9 h1 h.al h3
   exact K7 (h.lo c h1 h3) fun i k1 k2=>hp.2.1 i (by omega)
  ·have h4:c=a:=by
    rcases Nat.lt_or_ge a c with h5 | h5
    ·have:=Y9 h.al h1 h5;omega
    ·omega
   rw[h4];exact hs
 ·exact K7 (h.hi c h1 (by omega)) fun i k1 k2=>hp.2.1 i (by omega)
 ·refine OB.keep hp (by omega) ?_ (h.o1 c h1) hb
  rcases Nat.lt_or_ge a c with h5 | h5
  ·exact Or.inr (Y9 h.al h1 h5)
  ·exact Or.inl h5
 ·exact OB.keep hp (by omega) (Or.inr h2) (h.o2 c h1 (by omega)) hb
theorem Pass.last(h:Pass lt0 lt B n a d)(hB:0 < B)(hn:n=d.size)(ha:a≤n)(hb:n < a+2*B)(hp:PermIn a n d d')(hs:SortedIn lt a n d'):Blocks lt0 lt (2*B) n d':=by
 refine⟨fun c h1=>?_,fun c h1=>?_⟩
 ·rcases Nat.lt_or_ge c a with h3 | h3
  ·have:=Y9 h1 h.al h3
   rw[show min (c+2*B) n=c+2*B by omega]
   exact K7 (h.lo c h1 h3) fun i k1 k2=>hp.2.1 i (by omega)
  ·rcases Nat.lt_or_ge a c with h5 | h5
   ·have:=Y9 h.al h1 h5
    intro i j k1 k2 k3;omega
   ·have h4:c=a:=by omega
    rw[h4,show min (a+2*B) n=n by omega];exact hs
 ·rcases Nat.lt_or_ge a c with h5 | h5
  ·intro p q k1 k2 k3
   have:=Y9 h.al h1 h5
   omega
  ·exact OB.keep hp (by omega) (Or.inl h5) (h.o1 c h1) (Nat.le_refl _)
theorem Pass.skip(h:Pass lt0 lt B n a d)(hb:n≤a+B):SortedIn lt a n d:=by
 have:=h.hi a (Am2 h.al) (Nat.le_refl _);rw[show min (a+B) n=n by omega]at this;exact this
theorem Blocks.all(h:Blocks lt0 lt B n d)(hb:n≤B):SortedIn lt 0 n d:=by
 have:=h.hi 0 (Nat.dvd_zero _);rw[show min (0+B) n=n by omega]at this;exact this
theorem A2i(a i:Nat):∀(j:Nat) (d:Array α),a≤j→j≤i→i < d.size→PermIn a (i+1) d (insInner lt a j d)
 | 0,d,_,_,_=>permIn_refl d _ _
 | j+1,d,h1,h2,h3=>by
  unfold insInner
  split
  ·rename_i hc
   simp only [Bool.and_eq_true,decide_eq_true_eq]at hc
   exact permIn_trans _ _ _ a (i+1) (swp_permIn d a (i+1) (j+1) j (by omega) (by omega) (by omega) (by omega) (by omega)) (A2i a i j (swp d (j+1) j) (by omega) (by omega) (by rw[Sort.size_swp];exact h3))
  ·exact permIn_refl d _ _
theorem A14(a:Nat):∀(j:Nat) (d:Array α),j < d.size→(∀ p,a≤p→p < j→lt0 d[j]! d[p]! = lt d[j]! d[p]!)→insInner lt0 a j d=insInner lt a j d
 | 0,d,_,_=>rfl
 | j+1,d,hj,h=>by
  unfold insInner
  by_cases hc:a < j+1
  ·rw[h j (by omega) (by omega)]
   split
   ·refine A14 a j (swp d (j+1) j) (by rw[Sort.size_swp];omega) fun p h1 h2=>?_
    rw[swp_get d (by omega) (by omega),swp_get d (by omega) (by omega)]
    rw[if_pos rfl,if_neg (by omega),if_neg (by omega)]
    exact h p h1 (by omega)
   ·rfl
  ·rw[if_neg (by simp;omega),if_neg (by simp;omega)]
theorem A15(a b:Nat):∀(m i:Nat) (d:Array α),b-i=m→a < i→b≤d.size→(∀ p q,a≤p→p < q→i≤q→q < b→lt0 d[q]! d[p]! = lt d[q]! d[p]!)→insOuter lt0 a b i d=insOuter lt a b i d
 | 0,i,d,hm,_,_,_=>by rw[insOuter_stop lt0 a b i d (by omega),insOuter_stop lt a b i d (by omega)]
 | m+1,i,d,hm,hai,hb,h=>by
  rw[insOuter_go lt0 a b i d (by omega),insOuter_go lt a b i d (by omega),A14 a i d (by omega) (fun p h1 h2=>h p i h1 h2 (Nat.le_refl _) (by omega))]
  have hp:PermIn a (i+1) d (insInner lt a i d):=A2i a i i d (by omega) (Nat.le_refl _) (by omega)
  refine A15 a b m (i+1) _ (by omega) (by omega) (by rw[hp.1];exact hb) fun p q h1 h2 h3 h4=>?_
  rw[hp.2.1 q (by omega)]
  by_cases hpi:p < i+1
  ·exact permIn_all d _ a (i+1) (fun x=>lt0 d[q]! x=lt d[q]! x) (by omega) hp (fun r k1 k2=>h r q k1 (by omega) (by omega) h4) p h1 hpi
  ·rw[hp.2.1 p (by omega)];exact h p q h1 h2 (by omega) h4
theorem A5i(hb:b≤d.size)(h:∀ p q,a≤p→p < q→q < b→lt0 d[q]! d[p]! = lt d[q]! d[p]!):Sort.insertionSort lt0 d a b=Sort.insertionSort lt d a b :=
 A15 a b _ (a+1) d rfl (by omega) hb fun p q h1 h2 _ h4=>h p q h1 h2 h4
structure First (lt0 lt:α→α→Bool) (B a:Nat) (d dk:Array α):Prop where
 sz:dk.size=d.size
 p:PermIn 0 d.size d dk
 al:B ∣ a
 lo:∀ c,B ∣ c→c < a→SortedIn lt c (c+B) dk
 o:∀ c,B ∣ c→OB lt0 lt d.size c dk
 same:∀ q,a≤q→dk[q]! = d[q]!
theorem First.start(hord:∀ p q,p < q→q < d.size→lt0 d[q]! d[p]! = lt d[q]! d[p]!):First lt0 lt B 0 d d :=
 ⟨rfl,permIn_refl d _ _,Nat.dvd_zero _,fun c _ h=>absurd h (Nat.not_lt_zero c),fun c _ p q h1 h2 h3=>hord p q (by omega) h3,fun _ _=>rfl⟩
theorem First.agree(h:First lt0 lt B a d dk)(hord:∀ p q,p < q→q < d.size→lt0 d[q]! d[p]! = lt d[q]! d[p]!)(hb:b≤d.size):Sort.insertionSort lt0 dk a b=Sort.insertionSort lt dk a b :=
 A5i (by rw[h.sz];exact hb) fun p q h1 h2 h3=>by rw[h.same p h1,h.same q (by omega)];exact hord p q h2 (by omega)
theorem First.step(h:First lt0 lt B a d dk)(hO:SWO lt)(hB:0 < B)(hb:a+B≤d.size):First lt0 lt B (a+B) d (Sort.insertionSort lt dk a (a+B)):=by
 obtain⟨hp,hs⟩:=insertionSort_holds hO dk a (a+B) (by omega) (by rw[h.sz];exact hb)
 refine⟨hp.1.trans h.sz,permIn_trans _ _ _ _ _ h.p (J4 (Nat.zero_le _) hb (by rw[h.sz];exact Nat.le_refl _) hp),Nat.dvd_add h.al (Nat.dvd_refl _),fun c h1 h2=>?_,fun c h1=>?_,fun q hq=>?_⟩
 ·rcases Nat.lt_or_ge c a with h3 | h3
  ·have:=Y9 h1 h.al h3
   exact K7 (h.lo c h1 h3) fun i k1 k2=>hp.2.1 i (by omega)
  ·have h4:c=a:=by
    rcases Nat.lt_or_ge a c with h5 | h5
    ·have:=Y9 h.al h1 h5;omega
    ·omega
   rw[h4];exact hs
 ·refine OB.keep hp (by rw[h.sz];exact hb) ?_ (h.o c h1) hb
  rcases Nat.lt_or_ge a c with h5 | h5
  ·exact Or.inr (Y9 h.al h1 h5)
  ·exact Or.inl h5
 ·rw[hp.2.1 q (by omega)];exact h.same q (by omega)
theorem First.last(h:First lt0 lt B a d dk)(hO:SWO lt)(hB:0 < B)(ha:a≤d.size)(hb:d.size < a+B):Blocks lt0 lt B d.size (Sort.insertionSort lt dk a d.size)∧PermIn 0 d.size d (Sort.insertionSort lt dk a d.size):=by
 obtain⟨hp,hs⟩:=insertionSort_holds hO dk a d.size ha (by rw[h.sz];exact Nat.le_refl _)
 refine⟨⟨fun c h1=>?_,fun c h1=>?_⟩,permIn_trans _ _ _ _ _ h.p (J4 (Nat.zero_le _) (Nat.le_refl _) (by rw[h.sz];exact Nat.le_refl _) hp)⟩
 ·rcases Nat.lt_or_ge c a with h3 | h3
  ·have:=Y9 h1 h.al h3
   rw[show min (c+B) d.size=c+B by omega]
   exact K7 (h.lo c h1 h3) fun i k1 k2=>hp.2.1 i (by omega)
  ·rcases Nat.lt_or_ge a c with h5 | h5
   ·have:=Y9 h.al h1 h5
    intro i j k1 k2 k3;omega
   ·have h4:c=a:=by omega
    rw[h4,show min (a+B) d.size=d.size by omega];exact hs
 ·rcases Nat.lt_or_ge a c with h5 | h5
  ·intro p q k1 k2 k3
   have:=Y9 h.al h1 h5
   omega
  ·exact OB.keep hp (by rw[h.sz];exact Nat.le_refl _) (Or.inl h5) (h.o c h1) (Nat.le_refl _)
end
set_option maxHeartbeats 8000000 in
theorem Am3 (hk:∀ x,(enc x).length=k) (lt0 lt:α→α→Bool) (hO:SWO lt) (g:Nat) (lb:Array Value) (sf:Nat) (sb:Array Value) (hg:D5 Tryz.prog g) (w0:World) (d:Array α) (hless:A2g g lb enc k lt0 blk off d.size w0) (hswap:A2e sf sb enc k blk off d.size) (hH:HoldsK enc k w0 blk off d) (hb:blk < w0.heap.size)
  (hsz:d.size < 1152921504606846976) (hord:∀ p q,p < q→q < d.size→lt0 d[q]! d[p]! = lt d[q]! d[p]!) :
  Calls Tryz.prog 194 #[.agg #[.func (.func g) #[] lb,.func (.func sf) #[] sb],.int .i64 d.size] w0 fun e w' =>
   e=.returned (.tuple #[])∧∃ d',Fam enc k blk off w0 d' w'∧d'.size=d.size∧PermIn 0 d.size d d'∧SortedIn lt 0 d.size d':=by
 have HF:=Box.mk (A2f hH g lb sf sb)
 have hb1:blk <(A1j w0 g lb sf sb).heap.size:=by rw[S4];omega
 have HH:=Box.mk (HF.out.holds hb hH rfl)
 have HS:=Box.mk hswap
 have HL:=Box.mk (hless.on hb HF.out rfl)
 have HO:=Box.mk hord
 clear hswap hless hord
 generalize hn:d.size=n at hsz
 have HN:=Box.mk hn
 clear hn
 go_enter Tryz.func194,Tryz.ntmps194
 go_wp2
 go_loopw [5,6] (fun v5 v6 wr=>∃(a:Nat) (dk:Array α),v5=.int .i64 a∧v6=.int .i64 ((a:Int)+20)∧a≤n∧Box (Fam enc k blk off (A1j w0 g lb sf sb) dk wr)∧Box (First lt0 lt 20 a d dk)) (fun v5 _ _=>n-(intOf v5).toNat)
 case atStart=>exact⟨0,d,rfl,rfl,by omega,⟨Fam.start HH.out⟩,⟨First.start HO.out⟩⟩
 case round =>
  obtain⟨a,dk,rfl,rfl,han,HW,HI⟩:=hrel
  have c:=G9 hb g lb sf sb HW.out
  have c0:=c.1
  have c1:=c.2
  clear c
  by_cases hfit:a+20≤n
  ·have hc:=A13 hk lt0 g lb sf sb wr dk hg (by rw[HI.out.sz];exact HL.out.on hb1 HW.out HI.out.sz) (by rw[HI.out.sz];exact HS.out) (HW.out.holds hb1 HH.out HI.out.sz) (by have:=HW.out.size;omega) a (a+20) (by omega) (by rw[HI.out.sz,HN.out];exact hfit) (by rw[HI.out.sz,HN.out];omega)
   rw[show((a+20:Nat):Int)=(a:Int)+20 by omega,HI.out.agree HO.out (by rw[HN.out];exact hfit)]at hc
   have HQ:=Box.mk hc
   have HI2:=Box.mk (HI.out.step hO (by omega) (by rw[HN.out];exact hfit))
   clear hc
   go_wp2_with (go_at_call 168;refine HQ.out.mono ?_;rintro e w1 ⟨rfl,f1⟩;have FA:=Box.mk (HW.out.trans hb1 f1 (HI2.out.sz.trans HI.out.sz.symm));clear f1)
   go_roundw
   case rel=>exact⟨a+20,_,by go_num,by go_num,hfit,FA,HI2⟩
   case measure=>simp [intOf];omega
  ·have hc:=A13 hk lt0 g lb sf sb wr dk hg (by rw[HI.out.sz];exact HL.out.on hb1 HW.out HI.out.sz) (by rw[HI.out.sz];exact HS.out) (HW.out.holds hb1 HH.out HI.out.sz) (by have:=HW.out.size;omega) a n han (by rw[HI.out.sz,HN.out];exact Nat.le_refl _) (by rw[HI.out.sz,HN.out];omega)
   rw[HI.out.agree HO.out (by rw[HN.out];exact Nat.le_refl _)]at hc
   have HQ:=Box.mk hc
   have HI2:=HI.out.last hO (by omega) (by rw[HN.out];exact han) (by rw[HN.out];omega)
   rw[HN.out]at HI2
   have HI3:=Box.mk HI2
   clear hc HI2
   go_wp2_with (go_at_call 168;refine HQ.out.mono ?_;rintro e w1 ⟨rfl,f1⟩;have FA:=Box.mk (HW.out.trans hb1 f1 (by rw[HI3.out.2.1,HI.out.sz]));clear f1)
   go_loopw [4] (fun v4 wr=>∃(B:Nat) (dj:Array α),v4=.int .i64 B∧0 < B∧(B≤20∨B < 2*n)∧Box (Fam enc k blk off (A1j w0 g lb sf sb) dj wr)∧Box (dj.size=d.size)∧Box (Blocks lt0 lt B n dj∧PermIn 0 n d dj)) (fun v4 _=>n-(intOf v4).toNat)
   case atStart=>exact⟨20,_,rfl,by omega,by omega,FA,⟨HI3.out.2.1⟩,HI3⟩
   case round =>
    obtain⟨B,dj,rfl,hB0,hBn,FJ,SJ,HJ⟩:=hrel
    clear c0 c1
    by_cases hbn:B < n
    ·go_wp2
     go_loopw [5,6] (fun v5 v6 wr=>∃(a:Nat) (dl:Array α),v5=.int .i64 a∧v6=.int .i64 ((a:Int)+2*B)∧a≤n∧Box (Fam enc k blk off (A1j w0 g lb sf sb) dl wr)∧Box (dl.size=d.size)∧Box (Pass lt0 lt B n a dl∧PermIn 0 n d dl)) (fun v5 _ _=>n-(intOf v5).toNat)
     case atStart=>exact⟨0,dj,rfl,by go_num,by omega,FJ,SJ,⟨HJ.out.1.start,HJ.out.2⟩⟩
     case round =>
      obtain⟨a,dl,rfl,rfl,han,FL,SL,HP⟩:=hrel
      have c:=G9 hb g lb sf sb FL.out
      have c0:=c.1
      have c1:=c.2
      clear c
      by_cases hfit:a+2*B≤n
      ·have PG:=HP.out.1.args (b:=a+2*B) hfit (by omega) (Or.inl rfl)
       have hc:=A2h hk lt0 lt hO g lb sf sb hg (2*B) wr dl (by rw[SL.out];exact HL.out.on hb1 FL.out SL.out) (by rw[SL.out];exact HS.out) (FL.out.holds hb1 HH.out SL.out) (by have:=FL.out.size;omega) a (a+B) (a+2*B) (by omega) (by omega) (by rw[SL.out,HN.out];omega) (by rw[SL.out,HN.out];omega) (by omega) PG.1 PG.2.1 PG.2.2
       rw[show((a+B:Nat):Int)=(a:Int)+B by omega,show((a+2*B:Nat):Int)=(a:Int)+2*B by omega]at hc
       have HQ:=Box.mk hc
       clear hc PG
       go_wp2_with (go_at_call 214;refine HQ.out.mono ?_;rintro e w1 ⟨rfl,dM,f1,f2,f3,f4⟩;have FA:=Box.mk (FL.out.trans hb1 f1 f2);have SA:=Box.mk (f2.trans SL.out);have PA:=Box.mk f3;have RA:=Box.mk f4;clear f1 f2 f3 f4)
       go_roundw
       case rel =>
        exact⟨a+2*B,dM,by go_num,by go_num,hfit,FA,SA,⟨HP.out.1.step hB0 (by rw[SL.out,HN.out]) hfit PA.out RA.out,permIn_trans d dl dM _ _ HP.out.2 (J4 (by omega) hfit (by rw[SL.out,HN.out];exact Nat.le_refl _) PA.out)⟩⟩
       case measure=>simp [intOf];omega
      ·by_cases hmn:a+B < n
       ·have PG:=HP.out.1.args (b:=n) (Nat.le_refl _) hmn (Or.inr ⟨rfl,by omega⟩)
        have hc:=A2h hk lt0 lt hO g lb sf sb hg n wr dl (by rw[SL.out];exact HL.out.on hb1 FL.out SL.out) (by rw[SL.out];exact HS.out) (FL.out.holds hb1 HH.out SL.out) (by have:=FL.out.size;omega) a (a+B) n (by omega) (by omega) (by rw[SL.out,HN.out];omega) (by rw[SL.out,HN.out];omega) (by omega) PG.1 PG.2.1 PG.2.2
        rw[show((a+B:Nat):Int)=(a:Int)+B by omega]at hc
        have HQ:=Box.mk hc
        clear hc PG
        go_wp2_with (go_at_call 214;refine HQ.out.mono ?_;rintro e w1 ⟨rfl,dM,f1,f2,f3,f4⟩;have FA:=Box.mk (FL.out.trans hb1 f1 f2);have SA:=Box.mk (f2.trans SL.out);have PA:=Box.mk f3;have RA:=Box.mk f4;clear f1 f2 f3 f4)
        go_roundw
        case rel =>
         exact⟨2*B,dM,by go_num,by omega,by omega,FA,SA,⟨HP.out.1.last hB0 (by rw[SL.out,HN.out]) han (by omega) PA.out RA.out,permIn_trans d dl dM _ _ HP.out.2 (J4 (by omega) (Nat.le_refl _) (by rw[SL.out,HN.out];exact Nat.le_refl _) PA.out)⟩⟩
        case measure=>simp [intOf];omega
       ·go_wp2
        go_roundw
        case rel =>
         exact⟨2*B,dl,by go_num,by omega,by omega,FL,SL,⟨HP.out.1.last hB0 (by rw[SL.out,HN.out]) han (by omega) (permIn_refl dl _ _) (HP.out.1.skip (by omega)),HP.out.2⟩⟩
        case measure=>simp [intOf];omega
    ·go_wp2
     go_end0
     exact⟨rfl,dj,HF.out.trans hb FJ.out SJ.out,SJ.out.trans HN.out,HJ.out.2,HJ.out.1.all (by omega)⟩
end
end Go.Proofs.YtokhjapfekbobaaGreat
namespace Go.Proofs.YtokhjapfekbobaaGreat
open Go.E
set_option maxRecDepth 100000
set_option maxHeartbeats 4000000
open Go Go.Sort Go.RowKit Go.Lib Go.Shelf Go.Proofs
section
variable {α : Type} [Inhabited α] {enc : α → List Value} {k blk off : Nat}
def stS(lt:α→α→Bool)(d:Array α):Array α:=(d.toList.mergeSort (fun x y=>!lt y x)).toArray
theorem Av1(lt:α→α→Bool)(d:Array α):(stS lt d).size=d.size:=by simp [stS]
def ltT(lt:α→α→Bool)(x y:α×Nat):Bool:=lt x.1 y.1 || (!lt y.1 x.1 && decide (x.2 < y.2))
theorem B7n{lt:α→α→Bool}{x y:α×Nat}:ltT lt x y=true↔lt x.1 y.1=true∨(lt y.1 x.1=false∧x.2 < y.2):=by simp [ltT]
theorem A5j{lt:α→α→Bool}{x y:α×Nat}:ltT lt x y=false↔lt x.1 y.1=false∧(lt y.1 x.1=true∨y.2≤x.2):=by
 simp only [ltT,Bool.or_eq_false_iff,Bool.and_eq_false_iff,Bool.not_eq_false',decide_eq_false_iff_not,Nat.not_lt]
theorem Av2{lt:α→α→Bool}(hO:SWO lt){x y z:α}(h1:lt x y=true)(h2:lt z y=false):lt x z=true:=by
 cases h:lt x z with
 | true=>rfl
 | false=>rw[hO.ntrans _ _ _ h h2]at h1;cases h1
theorem Af9{lt:α→α→Bool}(hO:SWO lt){x y z:α}(h1:lt y x=false)(h2:lt y z=true):lt x z=true:=by
 cases h:lt x z with
 | true=>rfl
 | false=>rw[hO.ntrans _ _ _ h1 h]at h2;cases h2
theorem B3r{lt:α→α→Bool}(hO:SWO lt):SWO (ltT lt):=by
 refine⟨fun x=>A5j.2 ⟨hO.irrefl _,Or.inr (Nat.le_refl _)⟩,fun x y z h1 h2=>?_,fun x y z h1 h2=>?_⟩
 ·rw[B7n]at h1 h2 ⊢
  rcases h1 with h1 | ⟨h1,t1⟩ <;> rcases h2 with h2 | ⟨h2,t2⟩
  ·exact Or.inl (hO.trans _ _ _ h1 h2)
  ·exact Or.inl (Av2 hO h1 h2)
  ·exact Or.inl (Af9 hO h1 h2)
  ·exact Or.inr ⟨hO.ntrans _ _ _ h2 h1,by omega⟩
 ·rw[A5j]at h1 h2 ⊢
  obtain⟨h1,g1⟩:=h1
  obtain⟨h2,g2⟩:=h2
  refine⟨hO.ntrans _ _ _ h1 h2,?_⟩
  rcases g1 with g1 | g1
  ·exact Or.inl (Af9 hO h2 g1)
  ·rcases g2 with g2 | g2
   ·exact Or.inl (Av2 hO g2 h1)
   ·exact Or.inr (by omega)
theorem ltT_le{lt:α→α→Bool}(hO:SWO lt):(fun x y=>!ltT lt y x)=List.zipIdxLE (fun x y=>!lt y x):=by
 funext x y
 simp only [List.zipIdxLE,ltT]
 by_cases h1:lt y.1 x.1=true <;> by_cases h2:lt x.1 y.1=true <;> simp [h1,h2]
 rw[Bool.eq_iff_iff];simp
def L4(d:Array α):Array (α×Nat):=d.toList.zipIdx.toArray
theorem I9(d:Array α):(L4 d).size=d.size:=by simp [L4]
theorem A7a(d:Array α){i:Nat}(h:i < d.size):(L4 d)[i]! =(d[i]!,i):=by
 rw[getElem!_pos (L4 d) i (by rw[I9];exact h),getElem!_pos d i h]
 simp [L4]
theorem Ag0(lt:α→α→Bool)(d:Array α):∀ p q,p < q→q <(L4 d).size→(fun x y:α×Nat=>lt x.1 y.1) (L4 d)[q]! (L4 d)[p]! = ltT lt (L4 d)[q]! (L4 d)[p]!:=by
 intro p q h1 h2
 rw[I9]at h2
 rw[A7a d h2,A7a d (show p < d.size by omega)]
 simp only [ltT]
 rw[decide_eq_false (by omega)];simp
theorem A2j(d:Array (α×Nat))(i:Nat):(d.map (·.1))[i]! = d[i]!.1:=by
 by_cases h:i < d.size
 ·rw[getElem!_pos (d.map (·.1)) i (by simpa using h),getElem!_pos d i h];simp
 ·rw[getElem!_neg (d.map (·.1)) i (by simpa using h),getElem!_neg d i h];rfl
theorem Am4(d:Array α):(L4 d).map (·.1)=d:=by
 simp [L4]
theorem A5k(d:Array (α×Nat)):flatK (fun x=>enc x.1) k d=flatK enc k (d.map (·.1)):=by
 unfold flatK
 rw[Array.size_map]
 congr 1
 funext t
 rw[A2j]
theorem Am5(lt:α→α→Bool)(hO:SWO lt)(d:Array α)(d':Array (α×Nat))(hp:PermIn 0 (L4 d).size (L4 d) d')(hs:SortedIn (ltT lt) 0 (L4 d).size d'):d'.map (·.1)=stS lt d:=by
 have hperm:d'.toList.Perm (L4 d).toList:=by
  obtain⟨hsz,_,hperm⟩:=hp
  have e1:d'.extract 0 (L4 d).size=d':=by rw[← hsz];exact Array.extract_size
  rw[e1,Array.extract_size]at hperm
  exact hperm
 have hT:=B3r hO
 have e:d'.toList=(d.toList.zipIdx).mergeSort (List.zipIdxLE (fun x y=>!lt y x)):=by
  rw[← ltT_le hO]
  refine List.Perm.eq_of_pairwise (le:=fun x y=>(!ltT lt y x)=true) ?_ ?_ ?_ (hperm.trans (by simpa [L4]using(List.mergeSort_perm d.toList.zipIdx _).symm))
  ·rintro⟨a,i⟩ ⟨b,j⟩ ha hb h1 h2
   have ha':(a,i)∈d.toList.zipIdx:=by have:=hperm.subset ha;simpa [L4]using this
   have hb':(b,j)∈d.toList.zipIdx:=List.mem_mergeSort.1 hb
   simp only [Bool.not_eq_true']at h1 h2
   rw[A5j]at h1 h2
   simp only at h1 h2
   have hij:i=j:=by
    obtain⟨k1,k2⟩:=h1
    obtain⟨k3,k4⟩:=h2
    rw[k3]at k2
    rw[k1]at k4
    simp at k2 k4
    omega
   subst hij
   have m1:=List.mem_zipIdx ha'
   have m2:=List.mem_zipIdx hb'
   simp_all
  ·rw[List.pairwise_iff_getElem]
   intro i j hi hj hij
   have hi':i < d'.size:=by simpa using hi
   have hj':j < d'.size:=by simpa using hj
   have:=hs i j (Nat.zero_le _) hij (by rw[← hp.1];exact hj')
   rw[getElem!_pos d' j hj',getElem!_pos d' i hi']at this
   simpa using this
  ·refine List.pairwise_mergeSort ?_ ?_ _
   ·intro a b c h1 h2
    simp only [Bool.not_eq_true']at h1 h2 ⊢
    exact hT.ntrans _ _ _ h2 h1
   ·intro a b
    cases h:ltT lt b a with
    | false=>rfl
    | true=>simp [hT.asymmA h]
 unfold stS
 rw[← List.mergeSort_zipIdx,← e]
 exact(Array.toList_inj).1 (by simp)
theorem A5l(hk:∀ x,(enc x).length=k)(lt:α→α→Bool)(hO:SWO lt)(g:Nat)(lb:Array Value)(sf:Nat)(sb:Array Value)(hg:D5 Tryz.prog g)(w0:World)(d:Array α)(hless:A2g g lb enc k lt blk off d.size w0)(hswap:A2e sf sb enc k blk off d.size)(hH:HoldsK enc k w0 blk off d)(hb:blk < w0.heap.size)
  (hsz:d.size < 1152921504606846976) :
  Calls Tryz.prog 194 #[.agg #[.func (.func g) #[] lb,.func (.func sf) #[] sb],.int .i64 d.size] w0 fun e w' =>
   e=.returned (.tuple #[])∧Fam enc k blk off w0 (stS lt d) w':=by
 have fam:∀ dk W,Fam (fun x:α×Nat=>enc x.1) k blk off w0 dk W→Fam enc k blk off w0 (dk.map (·.1)) W:=by
  rintro dk W ⟨q,os,rfl⟩
  exact⟨q,os,by unfold putRowK;rw[A5k]⟩
 have hold:∀ dk W,HoldsK (fun x:α×Nat=>enc x.1) k W blk off dk→HoldsK enc k W blk off (dk.map (·.1)):=by
  intro dk W h
  unfold HoldsK at h ⊢
  rw[← A5k];exact h
 have h:=Am3 (enc:=fun x:α×Nat=>enc x.1) (fun x=>hk x.1) (fun x y=>lt x.1 y.1) (ltT lt) (B3r hO) g lb sf sb hg w0 (L4 d) (blk:=blk) (off:=off)
  (fun W dk hF hs i j hi hj=>by
   rw[I9]at hs hi hj
   have:=hless W _ (fam dk W hF) (by simpa using hs) i j hi hj
   rw[A2j,A2j]at this
   exact this)
  (fun W dk hF hs i j hi hj hij=>by
   rw[I9]at hs hi hj
   have:=hswap W _ (hold dk W hF) (by simpa using hs) i j hi hj hij
   rw[A2j,A2j]at this
   exact this)
  (by unfold HoldsK at hH ⊢;rw[A5k,Am4];exact hH) hb (by rw[I9];exact hsz) (Ag0 lt d)
 rw[I9]at h
 refine h.mono ?_
 rintro e w' ⟨rfl,d',f1,f2,f3,f4⟩
 refine⟨rfl,?_⟩
 rw[← Am5 lt hO d d' (by rw[I9];exact f3) (by rw[I9];exact f4)]
 exact fam d' w' f1
end
end Go.Proofs.YtokhjapfekbobaaGreat
namespace Go.Proofs.YtokhjapfekbobaaGreat
open Go.E
set_option maxRecDepth 100000
set_option maxHeartbeats 4000000
open Go Go.Sort Go.RowKit Go.Lib Go.Shelf Go.Proofs
section
variable {α : Type} [Inhabited α] {enc : α → List Value} {k blk off : Nat}
noncomputable def B3s(e:TypeId)(ie:TypeInfo)(ke:Nat)(p:Option Addr)(n c:Nat):Array Value :=
 if swapperK n ie ke≤2 then #[]else #[.slice p n c,typeHandle Tryz.prog e]
noncomputable def A2k(t:TypeId)(p:Option Addr)(n c:Nat)(w:World):World :=
 (w.alloc (.cells #[.slice p n c] t)).alloc (.cells #[.pointer (some ⟨Tryz.prog.globals.size,t,none⟩),.pointer (some ⟨w.heap.size,0,none⟩),.int .u64 151] 160)
set_option maxHeartbeats 4000000 in
theorem A16 (t e:TypeId) (i ie:TypeInfo) (hi:Tryz.prog.info? t=some i) (hd:i.desc=.slice e) (hpk:Tryz.prog.packed t=false) (hie:Tryz.prog.info? e=some ie) (ke:Nat) (hke:∀ w,(Extern.Rtype.kind e).run Tryz.prog w=.ok ke w)
  (p:Option Addr) (n c:Nat) (hn:n < 1152921504606846976) (f:Nat) (hf:Tryz.prog.funcs.findIdx? (·.name == "internal/reflectlite"++".Swapper$"++toString (swapperK n ie ke))=some f) (lf:Fn) (la lb:Array Value) (w:World) (R:World→Prop)
  (hp:Calls Tryz.prog 194 #[.agg #[.func lf la lb,.func (.func f) #[] (B3s e ie ke p n c)],.int .i64 n] (A2k t p n c w) fun e w'=>e=.returned (.tuple #[])∧R w') :
  Calls Tryz.prog 150 #[.iface t (.slice p n c),.func lf la lb] w fun e w'=>e=.returned (.tuple #[])∧R w':=by
 have hv:=run_valueOf_slice (P:=Tryz.prog) t e i hi hd p n c w
 have hs:=fun w=>run_swapper_slice (P:=Tryz.prog) t e i ie hi hd hie ke hke p n c f hf w
 have hl:=fun a w ha=>run_valueLen_slice (P:=Tryz.prog) t e i hi hd hpk a p n c w ha
 unfold B3s A2k at hp
 generalize (if swapperK n ie ke≤2 then(#[]:Array Value)else #[.slice p n c,typeHandle Tryz.prog e])=B at hs hp
 have hz:Tryz.prog.globals.size=1:=by kernel_rfl
 simp only [typeHandle,hz]at hv hl hp
 have HP:=Box.mk hp
 have HV:=Box.mk hv
 have HS:=Box.mk hs
 have HL:=Box.mk hl
 clear hp hv hs hl
 go_enter Tryz.func150,Tryz.ntmps150
 go_wp2
 rw[run_callFunc_extern Tryz.func123 (by kernel_rfl) (by kernel_rfl) (by kernel_rfl) (e:=fun args=>Extern.ReflectliteValue.unpack (args.getD 0 (.tuple #[]))) (by kernel_rfl),
  show Sem.run Tryz.prog ((fun args:Array Value=>Extern.ReflectliteValue.unpack (args.getD 0 (.tuple #[]))) #[.iface t (.slice p n c)]) w=_ from HV.out]
 simp only [Result.andThen]
 rw[Oper.upon_value]
 go_wp2
 rw[run_callFunc_extern Tryz.func124 (by kernel_rfl) (by kernel_rfl) (by kernel_rfl) (e:=Extern.ReflectliteSwapper.swapper "internal/reflectlite" (Extern.ReflectliteValue.valueError "Swapper")) (by kernel_rfl),HS.out]
 simp only [Result.andThen]
 rw[Oper.upon_value]
 go_wp2
 rw[run_callFunc_extern Tryz.func125 (by kernel_rfl) (by kernel_rfl) (by kernel_rfl) (e:=Extern.ReflectliteValue.method (Extern.ReflectliteValue.valueError "reflectlite.Value.Len" 0) Extern.ReflectliteValue.len) (by kernel_rfl),
  HL.out _ _ (by simp)]
 simp only [Result.andThen]
 rw[Oper.upon_value]
 go_wp2_with (go_at_call 194;refine HP.out.mono ?_;rintro e w' ⟨rfl,hR⟩;have HR:=Box.mk hR;clear hR)
 go_end0
 exact⟨rfl,HR.out⟩
theorem A6g(gS:Bool)(sf:Nat)(hx:∀ args W,(callFunc sf args).run Tryz.prog W=((Extern.ReflectliteSwapper.swap gS args).run Tryz.prog W).andThen fun v w'=>.ok (.value v) w')
  (e:TypeId) (ie:TypeInfo) (hie:Tryz.prog.info? e=some ie) (hk:∀ x,(enc x).length=k) (hs:ie.size=k) (hagg:∀ w,(isAgg e).run Tryz.prog w=.ok true w) (h1:∀ x,∀ v∈enc x,v.oneCell'=true) (n c:Nat) :
  A2e sf #[.slice (some ⟨blk,off,none⟩) n c,typeHandle Tryz.prog e] enc k blk off n:=by
 intro W dk hH hsz i j hi hj _
 subst hs
 have cc:∀ x,x < dk.size→∀ u v,(enc dk[x]!)[u]?=some v→W.cell? ⟨blk,off+x*ie.size+u,none⟩=some v:=fun x hx u v h=>by
  have hu:u < ie.size:=by rw[← hk dk[x]!];exact(List.getElem?_eq_some_iff.mp h).1
  rw[(hH.cell hx hu).1];simp [h]
 have:=run_swap_cells (P:=Tryz.prog) gS e ie hie hagg blk off n c i j hi hj (enc dk[i]!) (enc dk[j]!) (hk _) (hk _) (h1 _) (h1 _) W (cc i (by omega)) (cc j (by omega))
  (fun u hu=>(hH.cell (by omega) hu).2) (fun u hu=>(hH.cell (by omega) hu).2)
 rw[hx,show(#[Value.int .i64 (i:Int),Value.int .i64 (j:Int)]++#[Value.slice (some ⟨blk,off,none⟩) n c,typeHandle Tryz.prog e])=#[.int .i64 i,.int .i64 j,.slice (some ⟨blk,off,none⟩) n c,typeHandle Tryz.prog e]from rfl,this]
 rfl
end
open Go Go.Sort Go.RowKit Go.Lib Go.Shelf Go.Proofs
section
variable {α : Type} [Inhabited α] {enc : α → List Value} {k blk off : Nat}
theorem swK_gt(n:Nat)(ie:TypeInfo)(ke:Nat)(h2:2≤n):¬ swapperK n ie ke≤2:=by
 have c:(n == 0)=false:=by simp;omega
 have d:(n == 1)=false:=by simp;omega
 unfold swapperK
 simp only [c,d,Bool.false_eq_true,if_false]
 repeat' split
 all_goals omega
structure SortTy (t e k:Nat) (fN:Nat→Nat):Prop where
 ex:∃ i ie ke gS,Tryz.prog.info? t=some i∧i.desc=.slice e∧Tryz.prog.packed t=false∧Tryz.prog.info? e=some ie∧(∀ w,(Extern.Rtype.kind e).run Tryz.prog w=.ok ke w) ∧
  (∀ n,Tryz.prog.funcs.findIdx? (·.name == "internal/reflectlite"++".Swapper$"++toString (swapperK n ie ke))=some (fN n))∧ie.size=k∧(∀ w,(isAgg e).run Tryz.prog w=.ok true w) ∧
  (∀ n,2≤n→∀ args W,(callFunc (fN n) args).run Tryz.prog W=((Extern.ReflectliteSwapper.swap gS args).run Tryz.prog W).andThen fun v w'=>.ok (.value v) w')
theorem A3p{t e:Nat}{fN:Nat→Nat}(hT:SortTy t e k fN)(hk:∀ x,(enc x).length=k)(h1:∀ x,∀ v∈enc x,v.oneCell'=true)(lt:α→α→Bool)(hO:SWO lt)(g:Nat)(lb:Array Value)(hg:D5 Tryz.prog g)(c:Nat)(d:Array α)
  (hsz:d.size < 1152921504606846976) (w:World) (hless:A2g g lb enc k lt blk off d.size w) (hH:HoldsK enc k w blk off d) (hb:blk < w.heap.size) :
  Calls Tryz.prog 150 #[.iface t (.slice (some ⟨blk,off,none⟩) d.size c),.func (.func g) #[] lb] w fun e w'=>e=.returned (.tuple #[])∧Fam enc k blk off w (stS lt d) w':=by
 obtain⟨i,ie,ke,gS,a1,a2,a3,a4,a5,a6,a7,a8,a9⟩:=hT.ex
 refine A16 t e i ie a1 a2 a3 a4 ke a5 _ d.size c hsz (fN d.size) (a6 _) (.func g) #[] lb w _ ?_
 have F0:Fam enc k blk off w d (A2k t (some ⟨blk,off,none⟩) d.size c w):=((Fam.start hH).alloc _).alloc _
 have hb0:blk <(A2k t (some ⟨blk,off,none⟩) d.size c w).heap.size:=Nat.lt_of_lt_of_le hb F0.size
 refine(A5l hk lt hO g lb (fN d.size) _ hg _ d (hless.on hb F0 rfl) ?_ (F0.holds hb hH rfl) hb0 hsz).mono ?_
 ·by_cases h2:2≤d.size
  ·unfold B3s
   rw[if_neg (swK_gt _ _ _ h2)]
   exact A6g gS (fN d.size) (a9 _ h2) e ie a4 hk a7 a8 h1 d.size c
  ·intro W dk _ _ i j hi hj hij
   omega
 ·rintro e' w' ⟨rfl,hF⟩
  exact⟨rfl,F0.trans hb hF (Av1 lt d)⟩
theorem A5m{t e:Nat}{fN:Nat→Nat}(hT:SortTy t e k fN)(lt:α→α→Bool)(hO:SWO lt)(hk:∀ x,(enc x).length=k)(g:Nat)(lb:Array Value)(hg:D5 Tryz.prog g)(w:World) :
  Calls Tryz.prog 150 #[.iface t (.slice none 0 0),.func (.func g) #[] lb] w fun e w'=>e=.returned (.tuple #[])∧Below w.heap.size w w':=by
 obtain⟨i,ie,ke,gS,a1,a2,a3,a4,a5,a6,a7,a8,a9⟩:=hT.ex
 refine A16 t e i ie a1 a2 a3 a4 ke a5 none 0 0 (by omega) (fN 0) (a6 _) (.func g) #[] lb w _ ?_
 have hsize:(A2k t none 0 0 w).heap.size=w.heap.size+2:=by simp [A2k]
 have hB0:Below w.heap.size w (A2k t none 0 0 w):=by
  unfold A2k
  exact((Below.refl _ w).alloc (Nat.le_refl _) _).alloc (by simp) _
 refine(A5l (blk:=w.heap.size) (off:=0) (enc:=enc) hk lt hO g lb (fN 0) _ hg (A2k t none 0 0 w) (#[]:Array α) (fun W dk _ _ i j hi hj=>by simp at hi) (fun W dk _ _ i j hi hj=>by simp at hi) (fun j hj=>by simp at hj) (by rw[hsize];omega) (by simp)).mono ?_
 rintro e' w' ⟨rfl,hF⟩
 have f:=hF.facts
 refine⟨rfl,hB0.trans ⟨f.1,f.2.1,f.2.2.1,hF.size,fun j hj=>f.2.2.2 j (by rw[hsize];omega) (by omega)⟩⟩
end
end Go.Proofs.YtokhjapfekbobaaGreat
namespace Go.Proofs.YtokhjapfekbobaaGreat
open Go.E
set_option maxRecDepth 100000
set_option maxHeartbeats 4000000
open Go Go.Sort Go.RowKit Go.Lib Go.Shelf Go.Proofs
section
variable {α : Type} [Inhabited α] {encA : α → List AV} {k blk : Nat}
def Ah7(encA:α→List AV)(x:α):List Value:=(encA x).map valA
theorem A5n(d:List α):(d.map (Ah7 encA)).flatten=((d.map encA).flatten).map valA:=by
 induction d with
 | nil=>rfl
 | cons x d ih=>simp only [List.map_cons,List.flatten_cons,List.map_append,ih,Ah7]
theorem B0d(hk:∀ x,(encA x).length=k)(hp:∀ x,∀ a∈encA x,T0 a=true)(lt:α→α→Bool)(g:Nat)
  (hcon:∀(d:List α) (i j:Nat),i < d.length→j < d.length→Con Tryz.prog g [.i .i64 i,.i .i64 j,.eptr [.sl (d.map encA)]] (.b (lt d[i]! d[j]!)))
  {w:World} {gv n cap:Nat} (hgv:gv < w.heap.size) (hne:gv≠blk) (hb:blk < w.heap.size) (hc:w.cell? ⟨gv,0,none⟩=some (.slice (some ⟨blk,0,none⟩) n cap)) (hn:n≤cap) (hm:n≤maxLen) (d0:Array α) (hs0:d0.size=n) (hH:HoldsK (Ah7 encA) k w blk 0 d0) :
  A2g g #[.pointer (some ⟨gv,0,none⟩)] (Ah7 encA) k lt blk 0 n w:=by
 intro W dk hF hs i j hi hj
 have hkV:∀ x,(Ah7 encA x).length=k:=fun x=>by simp [Ah7,hk]
 have hHW:HoldsK (Ah7 encA) k W blk 0 dk:=hF.holds hb hH (by omega)
 have hsize:=hF.size
 have hcW:W.cell? ⟨gv,0,none⟩=some (.slice (some ⟨blk,0,none⟩) n cap):=by rw[hF.cell hgv hne];exact hc
 have hlen:dk.toList.length=n:=by simpa using hs
 have hrel:RelV0 (fun b=>b < W.heap.size) W (.sl (dk.toList.map encA)) (.slice (some ⟨blk,0,none⟩) n cap):=by
  have hl:(dk.toList.map encA).length=n:=by simpa using hs
  have hel:∀ j q,j < n→q < k→∃ a,(encA dk[j]!)[q]?=some a∧T0 a=true∧(Ah7 encA dk[j]!)[q]! = valA a:=by
   intro j q hj hq
   have hq':q <(encA dk[j]!).length:=by rw[hk];exact hq
   refine⟨(encA dk[j]!)[q],List.getElem?_eq_getElem hq',hp _ _ (List.getElem_mem hq'),?_⟩
   rw[getElem!_pos _ q (by rw[hkV];exact hq)]
   simp [Ah7]
  have:=RelV0.sl (S:=fun b=>b < W.heap.size) (w:=W) (dk.toList.map encA) (some ⟨blk,0,none⟩) cap k (fun j q=>if j < n∧q < k then(Ah7 encA dk[j]!)[q]! else .bool false) (by omega) (by omega) (fun h=>by cases h)
   (fun r hr=>by obtain⟨x,_,rfl⟩:=List.mem_map.1 hr;exact hk x)
   (fun _=>⟨⟨blk,0,none⟩,rfl,by show blk < W.heap.size;omega,fun j q hj hq=>by
    have:=(hHW.cell (i:=j) (c:=q) (by omega) hq).1
    rw[if_pos ⟨by omega,hq⟩,← this]
    congr 1
    simp [Addr.add]
    try (intros;omega)⟩)
   (fun j q=>by
    split
    ·rename_i h
     obtain⟨a,_,h2,h3⟩:=hel j q h.1 h.2
     rw[h3]
     exact Z4 h2
    ·rfl)
   (fun j q r a hr ha=>by
    have hj:j < n:=by have:=lt_of_getElem? hr;omega
    rw[List.getElem?_map]at hr
    have e1:dk.toList[j]?=some dk[j]!:=by rw[Array.getElem?_toList,getElem?_pos dk j (by omega),getElem!_pos dk j (by omega)]
    rw[e1,Option.map_some,Option.some.injEq]at hr
    subst hr
    have hq:q < k:=by have:=lt_of_getElem? ha;rw[hk]at this;exact this
    rw[if_pos ⟨hj,hq⟩]
    obtain⟨a',h1,h2,h3⟩:=hel j q hj hq
    rw[ha,Option.some.injEq]at h1
    subst h1
    rw[h3]
    exact A4d h2)
  rw[hl]at this
  exact this
 have hC:=(hcon dk.toList i j (by omega) (by omega)).2 W (fun b=>b < W.heap.size) [.int .i64 i,.int .i64 j,.pointer (some ⟨gv,0,none⟩)] (fun _ h=>h) rfl (fun q a u ha hu=>by
  match q with
  | 0=>simp only [List.getElem?_cons_zero,Option.some.injEq]at ha hu;subst ha;subst hu;exact .i _ _
  | 1=>simp only [List.getElem?_cons_succ,List.getElem?_cons_zero,Option.some.injEq]at ha hu;subst ha;subst hu;exact .i _ _
  | 2 =>
   simp only [List.getElem?_cons_succ,List.getElem?_cons_zero,Option.some.injEq]at ha hu
   subst ha;subst hu
   refine .eptr _ ⟨gv,0,none⟩ (fun _=>.slice (some ⟨blk,0,none⟩) n cap) (by show gv < W.heap.size;omega) (fun q hq=>?_) (fun _=>rfl) (fun q a ha=>?_)
   ·have:q=0:=by simpa using hq
    subst this
    exact hcW
   ·have:q=0:=by have:=lt_of_getElem? ha;simpa using this
    subst this
    simp only [List.getElem?_cons_zero,Option.some.injEq]at ha
    subst ha
    exact hrel
  | q+3=>simp at ha)
 refine hC.mono ?_
 rintro e w' ⟨v,rfl,hr,hB⟩
 cases hr
 refine⟨?_,hB⟩
 rw[← Array.getElem!_toList,← Array.getElem!_toList]
theorem B7o{t e:Nat}{fN:Nat→Nat}(hT:SortTy t e k fN)(hk:∀ x,(encA x).length=k)(hp:∀ x,∀ a∈encA x,T0 a=true)(lt:α→α→Bool)(hO:SWO lt)(g:Nat)(hg:D5 Tryz.prog g)(hS:D5 Tryz.prog 150)
  (hcon:∀(d:List α) (i j:Nat),i < d.length→j < d.length→Con Tryz.prog g [.i .i64 i,.i .i64 j,.eptr [.sl (d.map encA)]] (.b (lt d[i]! d[j]!))) (d:List α) (hlen:d.length < 1152921504606846976) :
  B4q Tryz.prog 150 g t true e k (d.map encA) ((d.mergeSort (fun x y=>!lt y x)).map encA):=by
 have hkV:∀ x,(Ah7 encA x).length=k:=fun x=>by simp [Ah7,hk]
 have hone:∀ x,∀ v∈Ah7 encA x,v.oneCell'=true:=by
  intro x v hv
  obtain⟨a,ha,rfl⟩:=List.mem_map.1 hv
  exact Z4 (hp x a ha)
 have hpl:∀ l:List α,∀ a∈(l.map encA).flatten,T0 a=true:=by
  intro l a ha
  obtain⟨r,hr,har⟩:=List.mem_flatten.1 ha
  obtain⟨x,_,rfl⟩:=List.mem_map.1 hr
  exact hp x a har
 refine⟨hS,by simp,fun r hr=>?_,hpl _,hpl _,fun w base v cv ho hcap=>?_⟩
 ·obtain⟨x,_,rfl⟩:=List.mem_map.1 hr;exact hk x
 ·obtain⟨gv,rfl,q1,q2,q3⟩:=hcap rfl
  simp only [if_true]
  rw[List.length_map]at ho ⊢
  rcases ho.2 with⟨rfl,h0⟩ | ⟨b,cap,cur,rfl,hb,hh,h1,h2,h3,h4⟩
  ·have:d=[]:=List.eq_nil_of_length_eq_zero h0
   subst this
   refine(A5m (enc:=Ah7 encA) hT lt hO hkV g #[.pointer (some ⟨gv,0,none⟩)] hg w).mono ?_
   rintro e' w' ⟨rfl,hB⟩
   refine⟨rfl,⟨by simp,.inl ⟨rfl,rfl⟩⟩,fun j hj _=>hB.block j hj,hB.os,hB.tape,hB.output,hB.size⟩
  ·have hbl:b < w.heap.size:=(Array.getElem?_eq_some_iff.1 hh).1
   have hne:gv≠b:=fun e=>q3 (by rw[e];rfl)
   have hHd:HoldsK (Ah7 encA) k w b 0 d.toArray:=P6 hkV ho (by simp) (by rw[← A5n])
   have hl:=B0d (blk:=b) hk hp lt g hcon q1 hne hbl q2 h1 (by omega) d.toArray (by simp) hHd
   have hw:=A3p (blk:=b) (off:=0) (enc:=Ah7 encA) hT hkV hone lt hO g #[.pointer (some ⟨gv,0,none⟩)] hg cap d.toArray (by simp;omega) w (by simpa using hl) hHd hbl
   rw[show d.toArray.size=d.length by simp]at hw
   refine hw.mono ?_
   rintro e' w' ⟨rfl,hF⟩
   have f:=hF.facts
   have ow:=hF.owns hkV (Av1 lt d.toArray) (by rw[← A5n]) (by simp) ho
   refine⟨rfl,?_,fun j hj hjb=>f.2.2.2 j hj (fun e=>hjb (by rw[e];rfl)),f.1,f.2.1,f.2.2.1,hF.size⟩
   rw[← A5n]
   exact ow
end
end Go.Proofs.YtokhjapfekbobaaGreat
namespace Go.Proofs.YtokhjapfekbobaaGreat
open Go.E
set_option maxRecDepth 100000
set_option maxHeartbeats 4000000
open Go Go.Sort Go.RowKit Go.Lib Go.Shelf Go.Proofs
def renClE:Go.Shelf.Ren:=⟨fun | 41=>46 | n=>n,fun | 4=>4 | 22=>22 | 23=>67 | n=>n,fun n=>n⟩
theorem Bj2:Go.Proofs.SlLaysE0.n41 Tryz.prog renClE:={ mixed:=by kernel_rfl,f41:=⟨Tryz.f46.name,by decide,Tryz.func46.trans (congrArg some (by kernel_rfl))⟩,t4:=Tryz.underlying4,a4:=Tryz.isAgg4,z4:=Tryz.sizeOf4,v4:=Tryz.zeroValue4,t22:=Tryz.underlying22,a22:=Tryz.isAgg22,z22:=Tryz.sizeOf22,v22:=Tryz.zeroValue22 }
theorem con46(es:List Entry)(hl:es.length*40≤140737488355328):A3s Tryz.prog 46 [.sl (es.map c67)] 67 (.row 4 (es.map c67)) :=
 A2v (T:=tab) Bj2 A9 (te:=_) rfl ⟨_,Tryz.func46,by kernel_rfl,by kernel_rfl⟩ (by kernel_rfl) (by decide +kernel) (fun r hr=>by obtain⟨x,_,rfl⟩:=List.mem_map.1 hr;kernel_rfl) (by rw[List.length_map];exact hl)
noncomputable def tiRowE:TypeInfo:=(Tryz.prog.info? 22).get!
noncomputable def tiE:TypeInfo:=(Tryz.prog.info? 67).get!
def swE(n:Nat):Nat:=if n=0 then 157 else if n=1 then 158 else 165
theorem swKE(n:Nat)(h2:2≤n):swapperK n tiE 25=9:=by
 have b:tiE.bytes=40:=by kernel_rfl
 have c:(n == 0)=false:=by simp;omega
 have d:(n == 1)=false:=by simp;omega
 simp [swapperK,b,c,d]
theorem Bj3:SortTy 22 67 4 swE:=by
 refine⟨tiRowE,tiE,25,false,by kernel_rfl,by kernel_rfl,by kernel_rfl,by kernel_rfl,fun _=>by kernel_rfl,fun n=>?_,by kernel_rfl,fun _=>by kernel_rfl,fun n h2=>?_⟩
 ·match n with
  | 0=>show _=some 157;kernel_rfl
  | 1=>show _=some 158;kernel_rfl
  | n+2 =>
   rw[swKE _ (by omega)]
   simp only [swE]
   rw[if_neg (by omega),if_neg (by omega)]
   show _=some 165
   kernel_rfl
 ·have e:swE n=165:=by simp only [swE];rw[if_neg (by omega),if_neg (by omega)]
  rw[e]
  exact fun args W=>run_callFunc_extern Tryz.func165 (by kernel_rfl) (by kernel_rfl) (by kernel_rfl) (e:=Extern.ReflectliteSwapper.swap false) (by kernel_rfl) args W
def ltE(a b:Entry):Bool:=dLt a.dot b.dot
theorem Am6:SWO ltE:=by
 refine⟨fun x=>?_,fun x y z h1 h2=>?_,fun x y z h1 h2=>?_⟩ <;> simp only [ltE,dLt,decide_eq_true_eq,decide_eq_false_iff_not]at*<;> omega
theorem con151(d:List Entry)(i j:Int)(hi0:0≤i)(hj0:0≤j)(hi:i < d.length)(hj:j < d.length):Con Tryz.prog 151 [.i .i64 i,.i .i64 j,.eptr [.sl (d.map c67)]] (.b (ltE d[i.toNat]! d[j.toNat]!)) :=
 by
 refine sC A9 [.tmp 5] 17 Tryz.func151 ?_
 intro e0 cx
 refine sq<|rG cx [0,1,2] [] z0<|sn<|sq<|rA cx [5] [] (fA (0≤i) (fG c67 d i.toNat (fR 4 (fN 2 4 (fA (0≤j) (fG c67 d j.toNat (fR 4 (fN 2 4 (fT (B93 (d[i.toNat]!.dot) (d[j.toNat]!.dot)) (oR 2 (c67 d[i.toNat]!) (oR 7 (c67 d[j.toNat]!) (oA 10 (.b (dLt d[i.toNat]!.dot d[j.toNat]!.dot)) z0))))))))))))<|sn<|rT<|qR (.b (dLt d[i.toNat]!.dot d[j.toNat]!.dot)) (.eq ?g0);rotate_left
 case g0=>exact rfl
theorem io150(d:List Entry)(hlen:d.length < 1152921504606846976) :
  Y8 Tryz.prog 150 151 (some 22) true 67 4 (d.map c67) ((d.mergeSort (fun x y=>!ltE y x)).map c67):=by
 refine B4q.toG (fun r hr=>by obtain⟨x,_,rfl⟩:=List.mem_map.1 hr;rfl) ?_
 exact B7o (α:=Entry) (encA:=c67) (k:=4) Bj3 (fun x=>rfl)
  (fun x a ha=>by
   simp only [c67,List.mem_cons,List.not_mem_nil,or_false]at ha
   rcases ha with rfl | rfl | rfl | rfl <;> rfl)
  ltE Am6 151 ⟨_,Tryz.func151,by kernel_rfl,by kernel_rfl⟩ ⟨_,Tryz.func150,by kernel_rfl,by kernel_rfl⟩
  (fun d i j hi hj=>by
   have:=con151 d (i:Int) (j:Int) (by omega) (by omega) (by omega) (by omega)
   rw[Int.toNat_natCast,Int.toNat_natCast]at this
   exact this) d hlen
def A31(es:List Entry):List Entry:=es.mergeSort (fun x y=>!ltE y x)
theorem A5o(es:List Entry):(A31 es).length=es.length:=by simp [A31]
def Bj4(es:List Entry):Int:=match es.find? (fun e=>decide (N9 e≠0))with | some e=>N9 e | none=>0
def M4(s:List Entry):Nat→Option (List Entry)
 | 0=>some []
 | n+1=>match M4 s n with
  | none=>none
  | some l=>if n=0∨s[n-1]!.dot≠s[n]!.dot then some (l++[s[n]!])else if s[n-1]! = s[n]! then some l else none
def A1g(s:List Entry):List Entry×Int:=match M4 s s.length with | some l=>(l,0) | none=>([],10)
def V3(es:List Entry):List Entry×Int:=if Bj4 es=0 then A1g (A31 es)else([],Bj4 es)
theorem Bj5{es:List Entry}(h:∀ j:Nat,j < es.length→N9 es[j]! = 0):Bj4 es=0:=by
 unfold Bj4
 have:es.find? (fun e=>decide (N9 e≠0))=none:=by
  rw[List.find?_eq_none]
  intro x hx
  obtain⟨j,hj,rfl⟩:=List.mem_iff_getElem.1 hx
  have:=h j hj
  rw[getElem!_pos es j hj]at this
  simp [this]
 rw[this]
theorem B7p{es:List Entry}:∀ {i:Nat},i < es.length→¬ N9 es[i]! = 0→(∀ j:Nat,j < i→N9 es[j]! = 0)→Bj4 es=N9 es[i]!:=by
 induction es with
 | nil=>intro i hi;simp at hi
 | cons e es ih =>
  intro i hi hb hok
  cases i with
  | zero =>
   have hb':¬ N9 e=0:=by simpa using hb
   unfold Bj4
   simp [List.find?_cons,hb']
  | succ i =>
   have h0:N9 e=0:=by simpa using hok 0 (by omega)
   have:=ih (i:=i) (by simpa using hi) (by simpa using hb) (fun j hj=>by simpa using hok (j+1) (by omega))
   unfold Bj4 at this ⊢
   simpa [List.find?_cons,h0]using this
theorem A7b{s:List Entry}{n:Nat}(h:M4 s n=none):∀ m,M4 s (n+m)=none
 | 0=>h
 | m+1=>by rw[← Nat.add_assoc,M4,A7b h m]
theorem Ag1{s:List Entry}:∀ {n:Nat} {l:List Entry},M4 s n=some l→∀ m,m < n→m=0∨s[m-1]!.dot≠s[m]!.dot∨s[m-1]! = s[m]!
 | 0,l,h,m,hm=>by omega
 | n+1,l,h,m,hm=>by
  rw[M4]at h
  split at h
  ·cases h
  ·rename_i l0 h0
   by_cases e:m=n
   ·subst e
    split at h
    ·rename_i hc
     exact hc.imp id .inl
    ·split at h
     ·rename_i hc;exact .inr (.inr hc)
     ·cases h
   ·exact Ag1 h0 m (by omega)
def Av3(s:List Entry):Prop:=s.Pairwise (fun x y=>(!ltE y x)=true)
theorem B0e {s : List Entry} (hs : Av3 s) {l : List Entry} (h : M4 s s.length = some l) : ∀ i j : Nat, i ≤ j → j < s.length → s[i]!.dot = s[j]!.dot → s[i]! = s[j]! := by
  intro i j hij
  induction j with
  | zero => intro hj he; have : i = 0 := by omega
            rw[this]
  | succ j ih =>
    intro hj he
    by_cases e:i=j+1
    · rw[e]
    · have hp := List.pairwise_iff_getElem.1 hs
      have h1 : i = j ∨ (!ltE s[j]! s[i]!) = true := by
        by_cases e2:i=j
        · exact .inl e2
        · right
          have:=hp i j (by omega) (by omega) (by omega)
          rwa [← getElem!_pos s i (by omega),← getElem!_pos s j (by omega)]at this
      have h2:=hp j (j+1) (by omega) hj (by omega)
      rw[← getElem!_pos s j (by omega),← getElem!_pos s (j+1) hj]at h2
      have hd : s[i]!.dot = s[j]!.dot := by
        rcases h1 with h1 | h1
        · rw[h1]
        · have e3 : s[j]!.dot.rep = s[i]!.dot.rep ∧ s[j]!.dot.num = s[i]!.dot.num := by
            simp only [ltE,dLt,Bool.not_eq_true',decide_eq_false_iff_not]at h1 h2
            rw[← he]at h2
            omega
          cases hx:s[i]!.dot;cases hy:s[j]!.dot
          rw[hx,hy]at e3
          simp only at e3
          rw[e3.1,e3.2]
      have h3:=Ag1 h (j+1) hj
      rcases h3 with h3 | h3 | h3
      · omega
      · simp only [Nat.add_sub_cancel] at h3
        exact absurd (by rw[← hd,he]) h3
      · simp only [Nat.add_sub_cancel] at h3
        rw[← h3]
        exact ih (by omega) (by omega) (by rw[he,h3])
theorem A7c(es:List Entry):Av3 (A31 es):=by
 refine List.pairwise_mergeSort (le:=fun x y=>!ltE y x) ?_ ?_ es
 ·intro a b c h1 h2
  simp only [Bool.not_eq_true']at *
  exact Am6.ntrans _ _ _ h2 h1
 ·intro a b
  cases h:ltE b a with
  | false=>rfl
  | true=>simp [Am6.asymmA h]
theorem B3t(s:List Entry):(A1g s).1.length≤s.length:=by
 have:∀ n l,M4 s n=some l→l.length≤n:=by
  intro n
  induction n with
  | zero=>intro l h;simp [M4]at h;simp [← h]
  | succ n ih =>
   intro l h
   rw[M4]at h
   split at h
   ·cases h
   ·rename_i l0 h0
    have:=ih l0 h0
    split at h
    ·simp only [Option.some.injEq]at h;rw[← h];simp;omega
    ·split at h
     ·simp only [Option.some.injEq]at h;rw[← h];omega
     ·cases h
 unfold A1g
 split
 ·rename_i l h;exact this _ _ h
 ·simp
theorem B3u(es:List Entry):(V3 es).1.length≤es.length:=by
 unfold V3
 split
 ·have:=B3t (A31 es)
  rwa [A5o]at this
 ·simp
def B3v(es:List Entry)(i:Int):Prop:=0≤i∧i≤es.length∧∀ j:Nat,(j:Int) < i→N9 es[j]! = 0
end Go.Proofs.YtokhjapfekbobaaGreat
namespace Go.Proofs.YtokhjapfekbobaaGreat
open Go.E
set_option maxRecDepth 100000
set_option maxHeartbeats 4000000
def inv57(s:List Entry)(i:Int)(l:List Entry):Prop:=0≤i∧i≤s.length∧M4 s i.toNat=some l∧(l.length:Int)≤i
def Av4(s:List Entry)(i:Int)(a l:List Entry):Prop:=a=s∧0≤i∧i≤s.length∧M4 s i.toNat=some l∧(l.length:Int)≤i
def dec25c(s:List Entry)(i:Int)(a l:List Entry):Nat:=(s.length-i).toNat
theorem Ag2{es:List Entry}{i:Nat}(hi:i < es.length)(hb:¬ N9 es[i]! = 0)(hok:∀ j:Nat,j < i→N9 es[j]! = 0):V3 es=([],N9 es[i]!):=by
 have:=B7p hi hb hok
 unfold V3
 rw[this,if_neg hb]
theorem A2l{es:List Entry}(hok:∀ j:Nat,j < es.length→N9 es[j]! = 0):V3 es=A1g (A31 es):=by
 unfold V3
 rw[if_pos (Bj5 hok)]
theorem A32{s l:List Entry}{i:Int}(h0:0≤i)(h:M4 s i.toNat=some l) :
  M4 s (i+1).toNat=if ¬(0 < i∧s[(i-1).toNat]!.dot=s[i.toNat]!.dot)then some (l++[s[i.toNat]!])else if s[(i-1).toNat]! = s[i.toNat]! then some l else none:=by
 have e:(i+1).toNat=i.toNat+1:=by omega
 have e2:(i-1).toNat=i.toNat-1:=by omega
 rw[e,M4,h,e2]
 have hc:(i.toNat=0∨s[i.toNat-1]!.dot≠s[i.toNat]!.dot)↔¬(0 < i∧s[i.toNat-1]!.dot=s[i.toNat]!.dot):=by
  constructor
  ·rintro(h | h) ⟨h1,h2⟩
   ·omega
   ·exact h h2
  ·intro h
   by_cases z:i.toNat=0
   ·exact .inl z
   ·exact .inr fun g=>h ⟨by omega,g⟩
 simp only [hc]
theorem B7q{s l:List Entry}{i:Int}(h0:0≤i)(h:M4 s i.toNat=some l)(hi:i < s.length)(hl:(l.length:Int)≤i)(hc:¬(0 < i∧s[(i-1).toNat]!.dot=s[i.toNat]!.dot)):inv57 s (i+1) (l++[s[i.toNat]!]) :=
 ⟨by omega,by omega,by rw[A32 h0 h,if_pos hc],by simp;omega⟩
theorem B3w{s l:List Entry}{i:Int}(h0:0≤i)(h:M4 s i.toNat=some l)(hi:i < s.length)(hl:(l.length:Int)≤i)(hc:0 < i∧s[(i-1).toNat]!.dot=s[i.toNat]!.dot)(he:¬ ¬ s[(i-1).toNat]! = s[i.toNat]!):inv57 s (i+1) l :=
 ⟨by omega,by omega,by rw[A32 h0 h,if_neg (fun k=>k hc),if_pos (Classical.not_not.1 he)],by omega⟩
theorem A7d{s l:List Entry}{i:Int}(h0:0≤i)(h:M4 s i.toNat=some l)(hi:i < s.length)(hc:0 < i∧s[(i-1).toNat]!.dot=s[i.toNat]!.dot)(he:¬ s[(i-1).toNat]! = s[i.toNat]!):A1g s=([],10):=by
 have h1:M4 s (i+1).toNat=none:=by rw[A32 h0 h,if_neg (fun k=>k hc),if_neg he]
 have h2:=A7b h1 (s.length-(i+1).toNat)
 rw[show(i+1).toNat+(s.length-(i+1).toNat)=s.length by omega]at h2
 unfold A1g
 rw[h2]
theorem Av5{s l:List Entry}{i:Int}(h0:0≤i)(h:M4 s i.toNat=some l)(h1:i≤s.length)(hi:¬ i < s.length):A1g s=(l,0):=by
 unfold A1g
 rw[show s.length=i.toNat by omega,h]
theorem con107(es:List Entry)(hl:es.length*40≤140737488355328):Con Tryz.prog 107 [.sl (es.map c67)] (.tup [.sl ((V3 es).1.map c67),.i .i64 (V3 es).2]) :=
 by
 have hL:(es.mergeSort fun x y=>!ltE y x).length=es.length:=by simp
 have hS:=A5o es
 refine lN 0 c67 (es) Tryz.func107 fun hl_0=>sC A9 [.tmp 2,.tmp 3] 62 Tryz.func107 ?_
 intro e0 cx
 refine sq<|rG cx [0] [] z0<|sn<|sq<|sq<|rG cx [0,11,12,13] [] (tL 1 c67 es z0)<|sn<|bL 0<|sL (X:=Int) (fun x=>⟨[(0,.sl (List.map c67 es)),(11,.sl (List.map c67 es)),(12,.i .i64 ((↑es.length:Int))),(13,.i .i64 (x))],[]⟩) (fun x ↦ dec30i es x) (fun x ↦ B3v es x) [0,11,12,13] [] ((0:Int)) (show B3v es (0:Int)from ?g0) ?_;rotate_left
 intro i0 h_1
 obtain⟨hh2,hh3,hh4⟩:0≤i0∧i0≤(↑es.length:Int)∧∀(j:Nat),(↑j:Int) < i0→N9 es[j]! =(0:Int):=h_1
 refine rE cx [0,11,12,13,14] [] (zB 0 (i0 <(↑es.length:Int))) (fun h5=>?_) fun h5=>?_
 refine sK<|sn<|sq<|bL 1<|sq<|rG cx [0,11,12,13,5] [5] (fA (0≤i0) (fG c67 es i0.toNat (fR 4 (fN 4 4 (oR 0 (c67 es[i0.toNat]!) z0)))))<|sn<|sq<|rG cx [0,11,12,13,6] [] (fT (As3 (es[i0.toNat]!)) (oA 1 (.i .i64 (N9 es[i0.toNat]!)) z0))<|sn<|sq<|rG cx [0,11,12,13,6,20] [] (tN 1 (N9 es[i0.toNat]!) (0:Int) z0)<|sn<|dC (¬N9 es[i0.toNat]! =(0:Int)) (fun h6=>?_) fun h6=>?_
 refine sq<|rG cx [2,3] [] z0<|sn<|rT<|bR<|nR<|nR<|bR<|nR<|qR (.tup [.nl,.i .i64 (N9 es[i0.toNat]!)]) (C1.tup (ZLe.cons (C1.nl' (show List.map c67 (V3 es).1=[]from ?g2)) (ZLe.cons (C1.eq (show AV.i .i64 (N9 es[i0.toNat]!)=AV.i .i64 (V3 es).2 from ?g1)) ZLe.nil)));rotate_left 2
 refine sK<|bN<|sn<|rG cx [0,11,12,13] [] (tW 0 (i0+1) z0)<|sn<|nX (i0+1) (show((↑es.length:Int)-(i0+1)).toNat <((↑es.length:Int)-i0).toNat from(by omega)) (show B3v es (i0+1)from ?g3);rotate_left
 refine eX 0<|nE<|nE<|bH<|sn<|sq<|rG cx [7] [24,7] (fT (con46 (es) (by(with_reducible assumption))) (oV 1 { val:=some (.own (67:Nat) (4:Nat)),rows:=some (List.map c67 es) } z0))<|sn<|sq<|rG cx [7] [24,7] (fR (AV.own (24) (0)) (fP (Y8 Tryz.prog (150:FuncId) (151:FuncId) (some (22:Nat)) true (67:Nat) (4:Nat) (List.map c67 es) (List.map c67 (es.mergeSort fun x y ↦ !ltE y x))) (io150 (es) (by omega)) (oV 3 { rows:=some (List.map c67 (es.mergeSort fun x y ↦ !ltE y x)) } z0)))<|sn<|sq<|rG cx [7,8] [24,7] z0<|sn<|sq<|sq<|rG cx [7,8,29,30,31] [24,7] (tL 1 c67 (es.mergeSort fun x y ↦ !ltE y x) z0)<|sn<|bL 2<|G3 8 1008 67 4 (σ':=⟨[(7,.ptr (7) (0) (0) (0)),(8,.own 1008 0),(29,.own 24 0),(30,.i .i64 ((↑(es.mergeSort fun x y ↦ !ltE y x).length:Int))),(31,.i .i64 ((0:Int)))],[(24,⟨0,67,.row 4 (List.map c67 (es.mergeSort fun x y ↦ !ltE y x))⟩),(7,⟨0,22,.var [.own 24 0]⟩),(1008,⟨0,67,.row 4 (List.map c67 [])⟩)]⟩) (by kernel_rfl)<|sL (X:=Int×List Entry×List Entry) (fun x=>⟨[(7,.ptr (7) (0) (0) (0)),(8,.own 1008 0),(29,.own 24 0),(30,.i .i64 ((↑(es.mergeSort fun x y ↦ !ltE y x).length:Int))),(31,.i .i64 (x.1))],[(24,⟨0,67,.row 4 (List.map c67 x.2.1)⟩),(7,⟨0,22,.var [.own 24 0]⟩),(1008,⟨0,67,.row 4 (List.map c67 x.2.2)⟩)]⟩) (fun x ↦ dec25c (A31 es) x.1 x.2.1 x.2.2) (fun x ↦ Av4 (A31 es) x.1 x.2.1 x.2.2) [7,8,29,30,31] [24,7,1008] (((0:Int),es.mergeSort fun x y ↦ !ltE y x,[])) (show Av4 (A31 es) (0:Int) (es.mergeSort fun x y ↦ !ltE y x) []from ?g4) ?_;rotate_left
 rintro⟨ii7,a8,l9⟩ h_10
 obtain⟨h11,h12,h13,h14,h15⟩:a8=A31 es∧0≤ii7∧ii7≤(↑(A31 es).length:Int)∧M4 (A31 es) ii7.toNat=some l9∧(↑l9.length:Int)≤ii7:=h_10
 refine rE cx [7,8,29,30,31,32] [24,7,1008] (zB 0 (ii7 <(↑(es.mergeSort fun x y ↦ !ltE y x).length:Int))) (fun h16=>?_) fun h16=>?_
 refine sK<|sn<|sq<|bL 3<|sq<|rG cx [7,8,29,30,31,10,9] [24,7,1008,10] (fA (0≤ii7) (fP (ii7.toNat <(List.map c67 a8).length) ?g5 (fR 4 (fP (E.rowAt { ver:=0,ty:=67,k:=BK.row (4) (List.map c67 a8):Blk } ii7.toNat (c67 a8[ii7.toNat]!)) ?g6 (fP (0+(4:Nat)≤(c67 a8[ii7.toNat]!).length) ?g7 (oR 2 (c67 a8[ii7.toNat]!) z0)))))) ?_;rotate_left 3
 refine sn<|sq<|sq<|B4 (σ':=⟨[(7,.ptr (7) (0) (0) (0)),(8,.own 1008 0),(29,.own 24 0),(30,.i .i64 ((↑(es.mergeSort fun x y ↦ !ltE y x).length:Int))),(31,.i .i64 (ii7)),(10,.ptr (10) (0) (0) (0)),(9,.i .i64 (ii7)),(48,.b (decide ((0:Int) < ii7∧a8[(ii7-1).toNat]!.dot=a8[ii7.toNat]!.dot)))],[(24,⟨0,67,.row 4 (List.map c67 a8)⟩),(7,⟨0,22,.var [.own 24 0]⟩),(1008,⟨0,67,.row 4 (List.map c67 l9)⟩),(10,⟨0,67,.var [.i .i64 (a8[ii7.toNat]!.dot.rep),.i .i64 (a8[ii7.toNat]!.dot.num),.s (a8[ii7.toNat]!.sku),.i .i64 (a8[ii7.toNat]!.qty)]⟩)]⟩) ?_ ?_
 refine A4 ((0:Int) < ii7) (fun h18=>?_) (fun h18=>?_)
 refine rA cx [7,8,29,30,31,10,9,48] [24,7,1008,10] (tT 1 (A6 h18) (tT 5 (B5 (by omega) ?g8:AV.i .i64 (IntKind.i64.wrap (ii7-1))=AV.i .i64 (ii7-1)) (fO (0≤ii7-1) (fP ((ii7-1).toNat <(List.map c67 a8).length) ?g9 (fR 4 (fP (E.rowAt { ver:=0,ty:=67,k:=BK.row (4) (List.map c67 a8):Blk } (ii7-1).toNat (c67 a8[(ii7-1).toNat]!)) ?g10 (fP (0+(2:Nat)≤(c67 a8[(ii7-1).toNat]!).length) ?g11 (fT (eq65 a8[(ii7-1).toNat]!.dot a8[ii7.toNat]!.dot) (tD 12 (decide (a8[(ii7-1).toNat]!.dot=a8[ii7.toNat]!.dot)) ((0:Int) < ii7∧a8[(ii7-1).toNat]!.dot=a8[ii7.toNat]!.dot) (by simp only [eq_true h18,tsl]) (oR 8 (c67 a8[(ii7-1).toNat]!) (oA 11 (.b (decide (a8[(ii7-1).toNat]!.dot=a8[ii7.toNat]!.dot))) z0))))))))))) ?_;rotate_left 4
 exact⟨rfl,by kernel_rfl⟩
 refine rA cx [7,8,29,30,31,10,9,48] [24,7,1008,10] (tT 1 (A0 h18) (tD 12 false ((0:Int) < ii7∧a8[(ii7-1).toNat]!.dot=a8[ii7.toNat]!.dot) (by simp only [eq_false h18,tsl]) z0)) ?_
 exact⟨rfl,by kernel_rfl⟩
 refine sn<|dC ((0:Int) < ii7∧a8[(ii7-1).toNat]!.dot=a8[ii7.toNat]!.dot) (fun h19=>?_) fun h19=>?_
 refine sq<|sq<|rA cx [7,8,29,30,31,55] [24,7,1008] (tT 2 (B5 (by omega) ?g12:AV.i .i64 (IntKind.i64.wrap (ii7-1))=AV.i .i64 (ii7-1)) (fO (0≤ii7-1) (fP ((ii7-1).toNat <(List.map c67 a8).length) ?g13 (fR 4 (fP (E.rowAt { ver:=0,ty:=67,k:=BK.row (4) (List.map c67 a8):Blk } (ii7-1).toNat (c67 a8[(ii7-1).toNat]!)) ?g14 (fP (0+(4:Nat)≤(c67 a8[(ii7-1).toNat]!).length) ?g15 (fT (A1x (eq67 a8[(ii7-1).toNat]! a8[ii7.toNat]!)) (oR 4 (c67 a8[(ii7-1).toNat]!) (oA 6 (.b (decide ¬a8[(ii7-1).toNat]! = a8[ii7.toNat]!)) z0))))))))) ?_;rotate_left 4
 refine sn<|dC (¬a8[(ii7-1).toNat]! = a8[ii7.toNat]!) (fun h20=>?_) fun h20=>?_
 refine sq<|rG cx [2,3] [] z0<|sn<|rT<|nR<|nR<|bR<|nR<|nR<|bR<|nR<|qR (.tup [.nl,.i .i64 ((10:Int))]) (C1.tup (ZLe.cons (C1.nl' (show List.map c67 (V3 es).1=[]from ?g17)) (ZLe.cons (C1.eq (show AV.i .i64 10=AV.i .i64 (V3 es).2 from ?g16)) ZLe.nil)));rotate_left 2
 refine sK<|sn<|eX 3<|nE<|bH<|sn<|rG cx [7,8,29,30,31] [24,7,1008] (tT 0 (B5 (by omega) ?g18:AV.i .i64 (IntKind.i64.wrap (ii7+1))=AV.i .i64 (ii7+1)) z0) ?_;rotate_left
 refine sn<|nX ((ii7+1,a8,l9)) (show((↑(A31 es).length:Int)-(ii7+1)).toNat <((↑(A31 es).length:Int)-ii7).toNat from ?g19) (show Av4 (A31 es) (ii7+1) a8 l9 from ?g20);rotate_left 2
 refine sK<|sn<|rG cx [7,8,29,30,31] [24,7,1008] (fR 67 (fR 4 (fR 4 (fX c67 [a8[ii7.toNat]!] 4 (fP ((List.map c67 l9).length+(List.map c67 [a8[ii7.toNat]!]).length≤maxLen) ?g21 (fP (((List.map c67 l9).length+(List.map c67 [a8[ii7.toNat]!]).length)*(40:Nat)≤(140737488355328:Nat)) ?g22 (fM c67 l9 [a8[ii7.toNat]!] (oV 3 { rows:=some (List.map c67 (l9++[a8[ii7.toNat]!])) } z0)))))))) ?_;rotate_left 2
 refine bN<|sn<|rG cx [7,8,29,30,31] [24,7,1008] (tT 0 (B5 (by omega) ?g23:AV.i .i64 (IntKind.i64.wrap (ii7+1))=AV.i .i64 (ii7+1)) z0) ?_;rotate_left
 refine sn<|nX ((ii7+1,a8,l9++[a8[ii7.toNat]!])) (show((↑(A31 es).length:Int)-(ii7+1)).toNat <((↑(A31 es).length:Int)-ii7).toNat from ?g24) (show Av4 (A31 es) (ii7+1) a8 (l9++[a8[ii7.toNat]!])from ?g25);rotate_left 2
 refine eX 2<|nE<|nE<|bH<|sn<|sq<|rG cx [2,3] [1008] z0<|sn<|rT<|qR (.tup [.sl (List.map c67 l9),.i .i64 ((0:Int))]) (C1.tup (ZLe.cons (C1.eq (show AV.sl (List.map c67 l9)=AV.sl (List.map c67 (V3 es).1)from ?g27)) (ZLe.cons (C1.eq (show AV.i .i64 0=AV.i .i64 (V3 es).2 from ?g26)) ZLe.nil)));rotate_left 2
 rotate_left
 revert i0 hh2 hh3 hh4 h5 h6;rotate_left
 revert i0 hh2 hh3 hh4 h5 h6;rotate_left
 revert i0 hh2 hh3 hh4 h5 h6;rotate_left
 revert i0 hh2 hh3 hh4 h5;rotate_left
 revert i0 hh2 hh3 hh4 h5 ii7 a8 l9 h11 h12 h13 h14 h15 h16;rotate_left
 revert i0 hh2 hh3 hh4 h5 ii7 a8 l9 h11 h12 h13 h14 h15 h16;rotate_left
 revert i0 hh2 hh3 hh4 h5 ii7 a8 l9 h11 h12 h13 h14 h15 h16;rotate_left
 revert i0 hh2 hh3 hh4 h5 ii7 a8 l9 h11 h12 h13 h14 h15 h16 h18;rotate_left
 revert i0 hh2 hh3 hh4 h5 ii7 a8 l9 h11 h12 h13 h14 h15 h16 h18;rotate_left
 revert i0 hh2 hh3 hh4 h5 ii7 a8 l9 h11 h12 h13 h14 h15 h16 h18;rotate_left
 revert i0 hh2 hh3 hh4 h5 ii7 a8 l9 h11 h12 h13 h14 h15 h16 h18;rotate_left
 revert i0 hh2 hh3 hh4 h5 ii7 a8 l9 h11 h12 h13 h14 h15 h16 h19;rotate_left
 revert i0 hh2 hh3 hh4 h5 ii7 a8 l9 h11 h12 h13 h14 h15 h16 h19;rotate_left
 revert i0 hh2 hh3 hh4 h5 ii7 a8 l9 h11 h12 h13 h14 h15 h16 h19;rotate_left
 revert i0 hh2 hh3 hh4 h5 ii7 a8 l9 h11 h12 h13 h14 h15 h16 h19;rotate_left
 revert i0 hh2 hh3 hh4 h5 ii7 a8 l9 h11 h12 h13 h14 h15 h16 h19 h20;rotate_left
 revert i0 hh2 hh3 hh4 h5 ii7 a8 l9 h11 h12 h13 h14 h15 h16 h19 h20;rotate_left
 revert i0 hh2 hh3 hh4 h5 ii7 a8 l9 h11 h12 h13 h14 h15 h16 h19 h20;rotate_left
 revert i0 hh2 hh3 hh4 h5 ii7 a8 l9 h11 h12 h13 h14 h15 h16 h19 h20;rotate_left
 revert i0 hh2 hh3 hh4 h5 ii7 a8 l9 h11 h12 h13 h14 h15 h16 h19 h20;rotate_left
 revert i0 hh2 hh3 hh4 h5 ii7 a8 l9 h11 h12 h13 h14 h15 h16 h19;rotate_left
 revert i0 hh2 hh3 hh4 h5 ii7 a8 l9 h11 h12 h13 h14 h15 h16 h19;rotate_left
 revert i0 hh2 hh3 hh4 h5 ii7 a8 l9 h11 h12 h13 h14 h15 h16 h19;rotate_left
 revert i0 hh2 hh3 hh4 h5 ii7 a8 l9 h11 h12 h13 h14 h15 h16 h19;rotate_left
 revert i0 hh2 hh3 hh4 h5 ii7 a8 l9 h11 h12 h13 h14 h15 h16 h19;rotate_left
 revert i0 hh2 hh3 hh4 h5 ii7 a8 l9 h11 h12 h13 h14 h15 h16;rotate_left
 revert i0 hh2 hh3 hh4 h5 ii7 a8 l9 h11 h12 h13 h14 h15 h16;rotate_left
 case g1=>intro i h0 h1 h2 h3 h4;rw[Ag2 (by omega) h4 (fun j hj=>h2 j (by omega))]
 case g2=>intro i h0 h1 h2 h3 h4;rw[Ag2 (by omega) h4 (fun j hj=>h2 j (by omega))];rfl
 case g3 =>
  intro i h0 h1 h2 h3 h4
  refine⟨by omega,by omega,fun j hj=>?_⟩
  by_cases e:j=i.toNat
  ·rw[e];exact Classical.not_not.1 h4
  ·exact h2 j (by omega)
 case g4=>intro i h0 h1 h2 h3;exact⟨rfl,by omega,by omega,rfl,by simp⟩
 case g16=>intro i h0 h1 h2 h3 i7 a l k0 k1 k2 k3 k4 k5 k6 k7;subst k0;rw[A2l (fun j hj=>h2 j (by omega)),A7d k1 k3 (by omega) k6 k7]
 case g17=>intro i h0 h1 h2 h3 i7 a l k0 k1 k2 k3 k4 k5 k6 k7;subst k0;rw[A2l (fun j hj=>h2 j (by omega)),A7d k1 k3 (by omega) k6 k7];rfl
 case g20=>intro i h0 h1 h2 h3 i7 a l k0 k1 k2 k3 k4 k5 k6 k7;subst k0;exact⟨rfl,B3w k1 k3 (by omega) k4 k6 k7⟩
 case g25=>intro i h0 h1 h2 h3 i7 a l k0 k1 k2 k3 k4 k5 k6;subst k0;exact⟨rfl,B7q k1 k3 (by omega) k4 k6⟩
 case g26=>intro i h0 h1 h2 h3 i7 a l k0 k1 k2 k3 k4 k5;rw[A2l (fun j hj=>h2 j (by omega)),Av5 k1 k3 k2 (by omega)]
 case g27=>intro i h0 h1 h2 h3 i7 a l k0 k1 k2 k3 k4 k5;rw[A2l (fun j hj=>h2 j (by omega)),Av5 k1 k3 k2 (by omega)]
 all_goals intros
 all_goals (try subst_vars)
 all_goals first
  | omega
  | (simp only [List.length_map,List.length_append,List.length_cons,List.length_nil,Go.maxLen];omega)
  | exact H6 (by omega)
  | exact Nat.le_of_ble_eq_true rfl
  | exact⟨by omega,by omega,fun j hj=>by omega⟩
end Go.Proofs.YtokhjapfekbobaaGreat
namespace Go.Proofs.YtokhjapfekbobaaGreat
open Go.E
set_option maxRecDepth 100000
set_option maxHeartbeats 4000000
noncomputable def A9o(a b:Facts):Bool:=okF a && okF b
noncomputable def W7(f:Facts):Int:=if okF f=true then 0 else 1
def zeroF:Facts:=⟨[],⟨[],[]⟩,[]⟩
theorem H3{f:Facts}:okF f=true↔D9 f.adds=0∧f.gone=A3 f.gone∧E2 f.recs=0:=by rw[B9h,decide_eq_true_iff]
theorem Q2{a b:Facts}:A9o a b=true↔okF a=true∧okF b=true:=by unfold A9o;rw[Bool.and_eq_true]
end Go.Proofs.YtokhjapfekbobaaGreat
namespace Go.Proofs.YtokhjapfekbobaaGreat
open Go.E
set_option maxRecDepth 100000
set_option maxHeartbeats 4000000
theorem U3{f:Facts}:W7 f=0↔okF f=true:=by
 unfold W7
 by_cases h:okF f=true
 ·rw[if_pos h];exact⟨fun _=>h,fun _=>rfl⟩
 ·rw[if_neg h];exact⟨fun k=>by omega,fun k=>absurd k h⟩
theorem Am7(f:Facts)(hb:szF f):Con Tryz.prog 64 [.agg (c29 f)] (.i .i64 (W7 f)) :=
 by
 have no:(¬D9 f.adds=0∨¬f.gone=A3 f.gone∨¬E2 f.recs=0)↔¬ okF f=true:=by
  rw[H3]
  constructor
  ·rintro(h | h | h) k
   ·exact h k.1
   ·exact h k.2.1
   ·exact h k.2.2
  ·intro h
   by_cases a:D9 f.adds=0
   ·by_cases b:f.gone=A3 f.gone
    ·exact .inr (.inr fun c=>h ⟨a,b,c⟩)
    ·exact .inr (.inl b)
   ·exact .inl a
 refine sC A9 [.tmp 2] 19 Tryz.func64 ?_
 intro e0 cx
 refine sq<|rG cx [1] [1] z0<|sn<|sq<|sq<|B4 (σ':=⟨[(18,.b (decide (¬D9 f.adds=0∨¬f.gone=A3 f.gone∨¬E2 f.recs=0)))],[]⟩) ?_ ?_
 refine A4 (¬D9 f.adds=0) (fun h1=>?_) (fun h1=>?_)
 refine rG cx [18] [] (fT (A56 (f.adds)) (tT 3 (F4 h1:AV.b (D9 f.adds !=0)=AV.b true) (tD 15 true (¬D9 f.adds=0∨¬f.gone=A3 f.gone∨¬E2 f.recs=0) (by simp only [eq_false h1,tsl]) (oA 2 (.i .i64 (D9 f.adds)) z0)))) ?_
 exact⟨rfl,by kernel_rfl⟩
 refine A4 (¬f.gone=A3 f.gone) (fun h2=>?_) (fun h2=>?_)
 refine rg (A:=_∧(AV.b (D9 f.adds !=0)=AV.b (decide ¬D9 f.adds=0))∧_∧_∧_∧(AV.b true=AV.b (decide (¬D9 f.adds=0∨¬f.gone=A3 f.gone∨¬E2 f.recs=0)))) cx [(2,{ val:=some (.i .i64 (D9 f.adds)) }),(3,{ tell:=some (.b (decide ¬D9 f.adds=0)) }),(4,{ tell:=some (.b (false)) }),(7,{ val:=some (.b (decide (f.gone=A3 f.gone))),tell:=some (.b (false)) }),(15,{ tell:=some (.b (decide (¬D9 f.adds=0∨¬f.gone=A3 f.gone∨¬E2 f.recs=0))) })] [18] [] ⟨(A56 (f.adds)),(A7y),(A0 h1),(A0 h2),(A4w (f.gone) (by exact hb.1.1)),(by first | (simp only [eq_false h1,eq_false h2,tsl];done) | simp_all)⟩ ?_
 exact⟨rfl,by kernel_rfl⟩
 refine rG cx [18] [] (fT (A56 (f.adds)) (tN 3 (D9 f.adds) (0:Int) (tT 4 (A0 h1) (fT (A4w (f.gone) (by exact hb.1.1)) (tQ 8 (f.gone=A3 f.gone) (tT 9 (A0 h2) (fT (Ad7 (f.recs) (by exact B04 hb.2)) (tN 14 (E2 f.recs) (0:Int) (tT 15 (by first | (simp only [eq_false h1,eq_false h2,tsl];done) | simp_all:AV.b (decide ¬E2 f.recs=0)=AV.b (decide (¬D9 f.adds=0∨¬f.gone=A3 f.gone∨¬E2 f.recs=0))) (oA 2 (.i .i64 (D9 f.adds)) (oA 7 (.b (decide (f.gone=A3 f.gone))) (oA 13 (.i .i64 (E2 f.recs)) z0)))))))))))) ?_
 exact⟨rfl,by kernel_rfl⟩
 refine sn<|dC (¬D9 f.adds=0∨¬f.gone=A3 f.gone∨¬E2 f.recs=0) (fun h3=>?_) fun h3=>?_
 refine sq<|rG cx [2] [] z0<|sn<|rT<|nR<|qR (.i .i64 ((1:Int))) (.eq (by unfold W7;rw[if_neg (no.1 h3)]))
 refine sK<|sn<|sq<|rG cx [2] [] z0<|sn<|rT<|qR (.i .i64 ((0:Int))) (.eq (by unfold W7;rw[if_pos (Classical.not_not.1 fun k=>h3 (no.2 k))]))
theorem con57(a b:Facts)(ha:szF a)(hb:szF b):Con Tryz.prog 57 [.agg (c29 a),.agg (c29 b)] (.b (A9o a b)) :=
 by
 refine sC A9 [.tmp 4] 13 Tryz.func57 ?_
 intro e0 cx
 refine sq<|rG cx [2,3] [2,3] z0<|sn<|sq<|B4 (σ':=⟨[(4,.b (decide (W7 a=0∧W7 b=0)))],[]⟩) ?_ ?_
 refine A4 (W7 a=0) (fun h_1=>?_) (fun h_1=>?_)
 refine rG cx [4] [] (fT (Am7 (a) (by(with_reducible assumption))) (tT 2 (A6 h_1) (fT (Am7 (b) (by(with_reducible assumption))) (tB 6 (W7 b=0) (tD 8 (decide (W7 b=0)) (W7 a=0∧W7 b=0) (by simp only [eq_true h_1,tsl]) (oA 1 (.i .i64 (W7 a)) (oA 5 (.i .i64 (W7 b)) z0))))))) ?_
 exact⟨rfl,by kernel_rfl⟩
 refine rG cx [4] [] (fT (Am7 (a) (by(with_reducible assumption))) (tT 2 (A0 h_1) (tD 8 false (W7 a=0∧W7 b=0) (by simp only [eq_false h_1,tsl]) (oA 1 (.i .i64 (W7 a)) z0)))) ?_
 exact⟨rfl,by kernel_rfl⟩
 refine sn<|rT<|qR (.b (decide (W7 a=0∧W7 b=0))) (.eq ?g0);rotate_left
 case g0 =>
  refine congrArg AV.b ?_
  rw[Bool.eq_iff_iff,decide_eq_true_iff,U3,U3,Q2]
end Go.Proofs.YtokhjapfekbobaaGreat
namespace Go.Proofs.YtokhjapfekbobaaGreat
open Go.E
set_option maxRecDepth 100000
set_option maxHeartbeats 4000000
def F5(es:List Entry):Past×Int:=if okL es=true then(F6 (ofT (es.map fun e=>e.dot)),0)else(⟨[],[]⟩,1)
def J8(es:List Entry)(p:Past)(t:Bool):List Entry×Int:=if okL es=true∧p=A3 p then(es.filter (fun e=>C8 p e.dot == t),0)else([],1)
theorem A95{es:List Entry}(h:¬ D9 es=0):F5 es=(⟨[],[]⟩,1):=by unfold F5;rw[if_neg (As4 h)]
theorem Av6{es:List Entry}(h:D9 es=0):F5 es=(F6 (ofT (es.map fun e=>e.dot)),0):=by unfold F5;rw[if_pos (O9 h)]
theorem Av7{es:List Entry}{p:Past}{t:Bool}(h:¬ D9 es=0∨¬ p=A3 p):J8 es p t=([],1):=by
 unfold J8
 rw[if_neg]
 rintro⟨h1,h2⟩
 exact h.elim (fun k=>As4 k h1) (fun k=>k h2)
theorem Av8{es:List Entry}{p:Past}{t:Bool}(h:D9 es=0)(h2:p=A3 p):J8 es p t=(es.filter (fun e=>C8 p e.dot == t),0):=by unfold J8;rw[if_pos ⟨O9 h,h2⟩]
def Ag3(es:List Entry)(i:Int)(l:List Dot):Prop:=l.length=es.length∧l.take i.toNat=(es.take i.toNat).map fun e=>e.dot
def invD(es:List Entry)(i:Int)(l:List Dot):Prop:=0≤i∧i≤es.length∧l.length=es.length∧Ag3 es i l
def decD(es:List Entry)(i:Int)(l:List Dot):Nat:=(es.length-i).toNat
theorem Am8{es:List Entry}{i:Int}{l:List Dot}(h0:0≤i)(h:i < es.length)(hs:Ag3 es i l):Ag3 es (i+1) (l.set i.toNat es[i.toNat]!.dot):=by
 obtain⟨h1,h2⟩:=hs
 refine⟨by rw[List.length_set];exact h1,?_⟩
 rw[← D4 h0 h,List.map_append,← h2,show(i+1).toNat=i.toNat+1 by omega,List.take_succ_eq_append_getElem (by rw[List.length_set];omega)]
 simp [List.take_set_of_le]
theorem B0f{es:List Entry}{i:Int}{l:List Dot}(h:¬ i < es.length)(hs:Ag3 es i l):l=es.map fun e=>e.dot:=by
 obtain⟨h1,h2⟩:=hs
 rwa [List.take_of_length_le (by omega),List.take_of_length_le (by omega)]at h2
theorem ok_len{es:List Entry}(h:¬ ¬ D9 es=0):es.length≤16000000000:=A2y (O9 (Classical.not_not.1 h))
theorem A5p{es:List Entry}{p:Past}(h:¬(¬ D9 es=0∨¬ p=A3 p)):D9 es=0∧p=A3 p:=⟨Classical.not_not.1 fun k=>h (.inl k),Classical.not_not.1 fun k=>h (.inr k)⟩
theorem B3x(es:List Entry):(F5 es).1.cloud.length≤8000000000∧(F5 es).1.vec.length≤16:=by
 unfold F5
 split
 ·exact P9 _
 ·simp
theorem Bj6(es:List Entry):Con Tryz.prog 44 [.sl (es.map c67)] (.tup [.agg (c26 (F5 es).1),.i .i64 (F5 es).2]) :=
 by
 refine lN 0 c67 (es) Tryz.func44 fun hl_0=>sC A9 [.cell 2 26,.tmp 3] 29 Tryz.func44 ?_
 intro e0 cx
 refine sq<|rG cx [0,2] [2] z0<|sn<|sq<|sq<|rG cx [0,2,9] [2] (fT (A56 (es)) (tN 2 (D9 es) (0:Int) (oA 1 (.i .i64 (D9 es)) z0)))<|sn<|dC (¬D9 es=0) (fun hh0=>?_) fun hh0=>?_
 refine sq<|rG cx [2,3] [2] z0<|sn<|rT<|nR<|qR (.tup [.agg [.nl,.nl],.i .i64 ((1:Int))]) (C1.tup (ZLe.cons (C1.agg (ZLe.cons (C1.nl' (show List.map c3 (F5 es).1.vec=[]from(by rw[A95 hh0];rfl))) (ZLe.cons (C1.nl' (show List.map B3 (F5 es).1.cloud=[]from(by rw[A95 hh0];rfl))) ZLe.nil))) (ZLe.cons (C1.eq (show AV.i .i64 1=AV.i .i64 (F5 es).2 from(by rw[A95 hh0]))) ZLe.nil)))
 refine sK<|sn<|sq<|rG cx [0,2,4] [2,13] (tL 1 c67 es (fR (↑es.length:Int) (fR (↑es.length:Int) (fP ((16:Nat)*es.length≤(281474976710656:Nat)) (by have:=ok_len hh0;omega) (fP (es.length≤maxLen) (by(simp only [Go.maxLen];omega)) (fR 2 (fP (ZLe [AV.i .i64 (0:Int),AV.i .i64 (0:Int)] [AV.i .i64 { rep:=(0:Int),num:=(0:Int):Dot }.rep,AV.i .i64 { rep:=(0:Int),num:=(0:Int):Dot }.num]) (by(with_reducible exact ZLe.refl _)) (fP (List.replicate es.length [AV.i .i64 { rep:=(0:Int),num:=(0:Int):Dot }.rep,AV.i .i64 { rep:=(0:Int),num:=(0:Int):Dot }.num]=List.map c65 (List.replicate es.length { rep:=(0:Int),num:=(0:Int):Dot })) (by(with_reducible refine Aj2 ?_;kernel_rfl)) (oV 2 { row:=[.i .i64 ({ rep:=(0:Int),num:=(0:Int):Dot }.rep),.i .i64 ({ rep:=(0:Int),num:=(0:Int):Dot }.num)],rows:=some (List.map c65 (List.replicate es.length { rep:=(0:Int),num:=(0:Int):Dot })),n:=es.length } z0))))))))) ?_
 refine sn<|sq<|sq<|rG cx [2,4,14,15,16] [2,13] (tL 1 c67 es z0)<|sn<|bL 0<|sL (X:=Int×List Dot) (fun x=>⟨[(2,.ptr (2) (0) (0) (0)),(4,.own 13 0),(14,.sl (List.map c67 es)),(15,.i .i64 ((↑es.length:Int))),(16,.i .i64 (x.1))],[(2,⟨0,26,.var [.nl,.nl]⟩),(13,⟨0,65,.row 2 (List.map c65 x.2)⟩)]⟩) (fun x ↦ decD es x.1 x.2) (fun x ↦ invD es x.1 x.2) [2,4,14,15,16] [2,13] (((0:Int),List.replicate es.length { rep:=(0:Int),num:=(0:Int):Dot })) (show invD es (0:Int) (List.replicate es.length { rep:=(0:Int),num:=(0:Int):Dot })from(by exact⟨by omega,by omega,by simp,by simp,by simp⟩)) ?_
 rintro⟨i1,l2⟩ h_3
 obtain⟨hh4,h5,h6,h7⟩:0≤i1∧i1≤(↑es.length:Int)∧l2.length=es.length∧Ag3 es i1 l2:=h_3
 refine rE cx [2,4,14,15,16,17] [2,13] (zB 0 (i1 <(↑es.length:Int))) (fun h8=>?_) fun h8=>?_
 refine sK<|sn<|sq<|bL 1<|sq<|rG cx [2,4,14,15,16,6,5] [2,13,6] (fA (0≤i1) (fG c67 es i1.toNat (fR 4 (fN 4 4 (oR 1 (c67 es[i1.toNat]!) z0)))))<|sn<|rG cx [2,4,14,15,16] [2,13] (fA (0≤i1) (fP (i1.toNat <(List.map c65 l2).length) (by(first | omega | (simp only [List.length_map];omega))) (fR 2 (fG c65 l2 i1.toNat (fR 2 (fP (0+(2:Nat)≤2) (by(first | omega | (simp only [List.length_map];omega))) (fP ((List.map c65 l2).set i1.toNat (List.take (0) (c65 l2[i1.toNat]!)++D1 (AV.agg [AV.i .i64 es[i1.toNat]!.dot.rep,AV.i .i64 es[i1.toNat]!.dot.num])++List.drop (0+(2:Nat)) (c65 l2[i1.toNat]!))=List.map c65 (l2.set i1.toNat es[i1.toNat]!.dot)) (by(with_reducible refine A2u ?_;kernel_rfl)) (oV 5 { row:=(c65 l2[i1.toNat]!),rows:=some (List.map c65 (l2.set i1.toNat es[i1.toNat]!.dot)) } z0)))))))) ?_
 refine bN<|sn<|rG cx [2,4,14,15,16] [2,13] (tW 0 (i1+1) z0)<|sn<|nX ((i1+1,l2.set i1.toNat es[i1.toNat]!.dot)) (show((↑es.length:Int)-(i1+1)).toNat <((↑es.length:Int)-i1).toNat from(by omega)) (show invD es (i1+1) (l2.set i1.toNat es[i1.toNat]!.dot)from(by exact⟨by omega,by omega,by rw[List.length_set];exact h6,Am8 hh4 h8 h7⟩))
 refine eX 0<|nE<|nE<|bH<|sn<|sq<|rG cx [2,3] [2] (fT (con93 (l2) (by have:=ok_len hh0;omega)) (oA 1 (.agg [.sl (List.map c3 (F6 (ofT l2)).vec),.sl (List.map B3 (F6 (ofT l2)).cloud)]) z0)) ?_
 refine sn<|rT<|qR (.tup [.agg [.sl (List.map c3 (F6 (ofT l2)).vec),.sl (List.map B3 (F6 (ofT l2)).cloud)],.i .i64 ((0:Int))]) (C1.tup (ZLe.cons (C1.eq (show AV.agg [AV.sl (List.map c3 (F6 (ofT l2)).vec),AV.sl (List.map B3 (F6 (ofT l2)).cloud)]=AV.agg [AV.sl (List.map c3 (F5 es).1.vec),AV.sl (List.map B3 (F5 es).1.cloud)]from(by rw[Av6 (Classical.not_not.1 hh0),B0f h8 h7]))) (ZLe.cons (C1.eq (show AV.i .i64 0=AV.i .i64 (F5 es).2 from(by rw[Av6 (Classical.not_not.1 hh0)]))) ZLe.nil)))
theorem B9i(e:Entry)(p:Past):Con Tryz.prog 116 [.agg (c67 e),.eptr (c26 p)] (.b (C8 p e.dot == false)) :=
 by
 refine sC A9 [.tmp 3] 9 Tryz.func116 ?_
 intro e0 cx
 refine sq<|rG cx [1,2] [2] z0<|sn<|sq<|rG cx [3] [] (fN 2 2 (fT (Bc8 (p) (e.dot)) (tT 4 (G4:(AV.b !C8 p e.dot)=AV.b (decide ¬C8 p e.dot=true)) (oA 3 (.b (C8 p e.dot)) z0))))<|sn<|rT<|qR (.b (decide ¬C8 p e.dot=true)) (.eq ?g0);rotate_left
 case g0=>exact(by cases C8 p e.dot <;> rfl)
theorem B7r(es:List Entry)(p:Past)(hs:es.length*40≤140737488351232):Con Tryz.prog 115 [.sl (es.map c67),.fn (.func 116) [] [.eptr (c26 p)]] (.sl ((es.filter (fun e=>C8 p e.dot == false)).map c67)) :=
 by
 refine lN 0 c67 (es) Tryz.func115 fun hl_0=>sC A9 [.tmp 4] 23 Tryz.func115 ?_
 intro e0 cx
 refine sq<|rG cx [0,1] [] z0<|sn<|sq<|rG cx [0,1,5] [] z0<|sn<|sq<|sq<|rG cx [1,5,8,9,10] [] (tL 1 c67 es z0)<|sn<|bL 0<|G3 5 1005 67 4 (σ':=⟨[(1,.fn (Fn.func (116:FuncId)) [] [.eptr [.sl (List.map c3 p.vec),.sl (List.map B3 p.cloud)]]),(5,.own 1005 0),(8,.sl (List.map c67 es)),(9,.i .i64 ((↑es.length:Int))),(10,.i .i64 ((0:Int)))],[(1005,⟨0,67,.row 4 (List.map c67 [])⟩)]⟩) (by kernel_rfl)<|sL (X:=Int×List Entry) (fun x=>⟨[(1,.fn (Fn.func (116:FuncId)) [] [.eptr [.sl (List.map c3 p.vec),.sl (List.map B3 p.cloud)]]),(5,.own 1005 0),(8,.sl (List.map c67 es)),(9,.i .i64 ((↑es.length:Int))),(10,.i .i64 (x.1))],[(1005,⟨0,67,.row 4 (List.map c67 x.2)⟩)]⟩) (fun x ↦ decP es x.1 x.2) (fun x ↦ Be0 (fun e ↦ C8 p e.dot == false) es x.1 x.2) [1,5,8,9,10] [1005] (((0:Int),[])) (show Be0 (fun e ↦ C8 p e.dot == false) es (0:Int) []from(by exact(B2w _ _))) ?_
 rintro⟨i0,l1⟩ h_2
 obtain⟨hh3,hh4,hh5,h6⟩:0≤i0∧i0≤(↑es.length:Int)∧l1=List.filter (fun e ↦ C8 p e.dot == false) (List.take i0.toNat es)∧(↑l1.length:Int)≤i0:=h_2
 refine rE cx [1,5,8,9,10,11] [1005] (zB 0 (i0 <(↑es.length:Int))) (fun h7=>?_) fun h7=>?_
 refine sK<|sn<|sq<|bL 1<|sq<|rG cx [1,5,8,9,10,7] [1005,7] (fA (0≤i0) (fG c67 es i0.toNat (fR 4 (fN 4 4 (oR 0 (c67 es[i0.toNat]!) z0)))))<|sn<|sq<|rG cx [1,5,8,9,10,7,16] [1005,7] (fT (B9i (es[i0.toNat]!) (p)) (oA 2 (Bm8 (B9i (es[i0.toNat]!) (p))) z0))<|sn<|A4i (C8 p es[i0.toNat]!.dot == false) (by kernel_rfl) (by kernel_rfl) (fun h8=>?_) (fun h8=>?_)
 refine rG cx [1,5,8,9,10] [1005] (fR 67 (fR 4 (fR 4 (fX c67 [es[i0.toNat]!] 4 (fS c67 l1 c67 [es[i0.toNat]!] (fP (((List.map c67 l1).length+(List.map c67 [es[i0.toNat]!]).length)*(40:Nat)≤(140737488355328:Nat)) (by(simp only [Go.maxLen,List.length_map,List.length_append,List.length_cons,List.length_nil];omega)) (fM c67 l1 [es[i0.toNat]!] (oV 3 { rows:=some (List.map c67 (l1++[es[i0.toNat]!])) } z0))))))))<|bN<|sn<|rG cx [1,5,8,9,10] [1005] (tW 0 (i0+1) z0)<|sn<|nX ((i0+1,l1++[es[i0.toNat]!])) (show((↑es.length:Int)-(i0+1)).toNat <((↑es.length:Int)-i0).toNat from(by omega)) (show Be0 (fun e ↦ C8 p e.dot == false) es (i0+1) (l1++[es[i0.toNat]!])from(by exact(B6f hh3 hh5 h6 h7 h8)))
 refine sK<|bN<|sn<|rG cx [1,5,8,9,10] [1005] (tW 0 (i0+1) z0)<|sn<|nX ((i0+1,l1)) (show((↑es.length:Int)-(i0+1)).toNat <((↑es.length:Int)-i0).toNat from(by omega)) (show Be0 (fun e ↦ C8 p e.dot == false) es (i0+1) l1 from(by exact(B2x hh3 hh5 h6 h7 (by simpa using h8))))
 refine eX 0<|nE<|nE<|bH<|sn<|sq<|rG cx [4] [1005] z0<|sn<|rT<|qR (.sl (List.map c67 l1)) (.eq (by exact(by rw[B2y hh5 h7])))
theorem con65(es:List Entry)(p:Past)(hb:p.cloud.length*16≤140737488350000):Con Tryz.prog 65 [.sl (es.map c67),.agg (c26 p)] (.tup [.sl ((J8 es p false).1.map c67),.i .i64 (J8 es p false).2]) :=
 by
 refine lN 0 c67 (es) Tryz.func65 fun hl_0=>sC A9 [.tmp 4,.tmp 5] 17 Tryz.func65 ?_
 intro e0 cx
 refine sq<|rG cx [0,3] [3] z0<|sn<|sq<|sq<|B4 (σ':=⟨[(0,.sl (List.map c67 es)),(3,.ptr (3) (0) (0) (0)),(13,.b (decide (¬D9 es=0∨¬p=A3 p)))],[(3,⟨0,26,.var [.sl (List.map c3 p.vec),.sl (List.map B3 p.cloud)]⟩)]⟩) ?_ ?_
 refine A4 (¬D9 es=0) (fun h_1=>?_) (fun h_1=>?_)
 refine rG cx [0,3,13] [3] (fT (A56 (es)) (tT 2 (F4 h_1:AV.b (D9 es !=0)=AV.b true) (tD 7 true (¬D9 es=0∨¬p=A3 p) (by simp only [eq_false h_1,tsl]) (oA 1 (.i .i64 (D9 es)) z0)))) ?_
 exact⟨rfl,by kernel_rfl⟩
 refine rG cx [0,3,13] [3] (fT (A56 (es)) (tN 2 (D9 es) (0:Int) (tT 3 (A0 h_1) (fT (A4w (p) (by(with_reducible assumption))) (tQ 6 (p=A3 p) (tT 7 (by first | (simp only [eq_false h_1,tsl];done) | simp_all:AV.b (decide ¬p=A3 p)=AV.b (decide (¬D9 es=0∨¬p=A3 p))) (oA 1 (.i .i64 (D9 es)) (oA 5 (.b (decide (p=A3 p))) z0)))))))) ?_
 exact⟨rfl,by kernel_rfl⟩
 refine sn<|dC (¬D9 es=0∨¬p=A3 p) (fun h2=>?_) fun h2=>?_
 refine sq<|rG cx [4,5] [] z0<|sn<|rT<|nR<|qR (.tup [.nl,.i .i64 ((1:Int))]) (C1.tup (ZLe.cons (C1.nl' (show List.map c67 (J8 es p false).1=[]from(by exact(by rw[Av7 h2];rfl)))) (ZLe.cons (C1.eq (show AV.i .i64 1=AV.i .i64 (J8 es p false).2 from(by exact(by rw[Av7 h2])))) ZLe.nil)))
 refine sK<|sn<|sq<|rG cx [4,5] [] (fT (B7r (es) (p) (by exact(by have:=A2y (O9 (A5p h2).1);omega))) (oA 2 (.sl (List.map c67 (List.filter (fun e ↦ C8 p e.dot == false) es))) z0)) ?_
 refine sn<|rT<|qR (.tup [.sl (List.map c67 (List.filter (fun e ↦ C8 p e.dot == false) es)),.i .i64 ((0:Int))]) (C1.tup (ZLe.cons (C1.eq (show AV.sl (List.map c67 (List.filter (fun e ↦ C8 p e.dot == false) es))=AV.sl (List.map c67 (J8 es p false).1)from(by exact(by rw[Av8 (A5p h2).1 (A5p h2).2])))) (ZLe.cons (C1.eq (show AV.i .i64 0=AV.i .i64 (J8 es p false).2 from(by exact(by rw[Av8 (A5p h2).1 (A5p h2).2])))) ZLe.nil)))
end Go.Proofs.YtokhjapfekbobaaGreat
namespace Go.Proofs.YtokhjapfekbobaaGreat
open Go.E
set_option maxRecDepth 100000
set_option maxHeartbeats 4000000
theorem B3y(r:Record):(⟨r.sku,r.past⟩:Record)=r:=rfl
end Go.Proofs.YtokhjapfekbobaaGreat
namespace Go.Proofs.YtokhjapfekbobaaGreat
open Go.E
set_option maxRecDepth 100000
set_option maxHeartbeats 4000000
open Go Go.Lib Go.RowKit Go.Proofs
set_option maxHeartbeats 4000000 in
theorem B3z (n:Nat) (h0:0 < n) (hb:n*40≤140737488351232) (w:World):Calls Tryz.prog 152 #[.slice none 0 0,.int .i64 n] w fun e w' =>
  ∃ cap cells,e=.returned (.slice (some ⟨w.heap.size,0,none⟩) 0 cap)∧w'.heap[w.heap.size]?=some (.cells cells 67 (0,0))∧cells.size=cap*4∧cap≤maxLen∧Below w.heap.size w w':=by
 obtain⟨i,z,hi,hi1,hi2,hz,hzs⟩:∃(i:TypeInfo) (z:Value),Tryz.prog.info? 67=some i∧i.size=4∧i.bytes=40∧i.zero=some z∧z.cells.size=4 :=
  ⟨tiE,tiE.zero.get!,by kernel_rfl,by kernel_rfl,by kernel_rfl,by kernel_rfl,by kernel_rfl⟩
 have happ:=Lib.run_append_nil_zeros (P:=Tryz.prog) w 22 3 22 67 i z .i64 .i64 Tryz.underlying22 Tryz.underlying3 hi hz n h0 (by omega) (by omega) (by rw[hi2];omega)
 generalize hcap:grownCap w n 0 67=cap2 at happ
 have hcapge:n≤cap2:=by rw[← hcap];exact grownCap_ge w _ 0 67
 have hcaple:cap2≤maxLen:=by rw[← hcap];exact grownCap_le_maxLen w _ 0 67 (by unfold maxLen;omega)
 generalize hZ:(Builtin.zeroCells z.cells n++Builtin.zeroCells z.cells (cap2-n))=Z at happ
 have hZs:Z.size=cap2*4:=by rw[← hZ];simp [size_zeroCells,hzs];omega
 clear hcap hZ
 go_enter Tryz.func152,Tryz.ntmps152
 go_wp2_with (at_builtin;refine Lib.wpList_append_run _ rfl _ _ _ _ rfl _ _ rfl rfl _ _ happ ?_)
 go_ret
 exact⟨cap2,Z,rfl,heap_alloc_new w _,hZs,hcaple,⟨rfl,rfl,rfl,by simp,fun k hk=>Below.heap_alloc w _ k hk⟩⟩
set_option maxHeartbeats 4000000 in
theorem B40 (w:World):Calls Tryz.prog 152 #[.slice none 0 0,.int .i64 0] w fun e w'=>e=.returned (.slice none 0 0)∧w'=w:=by
 go_enter Tryz.func152,Tryz.ntmps152
 go_wp2
 go_ret
 exact⟨rfl,rfl⟩
theorem con152(n:Int)(h0:0≤n)(hb:n*40≤140737488351232):A3s Tryz.prog 152 [.nl,.i .i64 n] 67 (.row 4 (([]:List Entry).map c67)):=by
 refine⟨⟨_,Tryz.func152,by kernel_rfl,by kernel_rfl⟩,fun w S0 vs hS hl hv=>?_⟩
 obtain⟨v,u,rfl⟩:∃ v u,vs=[v,u]:=by
  match vs,hl with
  | [v,u],_=>exact⟨v,u,rfl⟩
 have h1:=hv 0 _ v rfl rfl
 have h2:=hv 1 _ u rfl rfl
 cases h1
 cases h2
 by_cases hn:n=0
 ·subst hn
  refine(B40 w).mono ?_
  rintro e w' ⟨rfl,rfl⟩
  exact⟨_,rfl,⟨fun r hr=>by simp at hr,[],World.ownsRow_nil _ _ _ _,fun u hu=>by simp at hu,fun j b u hb=>by simp at hb⟩,Below.refl _ _⟩
 ·obtain⟨m,rfl⟩:∃ m:Nat,n=m:=⟨n.toNat,by omega⟩
  refine(B3z m (by omega) (by omega) w).mono ?_
  rintro e w' ⟨cap,cells,rfl,g1,g2,g3,g4⟩
  exact⟨_,rfl,⟨fun r hr=>by simp at hr,[],⟨by simp,.inr ⟨w.heap.size,cap,cells,rfl,Nat.le_refl _,g1,Nat.zero_le _,g3,g2,by simp⟩⟩,fun u hu=>by simp at hu,fun j b u hb=>by simp at hb⟩,g4⟩
def c22(l:List Entry):List AV:=[.sl (l.map c67)]
section
variable {α : Type}
def B4n(ss:List (List α))(n:Int)(i:Int):Prop:=n=((ss.take i.toNat).flatten.length:Int)
def A5q(ss:List (List α))(i:Int)(l:List α):Prop:=l=(ss.take i.toNat).flatten
def A3i(ss:List (List α))(n i:Int):Prop:=0≤i∧i≤ss.length∧0≤n∧n≤140737488351232∧B4n ss n i
def B9j(ss:List (List α))(n i:Int):Nat:=(ss.length-i).toNat
def A5r(ss:List (List α))(i:Int)(l:List α):Prop:=0≤i∧i≤ss.length∧A5q ss i l
def B9k(ss:List (List α))(i:Int)(l:List α):Nat:=(ss.length-i).toNat
theorem Am9(ss:List (List α))(i:Nat):(ss.take i).flatten.length≤ss.flatten.length:=by
 have h:(ss.take i).flatten++(ss.drop i).flatten=ss.flatten:=by rw[← List.flatten_append,List.take_append_drop]
 rw[← h,List.length_append]
 omega
theorem A2m{ss:List (List α)}{i:Int}(h0:0≤i)(h:i < ss.length):(ss.take (i+1).toNat).flatten=(ss.take i.toNat).flatten++ss[i.toNat]!:=by
 rw[← D4 h0 h,List.flatten_append]
 simp
theorem An0{ss:List (List α)}{n i:Int}(h0:0≤i)(h:i < ss.length)(hs:B4n ss n i):n+ss[i.toNat]!.length≤ss.flatten.length:=by
 have h1:=Am9 ss (i+1).toNat
 rw[A2m h0 h,List.length_append]at h1
 unfold B4n at hs
 omega
theorem A5s(ss:List (List α)):A3i ss 0 0:=⟨by omega,by omega,by omega,by omega,by simp [B4n]⟩
theorem A5t{ss:List (List α)}{n i:Int}(hb:ss.flatten.length≤140737488351232)(h0:0≤i)(h:i < ss.length)(hn:0≤n)(hs:B4n ss n i):A3i ss (n+ss[i.toNat]!.length) (i+1):=by
 have:=An0 h0 h hs
 refine⟨by omega,by omega,by omega,by omega,?_⟩
 unfold B4n at *
 rw[A2m h0 h,List.length_append]
 omega
theorem B41{ss:List (List α)}{n i:Int}(hs:B4n ss n i):n≤ss.flatten.length:=by
 have:=Am9 ss i.toNat
 unfold B4n at hs
 omega
theorem A96{ss:List (List α)}{i:Int}{l:List α}(h0:0≤i)(h:i < ss.length)(hs:A5q ss i l):l.length+ss[i.toNat]!.length≤ss.flatten.length:=by
 have h1:=Am9 ss (i+1).toNat
 rw[A2m h0 h,List.length_append]at h1
 unfold A5q at hs
 rw[hs]
 omega
theorem A5u{ss:List (List α)}{i:Int}{l:List α}(h0:0≤i)(h:i < ss.length)(hs:A5q ss i l):A5r ss (i+1) (l++ss[i.toNat]!) :=
 ⟨by omega,by omega,by unfold A5q at *;rw[A2m h0 h,hs]⟩
theorem Ag4{ss:List (List α)}{i:Int}{l:List α}(h:¬ i < ss.length)(hs:A5q ss i l):l=ss.flatten:=by
 unfold A5q at hs
 rw[hs,List.take_of_length_le (by omega)]
end
theorem con108(ss:List (List Entry))(hb:ss.flatten.length*40≤140737488351232):A3s Tryz.prog 108 [.sl (ss.map c22)] 67 (.row 4 (ss.flatten.map c67)) :=
 by
 refine A1u 0 (c22) (ss) (by kernel_rfl) Tryz.func108 (by kernel_rfl) fun hl_0=>A84 A9 (by kernel_rfl) (.tmp 2) 36 Tryz.func108 (by kernel_rfl) (by kernel_rfl) ?_
 intro e0 cx
 refine sq<|rG cx [0] [] z0<|sn<|sq<|rG cx [0,3] [] z0<|sn<|sq<|sq<|rG cx [0,3,9,10,11] [] (tL 1 c22 ss z0)<|sn<|bL 0<|sL (X:=Int×Int) (fun x=>⟨[(0,.sl (List.map c22 ss)),(3,.i .i64 (x.1)),(9,.sl (List.map c22 ss)),(10,.i .i64 ((↑ss.length:Int))),(11,.i .i64 (x.2))],[]⟩) (fun x ↦ B9j ss x.1 x.2) (fun x ↦ A3i ss x.1 x.2) [0,3,9,10,11] [] (((0:Int),(0:Int))) (show A3i ss (0:Int) (0:Int)from(by exact A5s ss)) ?_
 rintro⟨n0,i1⟩ h_2
 obtain⟨hh3,hh4,hh5,hh6,h7⟩:0≤i1∧i1≤(↑ss.length:Int)∧0≤n0∧n0≤140737488351232∧B4n ss n0 i1:=h_2
 refine rE cx [0,3,9,10,11,12] [] (zB 0 (i1 <(↑ss.length:Int))) (fun h8=>?_) fun h8=>?_
 refine sK<|sn<|sq<|bL 1<|sq<|rG cx [0,3,9,10,11,5] [] (fA (0≤i1) (fG c22 ss i1.toNat (fR 1 (oR 0 (c22 ss[i1.toNat]!) z0))))<|sn<|sq<|rG cx [0,3,9,10,11] [] (tL 2 c67 ss[i1.toNat]! (tT 3 (B5 (by omega) (by have:=An0 hh3 h8 h7;omega):AV.i .i64 (IntKind.i64.wrap (n0+(↑ss[i1.toNat]!.length:Int)))=AV.i .i64 (n0+(↑ss[i1.toNat]!.length:Int))) z0)) ?_
 refine sn<|sq<|rG cx [0,3,9,10,11,20] [] (tB 1 (n0+(↑ss[i1.toNat]!.length:Int) <(0:Int)) z0)<|sn<|Ab5 (n0+(↑ss[i1.toNat]!.length:Int) <(0:Int)) (by kernel_rfl) (by kernel_rfl) (fun h9=>absurd h9 (by omega)) (fun h9=>?_)
 refine sK<|bN<|sn<|rG cx [0,3,9,10,11] [] (tW 0 (i1+1) z0)<|sn<|nX ((n0+(↑ss[i1.toNat]!.length:Int),i1+1)) (show((↑ss.length:Int)-(i1+1)).toNat <((↑ss.length:Int)-i1).toNat from(by omega)) (show A3i ss (n0+(↑ss[i1.toNat]!.length:Int)) (i1+1)from(by exact A5t (by omega) hh3 h8 hh5 h7))
 refine eX 0<|nE<|nE<|bH<|sn<|sq<|rG cx [0,6] [24] (fT (con152 (n0) (by(with_reducible assumption)) (by have:=B41 h7;omega)) (oV 1 { val:=some (.own (67:Nat) (4:Nat)),rows:=some (List.map c67 []) } z0)) ?_
 refine sn<|sq<|sq<|rG cx [6,25,26,27] [24] (tL 1 c22 ss z0)<|sn<|bL 2<|sL (X:=Int×List Entry) (fun x=>⟨[(6,.own 24 0),(25,.sl (List.map c22 ss)),(26,.i .i64 ((↑ss.length:Int))),(27,.i .i64 (x.1))],[(24,⟨0,67,.row 4 (List.map c67 x.2)⟩)]⟩) (fun x ↦ B9k ss x.1 x.2) (fun x ↦ A5r ss x.1 x.2) [6,25,26,27] [24] (((0:Int),[])) (show A5r ss (0:Int) []from(by exact⟨by omega,by omega,by simp [A5q]⟩)) ?_
 rintro⟨i10,l11⟩ h_12
 obtain⟨h13,h14,h15⟩:0≤i10∧i10≤(↑ss.length:Int)∧A5q ss i10 l11:=h_12
 refine rE cx [6,25,26,27,28] [24] (zB 0 (i10 <(↑ss.length:Int))) (fun h16=>?_) fun h16=>?_
 refine sK<|sn<|sq<|bL 3<|sq<|rG cx [6,25,26,27,8] [24] (fA (0≤i10) (fG c22 ss i10.toNat (fR 1 (oR 0 (c22 ss[i10.toNat]!) z0))))<|sn<|rG cx [6,25,26,27] [24] (fR 67 (fR 4 (fR 4 (fX c67 ss[i10.toNat]! 4 (fP ((List.map c67 l11).length+(List.map c67 ss[i10.toNat]!).length≤maxLen) (by have:=A96 h13 h16 h15;simp only [List.length_map,Go.maxLen];omega) (fP (((List.map c67 l11).length+(List.map c67 ss[i10.toNat]!).length)*(40:Nat)≤(140737488355328:Nat)) (by have:=A96 h13 h16 h15;simp only [List.length_map];omega) (fM c67 l11 ss[i10.toNat]! (oV 2 { rows:=some (List.map c67 (l11++ss[i10.toNat]!)) } z0)))))))) ?_
 refine bN<|sn<|rG cx [6,25,26,27] [24] (tW 0 (i10+1) z0)<|sn<|nX ((i10+1,l11++ss[i10.toNat]!)) (show((↑ss.length:Int)-(i10+1)).toNat <((↑ss.length:Int)-i10).toNat from(by omega)) (show A5r ss (i10+1) (l11++ss[i10.toNat]!)from(by exact A5u h13 h16 h15))
 refine eX 2<|nE<|nE<|bH<|sn<|sq<|rG cx [2] [24] z0<|sn<|rT<|A3d (rows':=(List.map c67 l11)) .ret (.inr rfl) 2 24 0 (by kernel_rfl) (by kernel_rfl) (by kernel_rfl) (by rw[Ag4 h16 h15])
def G0(a b:List Entry):List Entry×Int:=if okL a=true∧okL b=true then A1g (A31 (a++b))else([],1)
theorem Av9{a b:List Entry}(h:¬ D9 a=0∨¬ D9 b=0):G0 a b=([],1):=by
 unfold G0
 rw[if_neg]
 rintro⟨h1,h2⟩
 exact h.elim (fun k=>As4 k h1) (fun k=>As4 k h2)
theorem A3z{a b:List Entry}(h1:D9 a=0)(h2:D9 b=0):G0 a b=A1g (A31 (a++b)):=by
 unfold G0
 rw[if_pos ⟨O9 h1,O9 h2⟩]
theorem A7e{a b:List Entry}(h1:D9 a=0)(h2:D9 b=0):V3 (a++b)=G0 a b:=by
 rw[A3z h1 h2]
 refine A2l fun j hj=>?_
 by_cases h:j < a.length
 ·have:(a++b)[j]! = a[j]!:=by rw[getElem!_pos (a++b) j hj,getElem!_pos a j h,List.getElem_append_left h]
  rw[this]
  exact(A11 (O9 h1) h).1
 ·rw[List.length_append]at hj
  have:(a++b)[j]! = b[j-a.length]!:=by rw[getElem!_pos (a++b) j (by rw[List.length_append];omega),getElem!_pos b (j-a.length) (by omega),List.getElem_append_right (by omega)]
  rw[this]
  exact(A11 (O9 h2) (by omega)).1
theorem Bj7{a b:List Entry}(h1:D9 a=0)(h2:D9 b=0):a.length≤16000000000∧b.length≤16000000000:=⟨A2y (O9 h1),A2y (O9 h2)⟩
theorem A97(a b:List Entry):[a,b].flatten=a++b:=by simp
theorem A33{a b:List Entry}(h:¬(¬ D9 a=0∨¬ D9 b=0)):D9 a=0∧D9 b=0:=⟨Classical.not_not.1 fun k=>h (.inl k),Classical.not_not.1 fun k=>h (.inr k)⟩
theorem B7s{a b:List Entry}(h:¬(¬ D9 a=0∨¬ D9 b=0)):a.length≤16000000000∧b.length≤16000000000:=Bj7 (A33 h).1 (A33 h).2
theorem Ag5{a b:List Entry}(h:¬(¬ D9 a=0∨¬ D9 b=0)):[a,b].flatten.length*40≤140737488351232:=by
 have:=B7s h
 rw[A97,List.length_append]
 omega
theorem con58(a b:List Entry):Con Tryz.prog 58 [.sl (a.map c67),.sl (b.map c67)] (.tup [.sl ((G0 a b).1.map c67),.i .i64 (G0 a b).2]) :=
 by
 refine lN 0 c67 (a) Tryz.func58 fun hl_0=>lN 1 c67 (b) Tryz.func58 fun hl_1=>sC A9 [.tmp 4,.tmp 5] 21 Tryz.func58 ?_
 intro e0 cx
 refine sq<|rG cx [0,1] [] z0<|sn<|sq<|sq<|B4 (σ':=⟨[(0,.sl (List.map c67 a)),(1,.sl (List.map c67 b)),(13,.b (decide (¬D9 a=0∨¬D9 b=0)))],[]⟩) ?_ ?_
 refine A4 (¬D9 a=0) (fun h_1=>?_) (fun h_1=>?_)
 refine rG cx [0,1,13] [] (fT (A56 (a)) (tT 2 (F4 h_1:AV.b (D9 a !=0)=AV.b true) (tD 7 true (¬D9 a=0∨¬D9 b=0) (by simp only [eq_false h_1,tsl]) (oA 1 (.i .i64 (D9 a)) z0)))) ?_
 exact⟨rfl,by kernel_rfl⟩
 refine rG cx [0,1,13] [] (fT (A56 (a)) (tN 2 (D9 a) (0:Int) (tT 3 (A0 h_1) (fT (A56 (b)) (tN 6 (D9 b) (0:Int) (tT 7 (by first | (simp only [eq_false h_1,tsl];done) | simp_all:AV.b (decide ¬D9 b=0)=AV.b (decide (¬D9 a=0∨¬D9 b=0))) (oA 1 (.i .i64 (D9 a)) (oA 5 (.i .i64 (D9 b)) z0)))))))) ?_
 exact⟨rfl,by kernel_rfl⟩
 refine sn<|dC (¬D9 a=0∨¬D9 b=0) (fun h2=>?_) fun h2=>?_
 refine sq<|rG cx [4,5] [] z0<|sn<|rT<|nR<|qR (.tup [.nl,.i .i64 ((1:Int))]) (C1.tup (ZLe.cons (C1.nl' (show List.map c67 (G0 a b).1=[]from(by exact(by rw[Av9 h2];rfl)))) (ZLe.cons (C1.eq (show AV.i .i64 1=AV.i .i64 (G0 a b).2 from(by exact(by rw[Av9 h2])))) ZLe.nil)))
 refine sK<|sn<|sq ?_
 have hl_3:=(B3u [a,b].flatten)
 refine rG cx [4,5] [] (fT (con108 ([a,b]) (by exact(Nat.le_trans (Ag5 h2) (by decide)))) (fT (con107 ([a,b].flatten) (by exact(Nat.le_trans (Ag5 h2) (by decide)))) (oV 3 { val:=some (.own (67:Nat) (4:Nat)),rows:=some (List.map c67 [a,b].flatten) } (oA 4 (.tup [.sl (List.map c67 (V3 [a,b].flatten).1),.i .i64 ((V3 [a,b].flatten).2)]) z0)))) ?_
 refine sn<|rT<|qR (.tup [.sl (List.map c67 (V3 [a,b].flatten).1),.i .i64 ((V3 [a,b].flatten).2)]) (C1.tup (ZLe.cons (C1.eq (show AV.sl (List.map c67 (V3 [a,b].flatten).1)=AV.sl (List.map c67 (G0 a b).1)from(by exact(by rw[A97,A7e (A33 h2).1 (A33 h2).2])))) (ZLe.cons (C1.eq (show AV.i .i64 (V3 [a,b].flatten).2=AV.i .i64 (G0 a b).2 from(by exact(by rw[A97,A7e (A33 h2).1 (A33 h2).2])))) ZLe.nil)))
end Go.Proofs.YtokhjapfekbobaaGreat
namespace Go.Proofs.YtokhjapfekbobaaGreat
open Go.E
set_option maxRecDepth 100000
set_option maxHeartbeats 4000000
open Go Go.Sort Go.RowKit Go.Lib Go.Shelf Go.Proofs
def renSk:Go.Shelf.Ren:=⟨fun
 | 6=>97 | 14=>141 | 15=>126 | 20=>183 | 21=>184 | 22=>185
 | 23=>186 | 24=>187 | 25=>188 | 26=>189 | 27=>190 | 28=>166 | 29=>167
 | 46=>205 | 47=>206 | 48=>207 | 49=>208 | 50=>209 | 57=>217 | n=>n,
 fun | 0=>0 | 3=>3 | 4=>4 | 5=>5 | 9=>9 | 22=>27 | 24=>83 | 25=>96 | 39=>166 | 45=>217 | 46=>218 | 50=>210 | 53=>201 | 55=>203 | 66=>233 | 70=>230 | 76=>244 | 77=>171 | n=>n,
 fun n=>n⟩
theorem laysSk:Go.Proofs.SlLaysF0.n6 Tryz.prog renSk:={
 mixed:=(by kernel_rfl),
 f6:=⟨Tryz.f97.name,by decide,Tryz.func97.trans (congrArg some (by kernel_rfl))⟩,
 f14:=⟨Tryz.f141.name,by decide,Tryz.func141.trans (congrArg some (by kernel_rfl))⟩,
 f15:=Tryz.func126.trans (congrArg some (by kernel_rfl)),
 f20:=⟨Tryz.f183.name,by decide,Tryz.func183.trans (congrArg some (by kernel_rfl))⟩,
 f21:=⟨Tryz.f184.name,by decide,Tryz.func184.trans (congrArg some (by kernel_rfl))⟩,
 f22:=⟨Tryz.f185.name,by decide,Tryz.func185.trans (congrArg some (by kernel_rfl))⟩,
 f23:=⟨Tryz.f186.name,by decide,Tryz.func186.trans (congrArg some (by kernel_rfl))⟩,
 f24:=⟨Tryz.f187.name,by decide,Tryz.func187.trans (congrArg some (by kernel_rfl))⟩,
 f25:=⟨Tryz.f188.name,by decide,Tryz.func188.trans (congrArg some (by kernel_rfl))⟩,
 f26:=⟨Tryz.f189.name,by decide,Tryz.func189.trans (congrArg some (by kernel_rfl))⟩,
 f27:=⟨Tryz.f190.name,by decide,Tryz.func190.trans (congrArg some (by kernel_rfl))⟩,
 f28:=Tryz.func166.trans (congrArg some (by kernel_rfl)),
 f29:=Tryz.func167.trans (congrArg some (by kernel_rfl)),
 f46:=⟨Tryz.f205.name,by decide,Tryz.func205.trans (congrArg some (by kernel_rfl))⟩,
 f47:=Tryz.func206.trans (congrArg some (by kernel_rfl)),
 f48:=Tryz.func207.trans (congrArg some (by kernel_rfl)),
 f49:=⟨Tryz.f208.name,by decide,Tryz.func208.trans (congrArg some (by kernel_rfl))⟩,
 f50:=⟨Tryz.f209.name,by decide,Tryz.func209.trans (congrArg some (by kernel_rfl))⟩,
 f57:=⟨Tryz.f217.name,by decide,Tryz.func217.trans (congrArg some (by kernel_rfl))⟩,
 t0:=Tryz.underlying0,a0:=Tryz.isAgg0,z0:=Tryz.sizeOf0,v0:=Tryz.zeroValue0,
 t3:=Tryz.underlying3,a3:=Tryz.isAgg3,z3:=Tryz.sizeOf3,v3:=Tryz.zeroValue3,
 t4:=Tryz.underlying4,a4:=Tryz.isAgg4,z4:=Tryz.sizeOf4,v4:=Tryz.zeroValue4,
 t5:=Tryz.underlying5,a5:=Tryz.isAgg5,z5:=Tryz.sizeOf5,v5:=Tryz.zeroValue5,
 t9:=Tryz.underlying9,a9:=Tryz.isAgg9,z9:=Tryz.sizeOf9,v9:=Tryz.zeroValue9,
 t22:=Tryz.underlying27,a22:=Tryz.isAgg27,z22:=Tryz.sizeOf27,v22:=Tryz.zeroValue27,
 t25:=Tryz.underlying96,a25:=Tryz.isAgg96,z25:=Tryz.sizeOf96,v25:=Tryz.zeroValue96,
 t39:=Tryz.underlying166,a39:=Tryz.isAgg166,z39:=Tryz.sizeOf166,v39:=Tryz.zeroValue166,
 t45:=Tryz.underlying217,a45:=Tryz.isAgg217,z45:=Tryz.sizeOf217,v45:=Tryz.zeroValue217,
 t46:=Tryz.underlying218,a46:=Tryz.isAgg218,z46:=Tryz.sizeOf218,v46:=Tryz.zeroValue218,
 t50:=Tryz.underlying210,a50:=Tryz.isAgg210,z50:=Tryz.sizeOf210,v50:=Tryz.zeroValue210,
 t53:=Tryz.underlying201,a53:=Tryz.isAgg201,z53:=Tryz.sizeOf201,v53:=Tryz.zeroValue201,
 t55:=Tryz.underlying203,a55:=Tryz.isAgg203,z55:=Tryz.sizeOf203,v55:=Tryz.zeroValue203,
 t66:=Tryz.underlying233,a66:=Tryz.isAgg233,z66:=Tryz.sizeOf233,v66:=Tryz.zeroValue233,
 t70:=Tryz.underlying230,a70:=Tryz.isAgg230,z70:=Tryz.sizeOf230,v70:=Tryz.zeroValue230,
 t76:=Tryz.underlying244,a76:=Tryz.isAgg244,z76:=Tryz.sizeOf244,v76:=Tryz.zeroValue244,
 t77:=Tryz.underlying171,a77:=Tryz.isAgg171,z77:=Tryz.sizeOf171,v77:=Tryz.zeroValue171 }
theorem io97(l:List Record)(hn:U1 l)(hlen:l.length < 4611686018427387904) :
  Y8 Tryz.prog 97 54 none false 83 3 (l.map c83) ((A6f l).map c83):=by
 have h:=B0a (P:=Tryz.prog) (ρ:=renSk) (β:=Bn3) (enc:=Bi5) (k:=3) laysSk ⟨_,Tryz.func97,by kernel_rfl,by kernel_rfl⟩ 54 83
  (fun args w=>N6 ⟨_,Tryz.func54,by kernel_rfl,by kernel_rfl⟩ w) (fun _=>by kernel_rfl) (fun _=>by kernel_rfl) (fun _=>rfl) B9f totRB
  (fun x y=>Bd8 x.1 y.1 (by have:=R7 x.2;unfold szR;omega) (by have:=R7 y.2;unfold szR;omega)) (l.map B0r) (by simpa using hlen)
 have e1:(l.map B0r).map Bi5=l.map c83:=by
  conv=>rhs;rw[← Au7 hn,List.map_map]
  rfl
 have e2:(B7g B9f (l.map B0r)).map Bi5=(A6f l).map c83:=by
  unfold A6f srtB
  rw[List.map_map]
  rfl
 rw[e1,e2]at h
 exact h
noncomputable def tiRc:TypeInfo:=(Tryz.prog.info? 83).get!
set_option maxHeartbeats 4000000 in
theorem B0g (n:Nat) (h0:0 < n) (hb:n*64≤140737488351232) (w:World):Calls Tryz.prog 153 #[.slice none 0 0,.int .i64 n] w fun e w' =>
  ∃ cap cells,e=.returned (.slice (some ⟨w.heap.size,0,none⟩) 0 cap)∧w'.heap[w.heap.size]?=some (.cells cells 83 (0,0))∧cells.size=cap*3∧cap≤maxLen∧Below w.heap.size w w':=by
 obtain⟨i,z,hi,hi1,hi2,hz,hzs⟩:∃(i:TypeInfo) (z:Value),Tryz.prog.info? 83=some i∧i.size=3∧i.bytes=64∧i.zero=some z∧z.cells.size=3 :=
  ⟨tiRc,tiRc.zero.get!,by kernel_rfl,by kernel_rfl,by kernel_rfl,by kernel_rfl,by kernel_rfl⟩
 have happ:=Lib.run_append_nil_zeros (P:=Tryz.prog) w 27 3 27 83 i z .i64 .i64 Tryz.underlying27 Tryz.underlying3 hi hz n h0 (by omega) (by omega) (by rw[hi2];omega)
 generalize hcap:grownCap w n 0 83=cap2 at happ
 have hcapge:n≤cap2:=by rw[← hcap];exact grownCap_ge w _ 0 83
 have hcaple:cap2≤maxLen:=by rw[← hcap];exact grownCap_le_maxLen w _ 0 83 (by unfold maxLen;omega)
 generalize hZ:(Builtin.zeroCells z.cells n++Builtin.zeroCells z.cells (cap2-n))=Z at happ
 have hZs:Z.size=cap2*3:=by rw[← hZ];simp [size_zeroCells,hzs];omega
 clear hcap hZ
 go_enter Tryz.func153,Tryz.ntmps153
 go_wp2_with (at_builtin;refine Lib.wpList_append_run _ rfl _ _ _ _ rfl _ _ rfl rfl _ _ happ ?_)
 go_ret
 exact⟨cap2,Z,rfl,heap_alloc_new w _,hZs,hcaple,⟨rfl,rfl,rfl,by simp,fun k hk=>Below.heap_alloc w _ k hk⟩⟩
set_option maxHeartbeats 4000000 in
theorem B0h (w:World):Calls Tryz.prog 153 #[.slice none 0 0,.int .i64 0] w fun e w'=>e=.returned (.slice none 0 0)∧w'=w:=by
 go_enter Tryz.func153,Tryz.ntmps153
 go_wp2
 go_ret
 exact⟨rfl,rfl⟩
theorem con153(n:Int)(h0:0≤n)(hb:n*64≤140737488351232):A3s Tryz.prog 153 [.nl,.i .i64 n] 83 (.row 3 (([]:List Record).map c83)):=by
 refine⟨⟨_,Tryz.func153,by kernel_rfl,by kernel_rfl⟩,fun w S0 vs hS hl hv=>?_⟩
 obtain⟨v,u,rfl⟩:∃ v u,vs=[v,u]:=by
  match vs,hl with
  | [v,u],_=>exact⟨v,u,rfl⟩
 have h1:=hv 0 _ v rfl rfl
 have h2:=hv 1 _ u rfl rfl
 cases h1
 cases h2
 by_cases hn:n=0
 ·subst hn
  refine(B0h w).mono ?_
  rintro e w' ⟨rfl,rfl⟩
  exact⟨_,rfl,⟨fun r hr=>by simp at hr,[],World.ownsRow_nil _ _ _ _,fun u hu=>by simp at hu,fun j b u hb=>by simp at hb⟩,Below.refl _ _⟩
 ·obtain⟨m,rfl⟩:∃ m:Nat,n=m:=⟨n.toNat,by omega⟩
  refine(B0g m (by omega) (by omega) w).mono ?_
  rintro e w' ⟨cap,cells,rfl,g1,g2,g3,g4⟩
  exact⟨_,rfl,⟨fun r hr=>by simp at hr,[],⟨by simp,.inr ⟨w.heap.size,cap,cells,rfl,Nat.le_refl _,g1,Nat.zero_le _,g3,g2,by simp⟩⟩,fun u hu=>by simp at hu,fun j b u hb=>by simp at hb⟩,g4⟩
def c27(l:List Record):List AV:=[.sl (l.map c83)]
theorem con109(ss:List (List Record))(hb:ss.flatten.length*64≤140737488351232):A3s Tryz.prog 109 [.sl (ss.map c27)] 83 (.row 3 (ss.flatten.map c83)) :=
 by
 refine A1u 0 (c27) (ss) (by kernel_rfl) Tryz.func109 (by kernel_rfl) fun hl_0=>A84 A9 (by kernel_rfl) (.tmp 2) 36 Tryz.func109 (by kernel_rfl) (by kernel_rfl) ?_
 intro e0 cx
 refine sq<|rG cx [0] [] z0<|sn<|sq<|rG cx [0,3] [] z0<|sn<|sq<|sq<|rG cx [0,3,9,10,11] [] (tL 1 c27 ss z0)<|sn<|bL 0<|sL (X:=Int×Int) (fun x=>⟨[(0,.sl (List.map c27 ss)),(3,.i .i64 (x.1)),(9,.sl (List.map c27 ss)),(10,.i .i64 ((↑ss.length:Int))),(11,.i .i64 (x.2))],[]⟩) (fun x ↦ B9j ss x.1 x.2) (fun x ↦ A3i ss x.1 x.2) [0,3,9,10,11] [] (((0:Int),(0:Int))) (show A3i ss (0:Int) (0:Int)from(by exact A5s ss)) ?_
 rintro⟨n0,i1⟩ h_2
 obtain⟨hh3,hh4,hh5,hh6,h7⟩:0≤i1∧i1≤(↑ss.length:Int)∧0≤n0∧n0≤140737488351232∧B4n ss n0 i1:=h_2
 refine rE cx [0,3,9,10,11,12] [] (zB 0 (i1 <(↑ss.length:Int))) (fun h8=>?_) fun h8=>?_
 refine sK<|sn<|sq<|bL 1<|sq<|rG cx [0,3,9,10,11,5] [] (fA (0≤i1) (fG c27 ss i1.toNat (fR 1 (oR 0 (c27 ss[i1.toNat]!) z0))))<|sn<|sq<|rG cx [0,3,9,10,11] [] (tL 2 c83 ss[i1.toNat]! (tT 3 (B5 (by omega) (by have:=An0 hh3 h8 h7;omega):AV.i .i64 (IntKind.i64.wrap (n0+(↑ss[i1.toNat]!.length:Int)))=AV.i .i64 (n0+(↑ss[i1.toNat]!.length:Int))) z0)) ?_
 refine sn<|sq<|rG cx [0,3,9,10,11,20] [] (tB 1 (n0+(↑ss[i1.toNat]!.length:Int) <(0:Int)) z0)<|sn<|Ab5 (n0+(↑ss[i1.toNat]!.length:Int) <(0:Int)) (by kernel_rfl) (by kernel_rfl) (fun h9=>absurd h9 (by omega)) (fun h9=>?_)
 refine sK<|bN<|sn<|rG cx [0,3,9,10,11] [] (tW 0 (i1+1) z0)<|sn<|nX ((n0+(↑ss[i1.toNat]!.length:Int),i1+1)) (show((↑ss.length:Int)-(i1+1)).toNat <((↑ss.length:Int)-i1).toNat from(by omega)) (show A3i ss (n0+(↑ss[i1.toNat]!.length:Int)) (i1+1)from(by exact A5t (by omega) hh3 h8 hh5 h7))
 refine eX 0<|nE<|nE<|bH<|sn<|sq<|rG cx [0,6] [24] (fT (con153 (n0) (by(with_reducible assumption)) (by have:=B41 h7;omega)) (oV 1 { val:=some (.own (83:Nat) (3:Nat)),rows:=some (List.map c83 []) } z0)) ?_
 refine sn<|sq<|sq<|rG cx [6,25,26,27] [24] (tL 1 c27 ss z0)<|sn<|bL 2<|sL (X:=Int×List Record) (fun x=>⟨[(6,.own 24 0),(25,.sl (List.map c27 ss)),(26,.i .i64 ((↑ss.length:Int))),(27,.i .i64 (x.1))],[(24,⟨0,83,.row 3 (List.map c83 x.2)⟩)]⟩) (fun x ↦ B9k ss x.1 x.2) (fun x ↦ A5r ss x.1 x.2) [6,25,26,27] [24] (((0:Int),[])) (show A5r ss (0:Int) []from(by exact⟨by omega,by omega,by simp [A5q]⟩)) ?_
 rintro⟨i10,l11⟩ h_12
 obtain⟨h13,h14,h15⟩:0≤i10∧i10≤(↑ss.length:Int)∧A5q ss i10 l11:=h_12
 refine rE cx [6,25,26,27,28] [24] (zB 0 (i10 <(↑ss.length:Int))) (fun h16=>?_) fun h16=>?_
 refine sK<|sn<|sq<|bL 3<|sq<|rG cx [6,25,26,27,8] [24] (fA (0≤i10) (fG c27 ss i10.toNat (fR 1 (oR 0 (c27 ss[i10.toNat]!) z0))))<|sn<|rG cx [6,25,26,27] [24] (fR 83 (fR 3 (fR 3 (fX c83 ss[i10.toNat]! 3 (fP ((List.map c83 l11).length+(List.map c83 ss[i10.toNat]!).length≤maxLen) (by have:=A96 h13 h16 h15;simp only [List.length_map,Go.maxLen];omega) (fP (((List.map c83 l11).length+(List.map c83 ss[i10.toNat]!).length)*(64:Nat)≤(140737488355328:Nat)) (by have:=A96 h13 h16 h15;simp only [List.length_map];omega) (fM c83 l11 ss[i10.toNat]! (oV 2 { rows:=some (List.map c83 (l11++ss[i10.toNat]!)) } z0)))))))) ?_
 refine bN<|sn<|rG cx [6,25,26,27] [24] (tW 0 (i10+1) z0)<|sn<|nX ((i10+1,l11++ss[i10.toNat]!)) (show((↑ss.length:Int)-(i10+1)).toNat <((↑ss.length:Int)-i10).toNat from(by omega)) (show A5r ss (i10+1) (l11++ss[i10.toNat]!)from(by exact A5u h13 h16 h15))
 refine eX 2<|nE<|nE<|bH<|sn<|sq<|rG cx [2] [24] z0<|sn<|rT<|A3d (rows':=(List.map c83 l11)) .ret (.inr rfl) 2 24 0 (by kernel_rfl) (by kernel_rfl) (by kernel_rfl) (by rw[Ag4 h16 h15])
theorem con99(a b:Record)(ha:szR a)(hb:szR b):Con Tryz.prog 99 [.agg (c83 a),.agg (c83 b)] (.b (eqR a b)) :=
 by
 refine sC A9 [.tmp 4] 9 Tryz.func99 ?_
 intro e0 cx
 refine sq<|rG cx [2,3] [2,3] z0<|sn<|sq<|rG cx [4] [] (fT (Bd8 (a) (b) (by(with_reducible assumption)) (by(with_reducible assumption))) (tB 3 (E6 a b=0) (oA 2 (.i .i64 (E6 a b)) z0)))<|sn<|rT<|qR (.b (decide (E6 a b=0))) (.eq ?g0);rotate_left
 case g0=>exact rfl
def B7t(l:List Record)(q k:Int)(m:List Record):Prop:=m=I0 (l.take q.toNat)++l.drop k.toNat∧k=((I0 (l.take q.toNat)).length:Int)
def Bj8(l:List Record)(k:Int)(m:List Record):Prop:=m=l∧1≤k∧k≤l.length∧∀ j:Nat,1≤j→(j:Int) < k→eqR l[j]! l[j-1]! = false
def decC1(l:List Record)(k:Int)(m:List Record):Nat:=(l.length-k).toNat
def B7u(l:List Record)(k0:Int)(k k2:Int)(m:List Record):Prop:=1≤k2∧k0+k2≤l.length∧k0≤k∧k≤k0+k2-1∧m.length=l.length∧B7t l (k0+k2) k m
def decC2(l:List Record)(k0:Int)(k k2:Int)(m:List Record):Nat:=(l.length-k0-k2).toNat
theorem Ag6{out:List Record}{b:Go.E.Blk}{n m:Nat}(hb:b.k=.row m (out.map c83))(h:n < out.length):Go.E.rowAt b n (c83 out[n]!):=by
 unfold Go.E.rowAt
 rw[hb]
 exact H6 h
theorem A5v{l m:List Record}{q k:Int}(h:B7t l q k m){j:Nat}(h1:k≤j)(h2:j < l.length):m[j]! = l[j]!:=by
 obtain⟨e,hk⟩:=h
 have hlen:m.length=(I0 (l.take q.toNat)).length+(l.length-k.toNat):=by rw[e,List.length_append,List.length_drop]
 rw[getElem!_pos m j (by omega),getElem!_pos l j h2]
 simp only [e]
 rw[List.getElem_append_right (by omega),List.getElem_drop]
 congr 1
 omega
theorem Bj9{l m:List Record}{q k:Int}(h1:1≤q)(hq:q < l.length)(hk:k < l.length)(he:eqR l[q.toNat]! l[q.toNat-1]! = false)(h:B7t l q k m):B7t l (q+1) (k+1) (m.set k.toNat l[q.toNat]!):=by
 obtain⟨e,hl⟩:=h
 have hs:I0 (l.take (q+1).toNat)=I0 (l.take q.toNat)++[l[q.toNat]!]:=by
  unfold I0
  rw[show(q+1).toNat=q.toNat+1 by omega,A0r eqR (by omega) (by omega),he]
  rfl
 refine⟨?_,by rw[hs,List.length_append,List.length_singleton];omega⟩
 rw[hs,e,List.set_append_right _ _ (by omega),show k.toNat-(I0 (l.take q.toNat)).length=0 by omega,List.drop_eq_getElem_cons (show k.toNat < l.length by omega),show(k+1).toNat=k.toNat+1 by omega,List.append_assoc]
 rfl
theorem Bk0{l m:List Record}{q k:Int}(h1:1≤q)(hq:q < l.length)(he:eqR l[q.toNat]! l[q.toNat-1]! = true)(h:B7t l q k m):B7t l (q+1) k m:=by
 obtain⟨e,hl⟩:=h
 have hs:I0 (l.take (q+1).toNat)=I0 (l.take q.toNat):=by
  unfold I0
  rw[show(q+1).toNat=q.toNat+1 by omega,A0r eqR (by omega) (by omega),he]
  simp
 exact⟨by rw[hs];exact e,by rw[hs];exact hl⟩
theorem B7v{l:List Record}{k:Int}(h1:1≤k)(hk:k < l.length)(h:∀ j:Nat,1≤j→(j:Int) < k→eqR l[j]! l[j-1]! = false)(he:eqR l[k.toNat]! l[(k-1).toNat]! = true):B7t l (k+1) k l:=by
 have hs:I0 (l.take (k+1).toNat)=l.take k.toNat:=by
  unfold I0
  rw[show(k+1).toNat=k.toNat+1 by omega,A0r eqR (by omega) (by omega),← show(k-1).toNat=k.toNat-1 by omega,he,A2z eqR l k.toNat (by omega) (fun j h1 h2=>h j h1 (by omega))]
  simp
 refine⟨by rw[hs,List.take_append_drop],by rw[hs,List.length_take];omega⟩
theorem cm_end{l m:List Record}{q k:Int}(hq:q=l.length)(h:B7t l q k m):m.take k.toNat=I0 l:=by
 obtain⟨e,hl⟩:=h
 rw[List.take_of_length_le (by omega)]at e hl
 rw[e,List.take_append_of_le_length (by omega),List.take_of_length_le (by omega)]
theorem cm_all{l:List Record}{k:Int}(hk:¬ k < l.length)(h:∀ j:Nat,1≤j→(j:Int) < k→eqR l[j]! l[j-1]! = false):l=I0 l:=by
 have:=A2z eqR l l.length (Nat.le_refl _) (fun j h1 h2=>h j h1 (by omega))
 rw[List.take_length]at this
 exact this.symm
theorem B7w{l:List Record}(h:(l.length:Int) < 2):l=I0 l:=by
 match l,h with
 | [],_=>rfl
 | [a],_=>rfl
 | a :: b :: l,h=>simp only [List.length_cons]at h;omega
theorem A35{α:Type}(c:α→List AV){m m':List α}{k:Int}(h0:0≤k)(h1:k≤m.length)(h:m'.length=m.length):((List.take ((none:Option Int).getD ((List.map c m).length:Int)-k).toNat (List.drop k.toNat (List.map c m'))).length:Int)=m.length-k:=by
 simp only [List.length_take,List.length_drop,List.length_map,Option.getD_none]
 omega
theorem cm_no(c:Record→List AV)(m:List Record):(none:Option Int).getD ((List.map c m).length:Int)=m.length:=by simp
theorem cm_cut{m X Y:List Record}{k:Nat}(h:k≤m.length):List.take k (List.take k m++X++Y)=m.take k:=by
 rw[List.append_assoc,List.take_append_of_le_length (by rw[List.length_take];omega),List.take_take,Nat.min_self]
theorem con98(l:List Record)(hs:B0o l)(hl:l.length≤1000000000000000):Bm3 Tryz.prog 98 83 3 (l.map c83) [.fn (.func 99) [] []] ((I0 l).map c83) :=
 by
 have nn:=fun m:List Record=>cm_no c83 m
 refine B1k A9 (by kernel_rfl) (.tmp 4) 66 Tryz.func98 (by kernel_rfl) (by kernel_rfl) (by(with_reducible refine O3 (fun _=>?_) _);kernel_rfl) (by(with_reducible refine O3 (fun _=>?_) _);kernel_rfl) ?_
 intro e0 cx
 refine sq<|rG cx [0,1] [0] z0<|sn<|sq<|rD cx [0,1,10] [0] (tL 1 c83 l (zB 2 ((↑l.length:Int) <(2:Int)))) (fun hh0=>?_) fun hh0=>?_
 refine sq<|rG cx [4] [0] z0<|sn<|rT<|nR<|A3d (rows':=(List.map c83 l)) .ret (.inr rfl) 4 0 0 (by kernel_rfl) (by kernel_rfl) (by kernel_rfl) (by rw[← B7w hh0])
 refine sK<|sn<|sq<|sq<|rG cx [0,1,5] [0] z0<|sn<|bL 0<|sL (X:=Int×List Record) (fun x=>⟨[(0,.own 0 0),(1,.fn (Fn.func (99:FuncId)) [] []),(5,.i .i64 (x.1))],[(0,⟨0,83,.row 3 (List.map c83 x.2)⟩)]⟩) (fun x ↦ decC1 l x.1 x.2) (fun x ↦ Bj8 l x.1 x.2) [0,1,5] [0] (((1:Int),l)) (show Bj8 l (1:Int) l from(by exact⟨rfl,by omega,by omega,fun j h1 h2=>by omega⟩)) ?_
 rintro⟨k1,m2⟩ h_3
 obtain⟨hh4,hh5,h6,h7⟩:m2=l∧1≤k1∧k1≤(↑l.length:Int)∧∀(j:Nat),(1:Nat)≤j→(↑j:Int) < k1→eqR l[j]! l[j-(1:Nat)]! = false:=h_3
 refine sq<|rD cx [0,1,5,15] [0] (tL 2 c83 m2 (zB 3 (k1 <(↑m2.length:Int)))) (fun h8=>?_) fun h8=>?_
 refine sK<|sn<|sq<|bL 1<|sq<|rA cx [0,1,5,28] [0] (fO (0≤k1) (fP (k1.toNat <(List.map c83 m2).length) (by(first | omega | (simp only [List.length_map];omega))) (fR 3 (fP (E.rowAt { ver:=0,ty:=83,k:=BK.row (3) (List.map c83 m2):Blk } k1.toNat (c83 m2[k1.toNat]!)) (by subst hh4;exact Ag6 rfl (by omega)) (fP (0+(3:Nat)≤(c83 m2[k1.toNat]!).length) (by exact Nat.le_refl 3) (tW 7 (k1-1) (fO (0≤k1-1) (fP ((k1-1).toNat <(List.map c83 m2).length) (by(first | omega | (simp only [List.length_map];omega))) (fR 3 (fP (E.rowAt { ver:=0,ty:=83,k:=BK.row (3) (List.map c83 m2):Blk } (k1-1).toNat (c83 m2[(k1-1).toNat]!)) (by subst hh4;exact Ag6 rfl (by omega)) (fP (0+(3:Nat)≤(c83 m2[(k1-1).toNat]!).length) (by exact Nat.le_refl 3) (fT (con99 (m2[k1.toNat]!) (m2[(k1-1).toNat]!) (by subst hh4;exact hs _ (E4 (by omega))) (by subst hh4;exact hs _ (E4 (by omega)))) (oR 4 (c83 m2[k1.toNat]!) (oR 9 (c83 m2[(k1-1).toNat]!) (oA 10 (.b (eqR m2[k1.toNat]! m2[(k1-1).toNat]!)) z0))))))))))))))) ?_
 refine sn<|A4i (eqR m2[k1.toNat]! m2[(k1-1).toNat]!) (by kernel_rfl) (by kernel_rfl) (fun h9=>?_) (fun h9=>?_)
 refine sq<|rG cx [0,1,5,6] [0] (fO (0≤k1) (fP (k1≤none.getD (↑(List.map c83 m2).length:Int)) (by rw[nn];omega) (fP (none.getD (↑(List.map c83 m2).length:Int)≤(↑(List.map c83 m2).length:Int)) (by rw[nn,List.length_map];exact Int.le_refl _) (fP (k1 <(↑(List.map c83 m2).length:Int)) (by(first | omega | (simp only [List.length_map];omega))) (fR (some (3)) z0))))) ?_
 refine sn<|sq<|sq<|rG cx [0,1,5,6,7] [0] z0<|sn<|bL 2<|sL (X:=Int×Int×List Record) (fun x=>⟨[(0,.own 0 0),(1,.fn (Fn.func (99:FuncId)) [] []),(5,.i .i64 (x.1)),(6,.vw (0) (0) (k1.toNat) ((none.getD (↑(List.map c83 m2).length:Int)-k1).toNat)),(7,.i .i64 (x.2.1))],[(0,⟨0,83,.row 3 (List.map c83 x.2.2)⟩)]⟩) (fun x ↦ decC2 l k1 x.1 x.2.1 x.2.2) (fun x ↦ B7u l k1 x.1 x.2.1 x.2.2) [0,1,5,6,7] [0] ((k1,(1:Int),m2)) (show B7u l k1 k1 (1:Int) m2 from(by subst hh4;exact⟨by omega,by omega,by omega,by omega,rfl,B7v hh5 h8 h7 h9⟩)) ?_
 rintro⟨k10,k11,m12⟩ h_13
 obtain⟨h14,h15,h16,h17,h18,h19⟩:1≤k11∧k1+k11≤(↑l.length:Int)∧k1≤k10∧k10≤k1+k11-1∧m12.length=l.length∧B7t l (k1+k11) k10 m12:=h_13
 refine sq<|rD cx [0,1,5,6,7,35] [0] (zB 3 (k11 <(↑(List.take (none.getD (↑(List.map c83 m2).length:Int)-k1).toNat (List.drop k1.toNat (List.map c83 m12))).length:Int))) (fun h20=>?_) fun h20=>?_
 refine sK<|sn<|sq<|bL 3<|sq<|rA cx [0,1,5,6,7,49] [0] (fO (0≤k11) (fP (k11.toNat <(none.getD (↑(List.map c83 m2).length:Int)-k1).toNat) (by subst hh4;rw[A35 _ (by omega) h6 h18]at h20;rw[nn];omega) (fR 3 (fP (E.rowAt { ver:=0,ty:=83,k:=BK.row (3) (List.map c83 m12):Blk } (k1.toNat+k11.toNat) (c83 m12[k1.toNat+k11.toNat]!)) (by subst hh4;rw[A35 _ (by omega) h6 h18]at h20;exact Ag6 rfl (by omega)) (fP (0+(3:Nat)≤(c83 m12[k1.toNat+k11.toNat]!).length) (by exact Nat.le_refl 3) (tW 7 (k11-1) (fO (0≤k11-1) (fP ((k11-1).toNat <(none.getD (↑(List.map c83 m2).length:Int)-k1).toNat) (by subst hh4;rw[A35 _ (by omega) h6 h18]at h20;rw[nn];omega) (fR 3 (fP (E.rowAt { ver:=0,ty:=83,k:=BK.row (3) (List.map c83 m12):Blk } (k1.toNat+(k11-1).toNat) (c83 m12[k1.toNat+(k11-1).toNat]!)) (by subst hh4;rw[A35 _ (by omega) h6 h18]at h20;exact Ag6 rfl (by omega)) (fP (0+(3:Nat)≤(c83 m12[k1.toNat+(k11-1).toNat]!).length) (by exact Nat.le_refl 3) (fT (con99 (m12[k1.toNat+k11.toNat]!) (m12[k1.toNat+(k11-1).toNat]!) (by subst hh4;rw[A35 _ (by omega) h6 h18]at h20;rw[A5v h19 (by omega) (by omega)];exact hs _ (E4 (by omega))) (by subst hh4;rw[A35 _ (by omega) h6 h18]at h20;rw[A5v h19 (by omega) (by omega)];exact hs _ (E4 (by omega)))) (tT 11 (G4:(AV.b !eqR m12[k1.toNat+k11.toNat]! m12[k1.toNat+(k11-1).toNat]!)=AV.b (decide ¬eqR m12[k1.toNat+k11.toNat]! m12[k1.toNat+(k11-1).toNat]! = true)) (oR 4 (c83 m12[k1.toNat+k11.toNat]!) (oR 9 (c83 m12[k1.toNat+(k11-1).toNat]!) (oA 10 (.b (eqR m12[k1.toNat+k11.toNat]! m12[k1.toNat+(k11-1).toNat]!)) z0)))))))))))))))) ?_
 refine sn<|dC (¬eqR m12[k1.toNat+k11.toNat]! m12[k1.toNat+(k11-1).toNat]! = true) (fun h21=>?_) fun h21=>?_
 refine sq<|rG cx [0,1,5,6,7] [0] (fO (0≤k11) (fP (k11.toNat <(none.getD (↑(List.map c83 m2).length:Int)-k1).toNat) (by subst hh4;rw[A35 _ (by omega) h6 h18]at h20;rw[nn];omega) (fR 3 (fP (E.rowAt { ver:=0,ty:=83,k:=BK.row (3) (List.map c83 m12):Blk } (k1.toNat+k11.toNat) (c83 m12[k1.toNat+k11.toNat]!)) (by subst hh4;rw[A35 _ (by omega) h6 h18]at h20;exact Ag6 rfl (by omega)) (fP (0+(3:Nat)≤(c83 m12[k1.toNat+k11.toNat]!).length) (by exact Nat.le_refl 3) (fO (0≤k10) (fP (k10.toNat <(List.map c83 m12).length) (by(first | omega | (simp only [List.length_map];omega))) (fR 3 (fG c83 m12 k10.toNat (fR 3 (fP (0+(3:Nat)≤3) (by(first | omega | (simp only [List.length_map];omega))) (fP ((List.map c83 m12).set k10.toNat (List.take (0) (c83 m12[k10.toNat]!)++D1 (AV.agg [AV.s m12[k1.toNat+k11.toNat]!.sku,AV.sl (List.map c3 m12[k1.toNat+k11.toNat]!.past.vec),AV.sl (List.map B3 m12[k1.toNat+k11.toNat]!.past.cloud)])++List.drop (0+(3:Nat)) (c83 m12[k10.toNat]!))=List.map c83 (m12.set k10.toNat m12[k1.toNat+k11.toNat]!)) (by(with_reducible refine A2u ?_;kernel_rfl)) (oR 5 (c83 m12[k1.toNat+k11.toNat]!) (oV 7 { row:=(c83 m12[k10.toNat]!),rows:=some (List.map c83 (m12.set k10.toNat m12[k1.toNat+k11.toNat]!)) } z0)))))))))))))) ?_
 refine sn<|rG cx [0,1,5,6,7] [0] (tW 1 (k10+1) z0)<|bN<|sn<|rG cx [0,1,5,6,7] [0] (tW 1 (k11+1) z0)<|sn<|nX ((k10+1,k11+1,m12.set k10.toNat m12[k1.toNat+k11.toNat]!)) (show((↑l.length:Int)-k1-(k11+1)).toNat <((↑l.length:Int)-k1-k11).toNat from(by subst hh4;rw[A35 _ (by omega) h6 h18]at h20;omega)) (show B7u l k1 (k10+1) (k11+1) (m12.set k10.toNat m12[k1.toNat+k11.toNat]!)from ?g23);rotate_left
 refine sK<|bN<|sn<|rG cx [0,1,5,6,7] [0] (tW 1 (k11+1) z0)<|sn<|nX ((k10,k11+1,m12)) (show((↑l.length:Int)-k1-(k11+1)).toNat <((↑l.length:Int)-k1-k11).toNat from(by subst hh4;rw[A35 _ (by omega) h6 h18]at h20;omega)) (show B7u l k1 k10 (k11+1) m12 from ?g25);rotate_left
 refine eX 2<|nE<|nE<|bH<|sn<|sq<|rG cx [0,5] [0] (fO (0≤k10) (fP (k10≤none.getD (↑(List.map c83 m12).length:Int)) (by rw[nn];omega) (fP (none.getD (↑(List.map c83 m12).length:Int)≤(↑(List.map c83 m12).length:Int)) (by rw[nn,List.length_map];exact Int.le_refl _) (fP (k10 <(↑(List.map c83 m12).length:Int)) (by(first | omega | (simp only [List.length_map];omega))) (fR (some (3)) (fR 3 (fR 3 (fP (ZLe [AV.s { data:=#[]:ByteArray },AV.nl,AV.nl] [AV.s { sku:={ data:=#[]:ByteArray },past:={ vec:=[],cloud:=[]:Past }:Record }.sku,AV.sl (List.map c3 { sku:={ data:=#[]:ByteArray },past:={ vec:=[],cloud:=[]:Past }:Record }.past.vec),AV.sl (List.map B3 { sku:={ data:=#[]:ByteArray },past:={ vec:=[],cloud:=[]:Past }:Record }.past.cloud)]) (by exact ZLe.cons (C1.refl _) (ZLe.cons C1.nl (ZLe.cons C1.nl ZLe.nil))) (fP ((0:Nat) <(none.getD (↑(List.map c83 m12).length:Int)-k10).toNat) (by rw[nn];omega) (fP (k10.toNat+(none.getD (↑(List.map c83 m12).length:Int)-k10).toNat≤(List.map c83 m12).length) (by rw[nn,List.length_map];omega) (fP (List.take k10.toNat (List.map c83 m12)++List.replicate (none.getD (↑(List.map c83 m12).length:Int)-k10).toNat [AV.s { sku:={ data:=#[]:ByteArray },past:={ vec:=[],cloud:=[]:Past }:Record }.sku,AV.sl (List.map c3 { sku:={ data:=#[]:ByteArray },past:={ vec:=[],cloud:=[]:Past }:Record }.past.vec),AV.sl (List.map B3 { sku:={ data:=#[]:ByteArray },past:={ vec:=[],cloud:=[]:Past }:Record }.past.cloud)]++List.drop (k10.toNat+(none.getD (↑(List.map c83 m12).length:Int)-k10).toNat) (List.map c83 m12)=List.map c83 (List.take k10.toNat m12++List.replicate (none.getD (↑(List.map c83 m12).length:Int)-k10).toNat { sku:={ data:=#[]:ByteArray },past:={ vec:=[],cloud:=[]:Past }:Record }++List.drop (k10.toNat+(none.getD (↑(List.map c83 m12).length:Int)-k10).toNat) m12)) (by(with_reducible refine Ba3 ?_;kernel_rfl)) (oV 3 { row:=[.s ({ sku:={ data:=#[]:ByteArray },past:={ vec:=[],cloud:=[]:Past }:Record }.sku),.sl (List.map c3 { sku:={ data:=#[]:ByteArray },past:={ vec:=[],cloud:=[]:Past }:Record }.past.vec),.sl (List.map B3 { sku:={ data:=#[]:ByteArray },past:={ vec:=[],cloud:=[]:Past }:Record }.past.cloud)],rows:=some (List.map c83 (List.take k10.toNat m12++List.replicate (none.getD (↑(List.map c83 m12).length:Int)-k10).toNat { sku:={ data:=#[]:ByteArray },past:={ vec:=[],cloud:=[]:Past }:Record }++List.drop (k10.toNat+(none.getD (↑(List.map c83 m12).length:Int)-k10).toNat) m12)) } z0)))))))))))) ?_
 refine sn<|sq<|rG cx [4] [0] (fR (0:Int) (fO (0≤k10) (fP (k10≤(↑(List.map c83 (List.take k10.toNat m12++List.replicate (none.getD (↑(List.map c83 m12).length:Int)-k10).toNat { sku:={ data:=#[]:ByteArray },past:={ vec:=[],cloud:=[]:Past }:Record }++List.drop (k10.toNat+(none.getD (↑(List.map c83 m12).length:Int)-k10).toNat) m12)).length:Int)) (by rw[List.length_map,List.length_append,List.length_append,List.length_take];omega) (fR (some (3)) (fP (List.take k10.toNat (List.map c83 (List.take k10.toNat m12++List.replicate (none.getD (↑(List.map c83 m12).length:Int)-k10).toNat { sku:={ data:=#[]:ByteArray },past:={ vec:=[],cloud:=[]:Past }:Record }++List.drop (k10.toNat+(none.getD (↑(List.map c83 m12).length:Int)-k10).toNat) m12))=List.map c83 (List.take k10.toNat (List.take k10.toNat m12++List.replicate (none.getD (↑(List.map c83 m12).length:Int)-k10).toNat { sku:={ data:=#[]:ByteArray },past:={ vec:=[],cloud:=[]:Past }:Record }++List.drop (k10.toNat+(none.getD (↑(List.map c83 m12).length:Int)-k10).toNat) m12))) (by(with_reducible exact List.map_take.symm)) (oV 2 { rows:=some (List.map c83 (List.take k10.toNat (List.take k10.toNat m12++List.replicate (none.getD (↑(List.map c83 m12).length:Int)-k10).toNat { sku:={ data:=#[]:ByteArray },past:={ vec:=[],cloud:=[]:Past }:Record }++List.drop (k10.toNat+(none.getD (↑(List.map c83 m12).length:Int)-k10).toNat) m12))),flat:=true } z0)))))) ?_
 refine sn<|rT<|bR<|nR<|nR<|bR<|nR<|A3d (rows':=(List.map c83 (List.take k10.toNat (List.take k10.toNat m12++List.replicate (none.getD (↑(List.map c83 m12).length:Int)-k10).toNat { sku:={ data:=#[]:ByteArray },past:={ vec:=[],cloud:=[]:Past }:Record }++List.drop (k10.toNat+(none.getD (↑(List.map c83 m12).length:Int)-k10).toNat) m12)))) .ret (.inr rfl) 4 0 0 (by kernel_rfl) (by kernel_rfl) (by kernel_rfl) ?g32;rotate_left
 refine sK<|bN<|sn<|rG cx [0,1,5] [0] (tW 1 (k1+1) z0)<|sn<|nX ((k1+1,m2)) (show((↑l.length:Int)-(k1+1)).toNat <((↑l.length:Int)-k1).toNat from(by subst hh4;omega)) (show Bj8 l (k1+1) m2 from ?g34);rotate_left
 refine eX 0<|nE<|nE<|bH<|sn<|sq<|rG cx [4] [0] z0<|sn<|rT<|A3d (rows':=(List.map c83 m2)) .ret (.inr rfl) 4 0 0 (by kernel_rfl) (by kernel_rfl) (by kernel_rfl) (by subst hh4;rw[← cm_all h8 h7])
 case g23 =>
  subst hh4
  rw[A35 _ (by omega) h6 h18]at h20
  rw[A5v h19 (by omega) (by omega),A5v h19 (by omega) (by omega)]at h21
  rw[A5v h19 (by omega) (by omega)]
  have e1:k1.toNat+k11.toNat=(k1+k11).toNat:=by omega
  have e2:k1.toNat+(k11-1).toNat=(k1+k11).toNat-1:=by omega
  rw[e1,e2]at h21
  rw[e1]
  refine⟨by omega,by omega,by omega,by omega,by rw[List.length_set];exact h18,?_⟩
  rw[show k1+(k11+1)=k1+k11+1 by omega]
  exact Bj9 (by omega) (by omega) (by omega) (by simpa using h21) h19
 case g25 =>
  subst hh4
  rw[A35 _ (by omega) h6 h18]at h20
  rw[A5v h19 (by omega) (by omega),A5v h19 (by omega) (by omega)]at h21
  have e1:k1.toNat+k11.toNat=(k1+k11).toNat:=by omega
  have e2:k1.toNat+(k11-1).toNat=(k1+k11).toNat-1:=by omega
  rw[e1,e2]at h21
  refine⟨by omega,by omega,by omega,by omega,h18,?_⟩
  rw[show k1+(k11+1)=k1+k11+1 by omega]
  exact Bk0 (by omega) (by omega) (Classical.not_not.1 h21) h19
 case g32 =>
  subst hh4
  rw[A35 _ (by omega) h6 h18]at h20
  rw[cm_cut (by omega),cm_end (by omega) h19]
 case g34 =>
  subst hh4
  refine⟨rfl,by omega,by omega,fun j hj1 hj2=>?_⟩
  by_cases c:j=k1.toNat
  ·subst c;rw[← show(k1-1).toNat=k1.toNat-1 by omega];exact h9
  ·exact h7 j hj1 (by omega)
theorem B7x(l:List Record):(A6f l).length=l.length:=by
 unfold A6f srtB
 rw[List.length_map,(R9 B9f (l.map B0r)).length_eq,List.length_map]
theorem An1{r:Record}:Af6 r=true↔¬(¬ r.sku=noneS∧¬ K2 r.sku=true):=by
 unfold Af6
 rw[Bool.or_eq_true,decide_eq_true_iff]
 constructor
 ·rintro(h | h) ⟨h1,h2⟩
  ·exact h1 h
  ·exact h2 h
 ·intro h
  by_cases c:r.sku=noneS
  ·exact .inl c
  ·exact .inr (Classical.byContradiction fun k=>h ⟨c,k⟩)
theorem Aw0{rs:List Record}{i:Int}(h0:0≤i)(hi:i < rs.length)(h:¬ rs[i.toNat]!.sku=noneS∧¬ K2 rs[i.toNat]!.sku=true):E9 rs=([],5):=by
 unfold E9
 rw[if_neg]
 intro k
 exact An1.1 (List.all_eq_true.1 k _ (E4 (by omega))) h
theorem B42{rs:List Record}{i:Int}(hi:¬ i < rs.length)(h:∀ j:Nat,(j:Int) < i→Af6 rs[j]! = true):E9 rs=(A2b (lsR rs),0):=by
 unfold E9
 rw[if_pos]
 rw[List.all_eq_true]
 intro r hr
 obtain⟨j,hj,rfl⟩:=List.mem_iff_getElem.1 hr
 have:=h j (by omega)
 rwa [getElem!_pos rs j hj]at this
theorem B43{rs:List Record}{i:Int}(h0:0≤i)(hi:i < rs.length):lsR (rs.take (i+1).toNat)=lsR (rs.take i.toNat)++(if B8 rs[i.toNat]!.past=0 then[]else[clnR rs[i.toNat]!]):=by
 unfold lsR
 rw[← D4 h0 hi,List.filter_append,List.map_append]
 congr 1
 generalize rs[i.toNat]! = r
 by_cases h:B8 r.past=0
 ·rw[if_pos h,List.filter_cons_of_neg (by rw[decide_eq_true_iff];exact fun k=>k h)];rfl
 ·rw[if_neg h,List.filter_cons_of_pos (by rw[decide_eq_true_iff];exact h)];rfl
def B7y(rs:List Record)(i:Int)(out:List Record):Prop:=0≤i∧i≤rs.length∧(out.length:Int)≤i∧(∀ j:Nat,(j:Int) < i→Af6 rs[j]! = true)∧out=lsR (rs.take i.toNat)
def decKs(rs:List Record)(i:Int)(out:List Record):Nat:=(rs.length-i).toNat
theorem con45(rs:List Record)(hb:B0o rs)(hl:rs.length*64≤140737488350000):Con Tryz.prog 45 [.sl (rs.map c83)] (.tup [.sl ((E9 rs).1.map c83),.i .i64 (E9 rs).2]) :=
 by
 refine lN 0 c83 (rs) Tryz.func45 fun hl_0=>sC A9 [.tmp 2,.tmp 3] 36 Tryz.func45 ?_
 intro e0 cx
 refine sq<|rG cx [0] [] z0<|sn<|sq<|rG cx [0,4] [] z0<|sn<|sq<|sq<|rG cx [4,7,8,9] [] (tL 1 c83 rs z0)<|sn<|bL 0<|G3 4 1004 83 3 (σ':=⟨[(4,.own 1004 0),(7,.sl (List.map c83 rs)),(8,.i .i64 ((↑rs.length:Int))),(9,.i .i64 ((0:Int)))],[(1004,⟨0,83,.row 3 (List.map c83 [])⟩)]⟩) (by kernel_rfl)<|sL (X:=Int×List Record) (fun x=>⟨[(4,.own 1004 0),(7,.sl (List.map c83 rs)),(8,.i .i64 ((↑rs.length:Int))),(9,.i .i64 (x.1))],[(1004,⟨0,83,.row 3 (List.map c83 x.2)⟩)]⟩) (fun x ↦ decKs rs x.1 x.2) (fun x ↦ B7y rs x.1 x.2) [4,7,8,9] [1004] (((0:Int),[])) (show B7y rs (0:Int) []from(by exact⟨by omega,by omega,by simp,fun j hj=>by omega,by simp [lsR]⟩)) ?_
 rintro⟨i0,o1⟩ h_2
 obtain⟨hh3,hh4,hh5,hh6,hh7⟩:0≤i0∧i0≤(↑rs.length:Int)∧(↑o1.length:Int)≤i0∧(∀(j:Nat),(↑j:Int) < i0→Af6 rs[j]! = true)∧o1=lsR (List.take i0.toNat rs):=h_2
 refine rE cx [4,7,8,9,10] [1004] (zB 0 (i0 <(↑rs.length:Int))) (fun h8=>?_) fun h8=>?_
 refine sK<|sn<|sq<|bL 1<|sq<|rG cx [4,7,8,9,6] [1004,6] (fA (0≤i0) (fG c83 rs i0.toNat (fR 3 (fN 3 3 (oR 0 (c83 rs[i0.toNat]!) z0)))))<|sn<|sq<|sq<|B4 (σ':=⟨[(4,.own 1004 0),(7,.sl (List.map c83 rs)),(8,.i .i64 ((↑rs.length:Int))),(9,.i .i64 (i0)),(6,.ptr (6) (0) (0) (0)),(21,.b (decide (¬rs[i0.toNat]!.sku={ data:=#[]:ByteArray }∧¬K2 rs[i0.toNat]!.sku=true)))],[(1004,⟨0,83,.row 3 (List.map c83 o1)⟩),(6,⟨0,83,.var [.s (rs[i0.toNat]!.sku),.sl (List.map c3 rs[i0.toNat]!.past.vec),.sl (List.map B3 rs[i0.toNat]!.past.cloud)]⟩)]⟩) ?_ ?_
 refine A4 (¬rs[i0.toNat]!.sku={ data:=#[]:ByteArray }) (fun h_10=>?_) (fun h_10=>?_)
 refine rG cx [4,7,8,9,6,21] [1004,6] (tT 2 (A4h h_10:(AV.b !rs[i0.toNat]!.sku.toList == { data:=#[]:ByteArray }.toList)=AV.b true) (fT (Bd6 (rs[i0.toNat]!.sku)) (tT 7 (G4:(AV.b !K2 rs[i0.toNat]!.sku)=AV.b (decide ¬K2 rs[i0.toNat]!.sku=true)) (tD 8 (decide ¬K2 rs[i0.toNat]!.sku=true) (¬rs[i0.toNat]!.sku={ data:=#[]:ByteArray }∧¬K2 rs[i0.toNat]!.sku=true) (by simp only [eq_false h_10,tsl]) (oA 6 (.b (K2 rs[i0.toNat]!.sku)) z0))))) ?_
 exact⟨rfl,by kernel_rfl⟩
 refine rG cx [4,7,8,9,6,21] [1004,6] (tT 2 (A80:(AV.b !rs[i0.toNat]!.sku.toList == { data:=#[]:ByteArray }.toList)=AV.b (decide ¬rs[i0.toNat]!.sku={ data:=#[]:ByteArray })) (tT 3 (A0 h_10) (tT 8 (by first | (simp only [eq_false h_10,tsl];done) | simp_all:AV.b false=AV.b (decide (¬rs[i0.toNat]!.sku={ data:=#[]:ByteArray }∧¬K2 rs[i0.toNat]!.sku=true))) z0))) ?_
 exact⟨rfl,by kernel_rfl⟩
 refine sn<|dC (¬rs[i0.toNat]!.sku={ data:=#[]:ByteArray }∧¬K2 rs[i0.toNat]!.sku=true) (fun h11=>?_) fun h11=>?_
 refine sq<|rG cx [2,3] [] z0<|sn<|rT<|nR<|bR<|nR<|nR<|bR<|nR<|qR (.tup [.nl,.i .i64 ((5:Int))]) (C1.tup (ZLe.cons (C1.nl' (show List.map c83 (E9 rs).1=[]from(by rw[Aw0 hh3 h8 h11];rfl))) (ZLe.cons (C1.eq (show AV.i .i64 5=AV.i .i64 (E9 rs).2 from(by rw[Aw0 hh3 h8 h11]))) ZLe.nil)))
 refine sK<|sn<|sq<|rG cx [4,7,8,9,6,25] [1004,6] (fT (B6d (rs[i0.toNat]!.past) (by exact A03 hb hh3 h8)) (tQ 3 (B8 rs[i0.toNat]!.past=0) (oA 2 (.b (decide (B8 rs[i0.toNat]!.past=0))) z0))) ?_
 refine sn<|dC (¬B8 rs[i0.toNat]!.past=0) (fun h12=>?_) fun h12=>?_
 refine rG cx [4,7,8,9] [1004] (fT (Bf6 (rs[i0.toNat]!) (by exact A03 hb hh3 h8)) (fR 83 (fR 3 (fR 3 (fX c83 [{ sku:=rs[i0.toNat]!.sku,past:=A3 rs[i0.toNat]!.past:Record }] 3 (fS c83 o1 c83 [{ sku:=rs[i0.toNat]!.sku,past:=A3 rs[i0.toNat]!.past:Record }] (fP (((List.map c83 o1).length+(List.map c83 [{ sku:=rs[i0.toNat]!.sku,past:=A3 rs[i0.toNat]!.past:Record }]).length)*(64:Nat)≤(140737488355328:Nat)) (by(simp only [Go.maxLen,List.length_map,List.length_append,List.length_cons,List.length_nil];omega)) (fM c83 o1 [{ sku:=rs[i0.toNat]!.sku,past:=A3 rs[i0.toNat]!.past:Record }] (oA 2 (.agg [.s ({ sku:=rs[i0.toNat]!.sku,past:=A3 rs[i0.toNat]!.past:Record }.sku),.sl (List.map c3 { sku:=rs[i0.toNat]!.sku,past:=A3 rs[i0.toNat]!.past:Record }.past.vec),.sl (List.map B3 { sku:=rs[i0.toNat]!.sku,past:=A3 rs[i0.toNat]!.past:Record }.past.cloud)]) (oV 4 { rows:=some (List.map c83 (o1++[{ sku:=rs[i0.toNat]!.sku,past:=A3 rs[i0.toNat]!.past:Record }])) } z0)))))))))) ?_
 refine bN<|sn<|rG cx [4,7,8,9] [1004] (tW 0 (i0+1) z0)<|sn<|nX ((i0+1,o1++[{ sku:=rs[i0.toNat]!.sku,past:=A3 rs[i0.toNat]!.past:Record }])) (show((↑rs.length:Int)-(i0+1)).toNat <((↑rs.length:Int)-i0).toNat from(by omega)) (show B7y rs (i0+1) (o1++[{ sku:=rs[i0.toNat]!.sku,past:=A3 rs[i0.toNat]!.past:Record }])from ?g5);rotate_left
 refine sK<|bN<|sn<|rG cx [4,7,8,9] [1004] (tW 0 (i0+1) z0)<|sn<|nX ((i0+1,o1)) (show((↑rs.length:Int)-(i0+1)).toNat <((↑rs.length:Int)-i0).toNat from(by omega)) (show B7y rs (i0+1) o1 from ?g6);rotate_left
 refine eX 0<|nE<|nE<|bH<|sn<|sq<|rG cx [4] [1004] (fP (Y8 Tryz.prog (97:FuncId) (54:FuncId) none false (83:Nat) (3:Nat) (List.map c83 o1) (List.map c83 (A6f o1))) (io97 (o1) (by rw[hh7];exact B7k _) (by omega)) (oV 1 { rows:=some (List.map c83 (A6f o1)) } z0)) ?_
 refine sn<|sq<|rG cx [2,3] [1004] (fT (con98 (A6f o1) (by exact Au8 (A5h _)) (by rw[B7x];omega)) (oV 1 { val:=some (.vw (0) (0) (0) (0)),rows:=some (List.map c83 (I0 (A6f o1))) } z0)) ?_
 refine sn<|rT<|qR (.tup [.sl (((E.look [(1,{ val:=some (AV.vw (0) (0) (0) (0)),rows:=some (List.map c83 (I0 (A6f o1))):Ov })] (1)).getD {:Ov }).rows.getD []),.i .i64 ((0:Int))]) (C1.tup (ZLe.cons (C1.eq (show AV.sl (((E.look [(1,{ val:=some (AV.vw (0) (0) (0) (0)),rows:=some (List.map c83 (I0 (A6f o1))):Ov })] (1)).getD {:Ov }).rows.getD [])=AV.sl (List.map c83 (E9 rs).1)from ?g11)) (ZLe.cons (C1.eq (show AV.i .i64 0=AV.i .i64 (E9 rs).2 from(by rw[B42 h8 hh6]))) ZLe.nil)));rotate_left
 case g5 =>
  refine⟨by omega,by omega,by rw[List.length_append,List.length_singleton];omega,fun j hj=>?_,?_⟩
  ·by_cases e:j=i0.toNat
   ·rw[e];exact An1.2 h11
   ·exact hh6 j (by omega)
  ·rw[B43 hh3 h8,if_neg h12,hh7];rfl
 case g6 =>
  refine⟨by omega,by omega,by omega,fun j hj=>?_,?_⟩
  ·by_cases e:j=i0.toNat
   ·rw[e];exact An1.2 h11
   ·exact hh6 j (by omega)
  ·rw[B43 hh3 h8,if_pos (Classical.not_not.1 h12),hh7,List.append_nil]
 case g11 =>
  rw[B42 h8 hh6]
  rw[List.take_of_length_le (by omega)]at hh7
  rw[hh7]
  rfl
theorem con59(a b:List Record)(ha:B0o a)(hb:B0o b)(hl:(a.length+b.length)*64≤140737488350000):Con Tryz.prog 59 [.sl (a.map c83),.sl (b.map c83)] (.tup [.sl ((E3 a b).1.map c83),.i .i64 (E3 a b).2]) :=
 by
 have no:¬E2 a=0∨¬E2 b=0→E3 a b=([],1):=fun h=>by unfold E3;rw[if_neg (fun k=>h.elim (fun g=>g k.1) (fun g=>g k.2))]
 have yes:¬(¬E2 a=0∨¬E2 b=0)→E2 a=0∧E2 b=0:=fun h=>⟨Classical.not_not.1 fun k=>h (.inl k),Classical.not_not.1 fun k=>h (.inr k)⟩
 have fl:[a,b].flatten=a++b:=by simp
 have un:¬(¬E2 a=0∨¬E2 b=0)→E9 [a,b].flatten=E3 a b:=fun h=>by rw[fl,B0b (yes h).1 (yes h).2];unfold E3;rw[if_pos (yes h)]
 refine lN 0 c83 (a) Tryz.func59 fun hl_0=>lN 1 c83 (b) Tryz.func59 fun hl_1=>sC A9 [.tmp 4,.tmp 5] 21 Tryz.func59 ?_
 intro e0 cx
 refine sq<|rG cx [0,1] [] z0<|sn<|sq<|sq<|B4 (σ':=⟨[(0,.sl (List.map c83 a)),(1,.sl (List.map c83 b)),(13,.b (decide (¬E2 a=0∨¬E2 b=0)))],[]⟩) ?_ ?_
 refine A4 (¬E2 a=0) (fun h_1=>?_) (fun h_1=>?_)
 refine rG cx [0,1,13] [] (fT (Ad7 (a) (by(with_reducible assumption))) (tT 2 (F4 h_1:AV.b (E2 a !=0)=AV.b true) (tD 7 true (¬E2 a=0∨¬E2 b=0) (by simp only [eq_false h_1,tsl]) (oA 1 (.i .i64 (E2 a)) z0)))) ?_
 exact⟨rfl,by kernel_rfl⟩
 refine rG cx [0,1,13] [] (fT (Ad7 (a) (by(with_reducible assumption))) (tN 2 (E2 a) (0:Int) (tT 3 (A0 h_1) (fT (Ad7 (b) (by(with_reducible assumption))) (tN 6 (E2 b) (0:Int) (tT 7 (by first | (simp only [eq_false h_1,tsl];done) | simp_all:AV.b (decide ¬E2 b=0)=AV.b (decide (¬E2 a=0∨¬E2 b=0))) (oA 1 (.i .i64 (E2 a)) (oA 5 (.i .i64 (E2 b)) z0)))))))) ?_
 exact⟨rfl,by kernel_rfl⟩
 refine sn<|dC (¬E2 a=0∨¬E2 b=0) (fun h2=>?_) fun h2=>?_
 refine sq<|rG cx [4,5] [] z0<|sn<|rT<|nR<|qR (.tup [.nl,.i .i64 ((1:Int))]) (C1.tup (ZLe.cons (C1.nl' (show List.map c83 (E3 a b).1=[]from(by rw[no h2];rfl))) (ZLe.cons (C1.eq (show AV.i .i64 1=AV.i .i64 (E3 a b).2 from(by rw[no h2]))) ZLe.nil)))
 refine sK<|sn<|sq<|rG cx [4,5] [] (fT (con109 ([a,b]) (by rw[fl,List.length_append];omega)) (fT (con45 ([a,b].flatten) (by rw[fl];exact fun r hr=>(List.mem_append.1 hr).elim (ha r) (hb r)) (by rw[fl,List.length_append];omega)) (oV 3 { val:=some (.own (83:Nat) (3:Nat)),rows:=some (List.map c83 [a,b].flatten) } (oA 4 (.tup [.sl (List.map c83 (E9 [a,b].flatten).1),.i .i64 ((E9 [a,b].flatten).2)]) z0)))) ?_
 refine sn<|rT<|qR (.tup [.sl (List.map c83 (E9 [a,b].flatten).1),.i .i64 ((E9 [a,b].flatten).2)]) (C1.tup (ZLe.cons (C1.eq (show AV.sl (List.map c83 (E9 [a,b].flatten).1)=AV.sl (List.map c83 (E3 a b).1)from(by rw[un h2]))) (ZLe.cons (C1.eq (show AV.i .i64 (E9 [a,b].flatten).2=AV.i .i64 (E3 a b).2 from(by rw[un h2]))) ZLe.nil)))
end Go.Proofs.YtokhjapfekbobaaGreat
namespace Go.Proofs.YtokhjapfekbobaaGreat
open Go.E
set_option maxRecDepth 100000
set_option maxHeartbeats 4000000
theorem B44{a b:List Record}(ha:E2 a=0)(hb:E2 b=0):E3 a b=(A2b (a++b),0):=by unfold E3;rw[if_pos ⟨ha,hb⟩]
theorem A2n{a b:List Record}(ha:E2 a=0)(hb:E2 b=0):U1 (a++b):=fun r hr=>(A6b.1 (A2c ha hb r hr)).2.1
end Go.Proofs.YtokhjapfekbobaaGreat
namespace Go.Proofs.YtokhjapfekbobaaGreat
open Go.E
set_option maxRecDepth 100000
set_option maxHeartbeats 4000000
theorem An2{a b:Dot}:dLt a b=true↔a.rep < b.rep∨a.rep=b.rep∧a.num < b.num:=by simp [dLt]
theorem A5w(a:Dot):¬ dLt a a=true:=by rw[An2];omega
theorem Ag7{a b c:Dot}(h1:dLt a b=true)(h2:dLt b c=true):dLt a c=true:=by rw[An2]at *;omega
theorem Ag8{a b:Dot}(h1:¬ dLt a b=true)(h2:¬ dLt b a=true):a=b:=by
 rw[An2]at *
 cases a;cases b
 simp only at *
 congr 1 <;> omega
def upE(es:List Entry):Prop:=es.Pairwise (fun a b=>dLt a.dot b.dot=true)
def A05(es:List Entry):Prop:=(∀ e∈es,N9 e=0)∧upE es
theorem Bk1(es:List Entry):okL es=true↔A05 es:=by
 constructor
 ·intro h
  refine⟨fun e he=>?_,?_⟩
  ·obtain⟨i,hi,rfl⟩:=List.mem_iff_getElem.1 he
   have:=(A11 h hi).1
   rwa [getElem!_pos es i hi]at this
  ·unfold upE
   rw[List.pairwise_iff_getElem]
   have step:∀ n i:Nat,(hi:i+n+1 < es.length)→dLt es[i]!.dot es[i+n+1]!.dot=true:=by
    intro n
    induction n with
    | zero =>
     intro i hi
     have:=(A11 h hi).2
     rcases this with k | k
     ·omega
     ·simpa using k
    | succ n ih =>
     intro i hi
     have h1:=ih i (by omega)
     have h2:=(A11 h (i:=i+(n+1)+1) hi).2
     rcases h2 with k | k
     ·omega
     ·rw[show i+(n+1)+1-1=i+n+1 by omega]at k;exact Ag7 h1 k
   intro i j hi hj hij
   have:=step (j-i-1) i (by omega)
   rw[show i+(j-i-1)+1=j by omega,getElem!_pos es i hi,getElem!_pos es j hj]at this
   exact this
 ·rintro⟨h1,h2⟩
  unfold upE at h2
  rw[List.pairwise_iff_getElem]at h2
  unfold okL
  rw[J6]
  intro i hi
  rw[A0q]
  refine⟨h1 _ (A88 hi),?_⟩
  by_cases e:i=0
  ·exact .inl e
  ·refine .inr ?_
   have:=h2 (i-1) i (by omega) hi (by omega)
   rwa [getElem!_pos es (i-1) (by omega),getElem!_pos es i hi]
theorem V4(es:List Entry):D9 es=0↔A05 es:=by
 rw[← Bk1]
 exact⟨O9,fun h=>by unfold D9;rw[if_pos h]⟩
theorem M2{l es:List Entry}(h:A05 es)(hs:l.Sublist es):A05 l:=⟨fun e he=>h.1 e (hs.subset he),List.Pairwise.sublist hs h.2⟩
theorem A06{es:List Entry}(h:A05 es){x y:Entry}(hx:x∈es)(hy:y∈es)(hd:x.dot=y.dot):x=y:=by
 obtain⟨i,hi,rfl⟩:=List.mem_iff_getElem.1 hx
 obtain⟨j,hj,rfl⟩:=List.mem_iff_getElem.1 hy
 have hp:=List.pairwise_iff_getElem.1 h.2
 by_cases e:i=j
 ·subst e;rfl
 ·rcases Nat.lt_or_gt_of_ne e with e | e
  ·have:=hp i j hi hj e;rw[hd]at this;exact absurd this (A5w _)
  ·have:=hp j i hj hi e;rw[hd]at this;exact absurd this (A5w _)
theorem A7f:∀ {a b:List Entry},upE a→upE b→(∀ e,e∈a↔e∈b)→a=b
 | [],[],_,_,_=>rfl
 | [],y :: b,_,_,h=>by have:=(h y).2 (by simp);cases this
 | x :: a,[],_,_,h=>by have:=(h x).1 (by simp);cases this
 | x :: a,y :: b,ha,hb,h=>by
  have pa:=List.pairwise_cons.1 ha
  have pb:=List.pairwise_cons.1 hb
  have e:x=y:=by
   apply Classical.byContradiction
   intro hne
   have h1:x∈b:=by
    rcases List.mem_cons.1 ((h x).1 (by simp))with k | k
    ·exact absurd k hne
    ·exact k
   have h2:y∈a:=by
    rcases List.mem_cons.1 ((h y).2 (by simp))with k | k
    ·exact absurd k.symm hne
    ·exact k
   exact A5w _ (Ag7 (pa.1 y h2) (pb.1 x h1))
  subst e
  rw[A7f pa.2 pb.2 fun e=>?_]
  constructor
  ·intro he
   rcases List.mem_cons.1 ((h e).1 (by simp [he]))with k | k
   ·subst k;exact absurd (pa.1 e he) (A5w _)
   ·exact k
  ·intro he
   rcases List.mem_cons.1 ((h e).2 (by simp [he]))with k | k
   ·subst k;exact absurd (pb.1 e he) (A5w _)
   ·exact k
end Go.Proofs.YtokhjapfekbobaaGreat
namespace Go.Proofs.YtokhjapfekbobaaGreat
open Go.E
set_option maxRecDepth 100000
set_option maxHeartbeats 4000000
theorem B7z(s:List Entry):(A1g s).2=0∨(A1g s).2=10:=by unfold A1g;split <;> simp
theorem B45{a b:List Entry}(ha:D9 a=0)(hb:D9 b=0):(G0 a b).2=0∨(G0 a b).2=10:=by rw[A3z ha hb];exact B7z _
noncomputable def J9(a b:Facts):Facts:=⟨(G0 a.adds b.adds).1,C3 [a.gone,b.gone],A2b (a.recs++b.recs)⟩
noncomputable def A5(a b:Facts):Facts×Int:=if A9o a b=true then(if(G0 a.adds b.adds).2=0 then(J9 a b,0)else(zeroF,10))else(zeroF,1)
noncomputable def I3(f:Facts):List Entry:=(f.adds.filter fun e=>C8 f.gone e.dot == false).filter fun e=>decide (H4 f.recs e=0)
noncomputable def D8(f:Facts):List Entry×Int:=if okF f=true then(I3 f,0)else([],1)
def E7(es:List Entry):Past:=F6 (ofT (es.map fun e=>e.dot))
noncomputable def F1(f:Facts):Past×Int:=if okF f=true then(C3 [E7 f.adds,f.gone],0)else(⟨[],[]⟩,1)
def szB(n:Nat)(f:Facts):Prop:=szF f∧f.recs.length≤n*1048576∧A2q f.recs≤n*1099512676352
theorem H9{n m:Nat}{f:Facts}(h:szB n f)(hm:n≤m):szB m f:=⟨h.1,Nat.le_trans h.2.1 (Nat.mul_le_mul_right _ hm),Nat.le_trans h.2.2 (Nat.mul_le_mul_right _ hm)⟩
theorem Bk2{n:Nat}{f:Facts}(h:szB n f)(hn:n≤7):tokR f.recs:=⟨by have:=h.2.2;omega,by have:=h.2.1;omega⟩
theorem A36{a b:Facts}(h:¬ A9o a b=true):A5 a b=(zeroF,1):=by unfold A5;rw[if_neg h]
theorem A37{a b:Facts}(h:A9o a b=true)(k:¬(G0 a.adds b.adds).2=0):A5 a b=(zeroF,10):=by unfold A5;rw[if_pos h,if_neg k]
theorem An3{a b:Facts}(h:A9o a b=true)(k:(G0 a.adds b.adds).2=0):A5 a b=(J9 a b,0):=by unfold A5;rw[if_pos h,if_pos k]
theorem S5{a b:Facts}(h:A9o a b=true):(D9 a.adds=0∧a.gone=A3 a.gone∧E2 a.recs=0)∧(D9 b.adds=0∧b.gone=A3 b.gone∧E2 b.recs=0) :=
 ⟨H3.1 (Q2.1 h).1,H3.1 (Q2.1 h).2⟩
theorem B46{a b:Facts}(h:A9o a b=true)(k:¬(G0 a.adds b.adds).2=0):(G0 a.adds b.adds).2=10:=(B45 (S5 h).1.1 (S5 h).2.1).resolve_left k
theorem Bk3{a b:Facts}(h:A9o a b=true):A0l [a.gone,b.gone]*16≤140737488350000:=by
 have h1:=R7 (S5 h).1.2.1
 have h2:=R7 (S5 h).2.2.1
 have e:A0l [a.gone,b.gone]=a.gone.cloud.length+1+(b.gone.cloud.length+1):=by simp [A0l]
 rw[e]
 omega
theorem A98{es:List Entry}(h:D9 es=0):F5 es=(E7 es,0):=by unfold F5;rw[if_pos (O9 h)];rfl
theorem A5x(es:List Entry):E7 es=A3 (E7 es):=(A24 _).symm
theorem B80{f:Facts}(h:okF f=true):A0l [(F5 f.adds).1,f.gone]*16≤140737488350000:=by
 rw[A98 (H3.1 h).1]
 have h1:=R7 (A5x f.adds)
 have h2:=R7 (H3.1 h).2.1
 have e:A0l [E7 f.adds,f.gone]=(E7 f.adds).cloud.length+1+(f.gone.cloud.length+1):=by simp [A0l]
 show A0l [E7 f.adds,f.gone]*16≤_
 rw[e]
 omega
theorem An4{f:Facts}(h:okF f=true):J8 f.adds f.gone false=(f.adds.filter (fun e=>C8 f.gone e.dot == false),0):=by
 unfold J8
 rw[if_pos ⟨O9 (H3.1 h).1,(H3.1 h).2.1⟩]
theorem A7g{f:Facts}(h:okF f=true):M5 (J8 f.adds f.gone false).1 f.recs=D8 f:=by
 rw[An4 h]
 unfold M5 D8
 rw[if_pos h,if_pos ⟨(V4 _).2 (M2 ((V4 _).1 (H3.1 h).1) List.filter_sublist),(H3.1 h).2.2⟩]
 rfl
theorem B47{f:Facts}(h:¬ W7 f=0):D8 f=([],1):=by unfold D8;rw[if_neg (fun k=>h (U3.2 k))]
theorem An5{f:Facts}(h:¬ W7 f=0):F1 f=(⟨[],[]⟩,1):=by unfold F1;rw[if_neg (fun k=>h (U3.2 k))]
theorem An6{f:Facts}(h:okF f=true):F1 f=(C3 [E7 f.adds,f.gone],0):=by unfold F1;rw[if_pos h]
theorem Bk4(a b:Facts)(ha:szB 3 a)(hb:szB 3 b):Con Tryz.prog 19 [.agg (c29 a),.agg (c29 b)] (.tup [.agg (c29 (A5 a b).1),.i .i64 (A5 a b).2]) :=
 by
 have y:¬¬A9o a b=true→A9o a b=true:=Classical.not_not.1
 have ru:¬¬A9o a b=true→E3 a.recs b.recs=(A2b (a.recs++b.recs),0):=fun h=>B44 (S5 (y h)).1.2.2 (S5 (y h)).2.2.2
 refine sC A9 [.cell 4 29,.tmp 5] 47 Tryz.func19 ?_
 intro e0 cx
 refine sq<|rG cx [2,3,4] [2,3,4] z0<|sn<|sq<|sq<|rG cx [2,3,4,12] [2,3,4] (fT (con57 (a) (b) (by exact ha.1) (by exact hb.1)) (tT 3 (G4:(AV.b !A9o a b)=AV.b (decide ¬A9o a b=true)) (oA 2 (.b (A9o a b)) z0))) ?_
 refine sn<|dC (¬A9o a b=true) (fun h0=>?_) fun h0=>?_
 refine sq<|rG cx [4,5] [4] z0<|sn<|rT<|nR<|qR (.tup [.agg [.nl,.nl,.nl,.nl],.i .i64 ((1:Int))]) (C1.tup (ZLe.cons (C1.agg (ZLe.cons (C1.nl' (show List.map c67 (A5 a b).1.adds=[]from(by rw[A36 h0];rfl))) (ZLe.cons (C1.nl' (show List.map c3 (A5 a b).1.gone.vec=[]from(by rw[A36 h0];rfl))) (ZLe.cons (C1.nl' (show List.map B3 (A5 a b).1.gone.cloud=[]from(by rw[A36 h0];rfl))) (ZLe.cons (C1.nl' (show List.map c83 (A5 a b).1.recs=[]from(by rw[A36 h0];rfl))) ZLe.nil))))) (ZLe.cons (C1.eq (show AV.i .i64 1=AV.i .i64 (A5 a b).2 from(by rw[A36 h0]))) ZLe.nil)))
 refine sK<|sn<|sq<|rG cx [2,3,4,6,7] [2,3,4] (fT (con58 (a.adds) (b.adds)) (oA 4 (Bm8 (con58 (a.adds) (b.adds))) z0))<|sn<|sq<|sq<|rG cx [2,3,4,6,7,23] [2,3,4] (tN 1 ((G0 a.adds b.adds).2) (0:Int) z0)<|sn<|dC (¬(G0 a.adds b.adds).2=0) (fun h1=>?_) fun h1=>?_
 refine sq<|rG cx [4,5] [4] z0<|sn<|rT<|nR<|qR (.tup [.agg [.nl,.nl,.nl,.nl],.i .i64 ((G0 a.adds b.adds).2)]) (C1.tup (ZLe.cons (C1.agg (ZLe.cons (C1.nl' (show List.map c67 (A5 a b).1.adds=[]from(by rw[A37 (y h0) h1];rfl))) (ZLe.cons (C1.nl' (show List.map c3 (A5 a b).1.gone.vec=[]from(by rw[A37 (y h0) h1];rfl))) (ZLe.cons (C1.nl' (show List.map B3 (A5 a b).1.gone.cloud=[]from(by rw[A37 (y h0) h1];rfl))) (ZLe.cons (C1.nl' (show List.map c83 (A5 a b).1.recs=[]from(by rw[A37 (y h0) h1];rfl))) ZLe.nil))))) (ZLe.cons (C1.eq (show AV.i .i64 (G0 a.adds b.adds).2=AV.i .i64 (A5 a b).2 from(by rw[A37 (y h0) h1,B46 (y h0) h1]))) ZLe.nil)))
 refine sK<|sn<|sq<|rG cx [2,3,4,6,7,8] [2,3,4] (fT (con59 (a.recs) (b.recs) (by exact B04 ha.1.2) (by exact B04 hb.1.2) (by have:=ha.2.1;have:=hb.2.1;omega)) (oA 4 (.tup [.sl (List.map c83 (E3 a.recs b.recs).1),.i .i64 ((E3 a.recs b.recs).2)]) z0)) ?_
 refine sn<|sq<|sq<|rG cx [2,3,4,6,7,8,35] [2,3,4] (tN 1 ((E3 a.recs b.recs).2) (0:Int) z0)<|sn<|dC (¬(E3 a.recs b.recs).2=0) (fun h2=>?_) fun h2=>?_
 refine sq<|rG cx [4,5] [4] z0<|sn<|rT<|nR<|qR (.tup [.agg [.nl,.nl,.nl,.nl],.i .i64 ((E3 a.recs b.recs).2)]) (C1.tup (ZLe.cons (C1.agg (ZLe.cons (C1.nl' (show List.map c67 (A5 a b).1.adds=[]from(by exact absurd (by rw[ru h0]) h2))) (ZLe.cons (C1.nl' (show List.map c3 (A5 a b).1.gone.vec=[]from(by exact absurd (by rw[ru h0]) h2))) (ZLe.cons (C1.nl' (show List.map B3 (A5 a b).1.gone.cloud=[]from(by exact absurd (by rw[ru h0]) h2))) (ZLe.cons (C1.nl' (show List.map c83 (A5 a b).1.recs=[]from(by exact absurd (by rw[ru h0]) h2))) ZLe.nil))))) (ZLe.cons (C1.eq (show AV.i .i64 (E3 a.recs b.recs).2=AV.i .i64 (A5 a b).2 from(by exact absurd (by rw[ru h0]) h2))) ZLe.nil)))
 refine sK<|sn<|sq<|rG cx [4,5] [4] (fT (B6l ([a.gone,b.gone]) (by exact Bk3 (y h0))) (oA 6 (.agg [.sl (List.map c3 (C3 [a.gone,b.gone]).vec),.sl (List.map B3 (C3 [a.gone,b.gone]).cloud)]) z0)) ?_
 refine sn<|rT<|qR (.tup [.agg [.sl (List.map c67 (G0 a.adds b.adds).1),.sl (List.map c3 (C3 [a.gone,b.gone]).vec),.sl (List.map B3 (C3 [a.gone,b.gone]).cloud),.sl (List.map c83 (E3 a.recs b.recs).1)],.i .i64 ((0:Int))]) (C1.tup (ZLe.cons (C1.eq (show AV.agg [AV.sl (List.map c67 (G0 a.adds b.adds).1),AV.sl (List.map c3 (C3 [a.gone,b.gone]).vec),AV.sl (List.map B3 (C3 [a.gone,b.gone]).cloud),AV.sl (List.map c83 (E3 a.recs b.recs).1)]=AV.agg [AV.sl (List.map c67 (A5 a b).1.adds),AV.sl (List.map c3 (A5 a b).1.gone.vec),AV.sl (List.map B3 (A5 a b).1.gone.cloud),AV.sl (List.map c83 (A5 a b).1.recs)]from(by rw[An3 (y h0) (Classical.not_not.1 h1),ru h0];rfl))) (ZLe.cons (C1.eq (show AV.i .i64 0=AV.i .i64 (A5 a b).2 from(by rw[An3 (y h0) (Classical.not_not.1 h1)]))) ZLe.nil)))
theorem Bk5(f:Facts)(hb:szB 7 f):Con Tryz.prog 21 [.agg (c29 f)] (.tup [.sl ((D8 f).1.map c67),.i .i64 (D8 f).2]) :=
 by
 have y:¬¬W7 f=0→okF f=true:=fun h=>U3.1 (Classical.not_not.1 h)
 refine sC A9 [.tmp 2,.tmp 3] 26 Tryz.func21 ?_
 intro e0 cx
 refine sq<|rG cx [1] [1] z0<|sn<|sq<|sq<|rG cx [1,8] [1] (fT (Am7 (f) (by exact hb.1)) (tN 2 (W7 f) (0:Int) (oA 1 (.i .i64 (W7 f)) z0))) ?_
 refine sn<|dC (¬W7 f=0) (fun h0=>?_) fun h0=>?_
 refine sq<|rG cx [2,3] [] z0<|sn<|rT<|nR<|qR (.tup [.nl,.i .i64 ((1:Int))]) (C1.tup (ZLe.cons (C1.nl' (show List.map c67 (D8 f).1=[]from(by rw[B47 h0];rfl))) (ZLe.cons (C1.eq (show AV.i .i64 1=AV.i .i64 (D8 f).2 from(by rw[B47 h0]))) ZLe.nil)))
 refine sK<|sn<|sq<|rG cx [1,4,5] [1] (fT (con65 (f.adds) (f.gone) (by exact hb.1.1.1)) (oA 4 (.tup [.sl (List.map c67 (J8 f.adds f.gone false).1),.i .i64 ((J8 f.adds f.gone false).2)]) z0)) ?_
 refine sn<|sq<|sq<|rG cx [1,4,5,18] [1] (tN 1 ((J8 f.adds f.gone false).2) (0:Int) z0)<|sn<|dC (¬(J8 f.adds f.gone false).2=0) (fun h1=>?_) fun h1=>?_
 refine sq<|rG cx [2,3] [] z0<|sn<|rT<|nR<|qR (.tup [.nl,.i .i64 ((J8 f.adds f.gone false).2)]) (C1.tup (ZLe.cons (C1.nl' (show List.map c67 (D8 f).1=[]from(by exact absurd (by rw[An4 (y h0)]) h1))) (ZLe.cons (C1.eq (show AV.i .i64 (J8 f.adds f.gone false).2=AV.i .i64 (D8 f).2 from(by exact absurd (by rw[An4 (y h0)]) h1))) ZLe.nil)))
 refine sK<|sn<|sq<|rG cx [2,3] [] (fT (con62 ((J8 f.adds f.gone false).1) (f.recs) (by exact B04 hb.1.2) (by exact Bk2 hb (Nat.le_refl _))) (oA 3 (.tup [.sl (List.map c67 (M5 (J8 f.adds f.gone false).1 f.recs).1),.i .i64 ((M5 (J8 f.adds f.gone false).1 f.recs).2)]) z0)) ?_
 refine sn<|rT<|qR (.tup [.sl (List.map c67 (M5 (J8 f.adds f.gone false).1 f.recs).1),.i .i64 ((M5 (J8 f.adds f.gone false).1 f.recs).2)]) (C1.tup (ZLe.cons (C1.eq (show AV.sl (List.map c67 (M5 (J8 f.adds f.gone false).1 f.recs).1)=AV.sl (List.map c67 (D8 f).1)from(by rw[A7g (y h0)]))) (ZLe.cons (C1.eq (show AV.i .i64 (M5 (J8 f.adds f.gone false).1 f.recs).2=AV.i .i64 (D8 f).2 from(by rw[A7g (y h0)]))) ZLe.nil)))
theorem Bk6(f:Facts)(hb:szF f):Con Tryz.prog 22 [.agg (c29 f)] (.tup [.agg (c26 (F1 f).1),.i .i64 (F1 f).2]) :=
 by
 have y:¬¬W7 f=0→okF f=true:=fun h=>U3.1 (Classical.not_not.1 h)
 refine sC A9 [.cell 2 26,.tmp 3] 22 Tryz.func22 ?_
 intro e0 cx
 refine sq<|rG cx [1,2] [1,2] z0<|sn<|sq<|sq<|rG cx [1,2,8] [1,2] (fT (Am7 (f) (by(with_reducible assumption))) (tN 2 (W7 f) (0:Int) (oA 1 (.i .i64 (W7 f)) z0)))<|sn<|dC (¬W7 f=0) (fun h0=>?_) fun h0=>?_
 refine sq<|rG cx [2,3] [2] z0<|sn<|rT<|nR<|qR (.tup [.agg [.nl,.nl],.i .i64 ((1:Int))]) (C1.tup (ZLe.cons (C1.agg (ZLe.cons (C1.nl' (show List.map c3 (F1 f).1.vec=[]from(by rw[An5 h0];rfl))) (ZLe.cons (C1.nl' (show List.map B3 (F1 f).1.cloud=[]from(by rw[An5 h0];rfl))) ZLe.nil))) (ZLe.cons (C1.eq (show AV.i .i64 1=AV.i .i64 (F1 f).2 from(by rw[An5 h0]))) ZLe.nil)))
 refine sK<|sn<|sq<|rG cx [1,2,4,5] [1,2,4] (fT (Bj6 (f.adds)) (oA 2 (.tup [.agg [.sl (List.map c3 (F5 f.adds).1.vec),.sl (List.map B3 (F5 f.adds).1.cloud)],.i .i64 ((F5 f.adds).2)]) z0))<|sn<|sq<|rG cx [2,3] [2] (fT (B6l ([(F5 f.adds).1,f.gone]) (by exact B80 (y h0))) (oA 4 (.agg [.sl (List.map c3 (C3 [(F5 f.adds).1,f.gone]).vec),.sl (List.map B3 (C3 [(F5 f.adds).1,f.gone]).cloud)]) z0)) ?_
 refine sn<|rT<|qR (.tup [.agg [.sl (List.map c3 (C3 [(F5 f.adds).1,f.gone]).vec),.sl (List.map B3 (C3 [(F5 f.adds).1,f.gone]).cloud)],.i .i64 ((F5 f.adds).2)]) (C1.tup (ZLe.cons (C1.eq (show AV.agg [AV.sl (List.map c3 (C3 [(F5 f.adds).1,f.gone]).vec),AV.sl (List.map B3 (C3 [(F5 f.adds).1,f.gone]).cloud)]=AV.agg [AV.sl (List.map c3 (F1 f).1.vec),AV.sl (List.map B3 (F1 f).1.cloud)]from(by rw[An6 (y h0),A98 (H3.1 (y h0)).1]))) (ZLe.cons (C1.eq (show AV.i .i64 (F5 f.adds).2=AV.i .i64 (F1 f).2 from(by rw[An6 (y h0),A98 (H3.1 (y h0)).1]))) ZLe.nil)))
end Go.Proofs.YtokhjapfekbobaaGreat
namespace Go.Proofs.YtokhjapfekbobaaGreat
open Go.E
set_option maxRecDepth 100000
set_option maxHeartbeats 4000000
theorem A99{s:List Entry}(hs:Av3 s){i j:Nat}(hij:i < j)(hj:j < s.length):¬ dLt s[j]!.dot s[i]!.dot=true:=by
 have:=List.pairwise_iff_getElem.1 hs i j (by omega) hj hij
 rw[← getElem!_pos s i (by omega),← getElem!_pos s j hj]at this
 simpa [ltE]using this
theorem B48{s:List Entry}(hs:Av3 s):∀(n:Nat) (l:List Entry),n≤s.length→M4 s n=some l→upE l∧∀ e,e∈l↔e∈s.take n
 | 0,l,_,h=>by
  simp only [M4,Option.some.injEq]at h
  subst h
  exact⟨List.Pairwise.nil,fun e=>by simp⟩
 | n+1,l,hn,h=>by
  rw[M4]at h
  split at h
  ·cases h
  ·rename_i l0 h0
   obtain⟨i1,i2⟩:=B48 hs n l0 (by omega) h0
   have et:s.take (n+1)=s.take n++[s[n]!]:=by rw[getElem!_pos s n (by omega),← List.take_succ_eq_append_getElem (by omega)]
   split at h
   ·rename_i hc
    simp only [Option.some.injEq]at h
    subst h
    refine⟨List.pairwise_append.2 ⟨i1,by simp,fun x hx y hy=>?_⟩,fun e=>?_⟩
    ·have:y=s[n]!:=by simpa using hy
     subst this
     obtain⟨i,hi,rfl⟩:=List.mem_iff_getElem.1 ((i2 x).1 hx)
     rw[List.length_take]at hi
     rw[List.getElem_take,← getElem!_pos s i (by omega)]
     have h1:=A99 hs (i:=i) (j:=n) (by omega) (by omega)
     apply Classical.byContradiction
     intro h2
     have hd:=Ag8 h2 h1
     rcases hc with hc | hc
     ·omega
     ·by_cases ei:i=n-1
      ·subst ei;exact hc hd
      ·have h3:=A99 hs (i:=i) (j:=n-1) (by omega) (by omega)
       have h4:=A99 hs (i:=n-1) (j:=n) (by omega) (by omega)
       rw[hd]at h3
       exact hc (Ag8 h3 h4)
    ·rw[List.mem_append,et,List.mem_append,i2]
   ·rename_i hc
    split at h
    ·rename_i he
     simp only [Option.some.injEq]at h
     subst h
     refine⟨i1,fun e=>?_⟩
     rw[et,List.mem_append,i2]
     constructor
     ·exact fun k=>.inl k
     ·rintro(k | k)
      ·exact k
      ·have hn0:¬ n=0:=fun k0=>hc (.inl k0)
       have:e=s[n-1]!:=by rw[he];simpa using k
       subst this
       have hlt:n-1 <(s.take n).length:=by rw[List.length_take];omega
       have:=List.getElem_mem hlt
       rw[List.getElem_take,← getElem!_pos s (n-1) (by omega)]at this
       exact this
    ·cases h
theorem Ag9{s:List Entry}(hc:∀ x∈s,∀ y∈s,x.dot=y.dot→x=y):∀ n:Nat,n≤s.length→∃ l,M4 s n=some l
 | 0,_=>⟨[],rfl⟩
 | n+1,hn=>by
  obtain⟨l,hl⟩:=Ag9 hc n (by omega)
  rw[M4,hl]
  simp only
  split
  ·exact⟨_,rfl⟩
  ·rename_i h
   rw[if_pos]
   ·exact⟨_,rfl⟩
   ·refine hc _ (A88 (by omega)) _ (A88 (by omega)) ?_
    apply Classical.byContradiction
    exact fun k=>h (.inr k)
theorem A9a(es:List Entry)(e:Entry):e∈A31 es↔e∈es:=(List.mergeSort_perm es _).mem_iff
def P0(a b:List Entry):Prop:=∀ x∈a,∀ y∈b,x.dot=y.dot→x=y
theorem Ah0{a b:List Entry}(ha:A05 a)(hb:A05 b)(hc:P0 a b):∃ l,G0 a b=(l,0)∧A05 l∧∀ e,e∈l↔e∈a∨e∈b:=by
 rw[A3z ((V4 a).2 ha) ((V4 b).2 hb)]
 have hall:∀ x∈A31 (a++b),∀ y∈A31 (a++b),x.dot=y.dot→x=y:=by
  intro x hx y hy hd
  rw[A9a,List.mem_append]at hx hy
  rcases hx with hx | hx <;> rcases hy with hy | hy
  ·exact A06 ha hx hy hd
  ·exact hc x hx y hy hd
  ·exact(hc y hy x hx hd.symm).symm
  ·exact A06 hb hx hy hd
 obtain⟨l,hl⟩:=Ag9 hall _ (Nat.le_refl _)
 obtain⟨h1,h2⟩:=B48 (A7c _) _ l (Nat.le_refl _) hl
 have h3:∀ e,e∈l↔e∈a∨e∈b:=fun e=>by rw[h2,List.take_length,A9a,List.mem_append]
 refine⟨l,by unfold A1g;rw[hl],⟨fun e he=>?_,h1⟩,h3⟩
 rcases(h3 e).1 he with k | k
 ·exact ha.1 e k
 ·exact hb.1 e k
theorem An7{a b:List Entry}(ha:A05 a)(hb:A05 b)(hc:¬ P0 a b):G0 a b=([],10):=by
 rw[A3z ((V4 a).2 ha) ((V4 b).2 hb)]
 unfold A1g
 cases hl:M4 (A31 (a++b)) (A31 (a++b)).length with
 | none=>rfl
 | some l =>
  refine absurd (fun x hx y hy hd=>?_) hc
  have hx':x∈A31 (a++b):=by rw[A9a,List.mem_append];exact .inl hx
  have hy':y∈A31 (a++b):=by rw[A9a,List.mem_append];exact .inr hy
  obtain⟨i,hi,rfl⟩:=List.mem_iff_getElem.1 hx'
  obtain⟨j,hj,rfl⟩:=List.mem_iff_getElem.1 hy'
  have cl:=B0e (A7c _) hl
  rw[← getElem!_pos _ i hi,← getElem!_pos _ j hj]at hd ⊢
  rcases Nat.le_total i j with hij | hij
  ·exact cl i j hij hj hd
  ·exact(cl j i hij hi hd.symm).symm
end Go.Proofs.YtokhjapfekbobaaGreat
namespace Go.Proofs.YtokhjapfekbobaaGreat
open Go.E
set_option maxRecDepth 100000
set_option maxHeartbeats 4000000
theorem D7{f:Facts}:okF f=true↔A05 f.adds∧f.gone=A3 f.gone∧Az5 f.recs:=by rw[H3,V4,G8]
def agF(a b:Facts):Prop:=okF a=true∧okF b=true∧P0 a.adds b.adds
theorem B0i{a b:List Entry}(h:P0 a b):P0 b a:=fun x hx y hy hd=>(h y hy x hx hd.symm).symm
theorem agF.symm{a b:Facts}(h:agF a b):agF b a:=⟨h.2.1,h.1,B0i h.2.2⟩
theorem B81{x y:Facts}(hx:okF x=true)(hy:okF y=true)(h1:∀ e,e∈x.adds↔e∈y.adds)(h2:∀ d,C8 x.gone d=C8 y.gone d)(h3:∀ r,r∈x.recs↔r∈y.recs):x=y:=by
 obtain⟨x1,x2,x3⟩:=D7.1 hx
 obtain⟨y1,y2,y3⟩:=D7.1 hy
 have e1:=A7f x1.2 y1.2 h1
 have e2:=A8j x2 y2 h2
 have e3:=A2w x3.2 y3.2 (fun r hr=>(A6b.1 (x3.1 r hr)).2.1) (fun r hr=>(A6b.1 (y3.1 r hr)).2.1) h3
 cases x
 cases y
 simp only at e1 e2 e3
 rw[e1,e2,e3]
theorem L0{a b:Facts}(h:agF a b):A5 a b=(J9 a b,0)∧okF (J9 a b)=true∧(∀ e,e∈(J9 a b).adds↔e∈a.adds∨e∈b.adds)∧(∀ d,C8 (J9 a b).gone d=(C8 a.gone d || C8 b.gone d))∧∀ r,r∈(J9 a b).recs↔r∈a.recs∨r∈b.recs:=by
 obtain⟨a1,a2,a3⟩:=H3.1 h.1
 obtain⟨b1,b2,b3⟩:=H3.1 h.2.1
 obtain⟨l,u1,u2,u3⟩:=Ah0 ((V4 _).1 a1) ((V4 _).1 b1) h.2.2
 have hb:=Q2.2 ⟨h.1,h.2.1⟩
 have hn:=A2n a3 b3
 refine⟨An3 hb (by rw[u1]),D7.2 ⟨?_,R4 _,(G8 _).1 (A79 a3 b3)⟩,fun e=>?_,fun d=>?_,fun r=>?_⟩
 ·show A05 (G0 a.adds b.adds).1
  rw[u1];exact u2
 ·show e∈(G0 a.adds b.adds).1↔_
  rw[u1];exact u3 e
 ·show C8 (C3 [a.gone,b.gone]) d=_
  rw[Q0]
  simp
 ·show r∈A2b (a.recs++b.recs)↔_
  rw[Y5 hn,List.mem_append]
theorem B82{a b:Facts}(h:A9o a b=true)(hc:¬ P0 a.adds b.adds):A5 a b=(zeroF,10):=by
 have u:=An7 (D7.1 (Q2.1 h).1).1 (D7.1 (Q2.1 h).2).1 hc
 exact A37 h (by rw[u];decide)
theorem B49:okF zeroF=true:=D7.2 ⟨⟨fun e he=>(by cases he),List.Pairwise.nil⟩,Ad3.symm,⟨fun r hr=>(by cases hr),List.Pairwise.nil⟩⟩
theorem A0s{f:Facts}{e:Entry}:e∈I3 f↔e∈f.adds∧C8 f.gone e.dot=false∧H4 f.recs e=0:=by
 unfold I3
 rw[List.mem_filter,List.mem_filter,decide_eq_true_iff,beq_iff_eq,and_assoc]
theorem A07{f:Facts}(h:okF f=true):A05 (I3 f):=M2 (M2 (D7.1 h).1 List.filter_sublist) List.filter_sublist
theorem A9b{f:Facts}(h:okF f=true):D8 f=(I3 f,0):=by unfold D8;rw[if_pos h]
theorem J3{es:List Entry}(h:A05 es)(d:Dot):C8 (E7 es) d=true↔∃ e∈es,e.dot=d:=by
 unfold E7
 rw[has_of]
 constructor
 ·rintro⟨_,k⟩
  exact List.mem_map.1 k
 ·rintro⟨e,he,k⟩
  refine⟨?_,List.mem_map.2 ⟨e,he,k⟩⟩
  have:=Ad9 (h.1 e he)
  rw[← k]
  unfold P7
  rw[decide_eq_true_eq]
  exact this
theorem B4a{a b:List Record}(h:a.Perm b):A2q a=A2q b:=by
 induction h with
 | nil=>rfl
 | cons x _ ih=>simp only [A2q,List.map_cons,List.sum_cons]at *;omega
 | swap x y l=>simp only [A2q,List.map_cons,List.sum_cons];omega
 | trans _ _ ih1 ih2=>omega
theorem A9c{a b:List Record}(h:a.Sublist b):A2q a≤A2q b:=by
 induction h with
 | slnil=>exact Nat.le_refl _
 | cons x h ih=>simp only [A2q,List.map_cons,List.sum_cons]at *;omega
 | cons_cons x h ih=>simp only [A2q,List.map_cons,List.sum_cons]at *;omega
theorem A9d{α:Type}(p:α→α→Bool):∀(l:List α) (a:α),(A94 p a l).Sublist l
 | [],a=>by simp [A94]
 | b :: l,a=>by
  simp only [A94]
  split
  ·exact .cons _ (A9d p l b)
  ·exact .cons_cons _ (A9d p l b)
theorem B83{l:List Record}(h:U1 l):A2q (A2b l)≤A2q l:=by
 have h1:(A2b l).Sublist (A6f l):=by
  unfold A2b I0
  cases A6f l with
  | nil=>exact .slnil
  | cons a t=>exact .cons_cons _ (A9d _ t a)
 rw[← B4a (Af5 h)]
 exact A9c h1
theorem A9e{a b:Facts}{n m:Nat}(ha:szB n a)(hb:szB m b):szB (n+m) (A5 a b).1:=by
 have z:szB (n+m) zeroF:=⟨⟨⟨by decide,by decide⟩,fun r hr=>(by cases hr)⟩,Nat.zero_le _,Nat.zero_le _⟩
 unfold A5
 split
 ·rename_i h
  split
  ·have hp:=S5 h
   have hn:=A2n hp.1.2.2 hp.2.2.2
   have t:=P9 (A7 [a.gone,b.gone])
   refine⟨⟨⟨?_,?_⟩,fun r hr=>?_⟩,?_,?_⟩
   ·show(F6 (A7 [a.gone,b.gone])).cloud.length*16≤_
    have:=t.1;omega
   ·show(F6 (A7 [a.gone,b.gone])).vec.length≤_
    have:=t.2;omega
   ·have hr:r∈A2b (a.recs++b.recs):=hr
    rw[Y5 hn,List.mem_append]at hr
    exact hr.elim (ha.1.2 r) (hb.1.2 r)
   ·show(A2b (a.recs++b.recs)).length≤_
    have h1:=B7j (a.recs++b.recs)
    rw[List.length_append]at h1
    have h2:=ha.2.1
    have h3:=hb.2.1
    rw[Nat.add_mul]
    omega
   ·show A2q (A2b (a.recs++b.recs))≤_
    have h1:=B83 hn
    rw[A8s]at h1
    have h2:=ha.2.2
    have h3:=hb.2.2
    rw[Nat.add_mul]
    omega
  ·exact z
 ·exact z
end Go.Proofs.YtokhjapfekbobaaGreat
namespace Go.Proofs.YtokhjapfekbobaaGreat
open Go.E
set_option maxRecDepth 100000
set_option maxHeartbeats 4000000
structure Dig where
 heard:Past
 live:Past
 deriving Inhabited,DecidableEq
def c31(f:Facts):List AV:=[.sl (f.adds.map c67),.sl (f.gone.vec.map c3),.sl (f.gone.cloud.map B3),.sl (f.recs.map c83)]
def c76(d:Dig):List AV:=[.sl (d.heard.vec.map c3),.sl (d.heard.cloud.map B3),.sl (d.live.vec.map c3),.sl (d.live.cloud.map B3)]
end Go.Proofs.YtokhjapfekbobaaGreat
namespace Go.Proofs.YtokhjapfekbobaaGreat
open Go.E
set_option maxRecDepth 100000
set_option maxHeartbeats 4000000
def B7(f:Facts):Past:=C3 [E7 f.adds,f.gone]
noncomputable def stF(f:Facts):Facts:=⟨I3 f,B7 f,I2 f.recs (B7 f)⟩
def expF(s:Facts):Facts:=⟨s.adds,B1 s.gone (E7 s.adds),s.recs⟩
theorem B9l(s:Facts):∃ b:Bool,b=decide (okF s=true∧B8 (B1 (E7 s.adds) s.gone)=0∧(I2 s.recs s.gone).length=s.recs.length∧(s.adds.filter fun e=>decide (H4 s.recs e=0)).length=s.adds.length):=⟨_,rfl⟩
noncomputable def okS(s:Facts):Bool:=Classical.choose (B9l s)
theorem okS_eq(s:Facts):okS s=decide (okF s=true∧B8 (B1 (E7 s.adds) s.gone)=0∧(I2 s.recs s.gone).length=s.recs.length∧(s.adds.filter fun e=>decide (H4 s.recs e=0)).length=s.adds.length):=Classical.choose_spec (B9l s)
theorem O7{a b:Past}:B8 (B1 a b)=0↔∀ d,C8 a d=true→C8 b d=true:=by
 rw[A0o]
 constructor
 ·intro h d hd
  have:=h d
  rw[A1b,hd]at this
  simpa using this
 ·intro h d
  rw[A1b]
  cases c:C8 a d with
  | false=>rfl
  | true=>rw[h d c];rfl
theorem Aw1{α:Type}{p:α→Bool}{l:List α}:(l.filter p).length=l.length↔∀ x∈l,p x=true:=by
 constructor
 ·intro h x hx
  have:l.filter p=l:=List.Sublist.eq_of_length List.filter_sublist h
  rw[← this]at hx
  exact(List.mem_filter.1 hx).2
 ·intro h
  rw[List.filter_eq_self.2 h]
theorem Y7{s:Facts}:okS s=true↔okF s=true∧(∀ e∈s.adds,C8 s.gone e.dot=true)∧(∀ r∈s.recs,¬ B8 (B1 r.past s.gone)=0)∧∀ e∈s.adds,H4 s.recs e=0:=by
 rw[okS_eq,decide_eq_true_iff]
 unfold I2
 rw[Aw1,Aw1]
 constructor
 ·rintro⟨h1,h2,h3,h4⟩
  refine⟨h1,fun e he=>(O7.1 h2) _ ((J3 (D7.1 h1).1 _).2 ⟨e,he,rfl⟩),fun r hr=>of_decide_eq_true (h3 r hr),fun e he=>of_decide_eq_true (h4 e he)⟩
 ·rintro⟨h1,h2,h3,h4⟩
  refine⟨h1,O7.2 fun d hd=>?_,fun r hr=>decide_eq_true (h3 r hr),fun e he=>decide_eq_true (h4 e he)⟩
  obtain⟨e,he,rfl⟩:=(J3 (D7.1 h1).1 d).1 hd
  exact h2 e he
theorem A9f{α:Type}{p:α→Bool}{l:List α}(h:∀ x∈l,p x=true):l.filter p=l:=List.filter_eq_self.2 h
theorem Bk7{s:Facts}(h:okS s=true):I2 s.recs s.gone=s.recs:=A9f fun r hr=>decide_eq_true ((Y7.1 h).2.2.1 r hr)
theorem B4b{f:Facts}(h1:∀ e∈f.adds,C8 f.gone e.dot=false)(h2:∀ e∈f.adds,H4 f.recs e=0):I3 f=f.adds:=by
 unfold I3
 rw[A9f (p:=fun e:Entry=>C8 f.gone e.dot == false) (fun e he=>by rw[h1 e he];rfl)]
 exact A9f fun e he=>decide_eq_true (h2 e he)
theorem B9m{s:Facts}(h:okS s=true):okF (expF s)=true:=by
 have k:=(Y7.1 h).1
 rw[D7]at k ⊢
 exact⟨k.1,W3 _ _,k.2.2⟩
theorem B84{s:Facts}(h:okS s=true):I3 (expF s)=s.adds:=by
 have k:=Y7.1 h
 refine B4b (fun e he=>?_) k.2.2.2
 show C8 (B1 s.gone (E7 s.adds)) e.dot=false
 rw[A1b,(J3 (D7.1 k.1).1 e.dot).2 ⟨e,he,rfl⟩]
 simp
theorem A08{f:Facts}(d:Dot):C8 (B7 f) d=(C8 (E7 f.adds) d || C8 f.gone d):=by
 unfold B7
 rw[Q0]
 simp
theorem N3(f:Facts):B7 f=A3 (B7 f):=R4 _
theorem B4c{s:Facts}(h:okS s=true):B7 (expF s)=s.gone:=by
 have k:=Y7.1 h
 refine A8j (N3 _) (D7.1 k.1).2.1 fun d=>?_
 rw[A08]
 show(C8 (E7 s.adds) d || C8 (B1 s.gone (E7 s.adds)) d)=_
 rw[A1b]
 cases c:C8 (E7 s.adds) d with
 | false=>simp
 | true =>
  obtain⟨e,he,rfl⟩:=(J3 (D7.1 k.1).1 d).1 c
  rw[k.2.1 e he]
  rfl
theorem st_exp{s:Facts}(h:okS s=true):stF (expF s)=s:=by
 unfold stF
 rw[B84 h,B4c h]
 show(⟨s.adds,s.gone,I2 s.recs s.gone⟩:Facts)=s
 rw[Bk7 h]
theorem W5{rs:List Record}{p:Past}(h:Az5 rs):Az5 (I2 rs p):=⟨fun r hr=>h.1 r (List.mem_filter.1 hr).1,List.Pairwise.sublist List.filter_sublist h.2⟩
theorem U4{f:Facts}{e:Entry}(h:e∈I3 f):e∈f.adds:=(A0s.1 h).1
theorem A40{rs:List Record}{p:Record→Bool}{e:Entry}(h:H4 rs e=0):H4 (rs.filter p) e=0:=by
 rw[J7]at h ⊢
 rintro⟨r,hr,k⟩
 exact h ⟨r,(List.mem_filter.1 hr).1,k⟩
theorem A6h{f:Facts}(h:okF f=true):okS (stF f)=true:=by
 have k:=D7.1 h
 rw[Y7]
 refine⟨D7.2 ⟨A07 h,N3 f,W5 k.2.2⟩,fun e he=>?_,fun r hr=>?_,fun e he=>?_⟩
 ·show C8 (B7 f) e.dot=true
  rw[A08,(J3 k.1 e.dot).2 ⟨e,U4 he,rfl⟩]
  rfl
 ·exact of_decide_eq_true (List.mem_filter.1 hr).2
 ·exact A40 (A0s.1 he).2.2
def Aw2(heard live:Past)(d:Dig):Past:=C3 [B1 (B1 heard live) d.heard,A9n (B1 heard live) d.live]
noncomputable def B4d(es:List Entry)(d:Dig):List Entry:=es.filter fun e=>C8 d.heard e.dot == false
noncomputable def Z0(f:Facts)(d:Dig):Facts:=⟨B4d (I3 f) d,Aw2 (B7 f) (E7 (I3 f)) d,I2 f.recs (B7 f)⟩
noncomputable def A5y(s:Facts)(d:Dig):Facts:=⟨B4d s.adds d,C3 [E7 (B4d s.adds d),Aw2 s.gone (E7 s.adds) d],s.recs⟩
theorem An8{h l:Past}{d:Dig}(x:Dot):C8 (Aw2 h l d) x=((C8 h x && !C8 l x) && (!C8 d.heard x || C8 d.live x)):=by
 unfold Aw2
 rw[Q0]
 simp only [List.any_cons,List.any_nil,Bool.or_false]
 rw[A1b,Bd3,A1b]
 cases C8 h x <;> cases C8 l x <;> cases C8 d.heard x <;> cases C8 d.live x <;> rfl
theorem An9{f:Facts}{d:Dig}(h:okF f=true):okF (Z0 f d)=true :=
 D7.2 ⟨M2 (A07 h) List.filter_sublist,R4 _,W5 (D7.1 h).2.2⟩
theorem B4e{f:Facts}{d:Dig}(h:okF f=true):stF (Z0 f d)=A5y (stF f) d:=by
 have k:=D7.1 h
 have hl:∀ e∈B4d (I3 f) d,e∈I3 f:=fun e he=>(List.mem_filter.1 he).1
 have e1:I3 (Z0 f d)=B4d (I3 f) d:=by
  refine B4b (f:=Z0 f d) (fun e he=>?_) fun e he=>A40 (A0s.1 (hl e he)).2.2
  show C8 (Aw2 (B7 f) (E7 (I3 f)) d) e.dot=false
  rw[An8,(J3 (A07 h) e.dot).2 ⟨e,hl e he,rfl⟩]
  simp
 have e2:I2 (I2 f.recs (B7 f)) (B7 (Z0 f d))=I2 f.recs (B7 f):=by
  refine A9f fun r hr=>decide_eq_true ?_
  have hw:=of_decide_eq_true (List.mem_filter.1 hr).2
  intro c
  refine hw (O7.2 fun x hx=>?_)
  have y:=O7.1 c x hx
  rw[A08]at y
  rcases Bool.or_eq_true _ _ ▸ y with y | y
  ·obtain⟨e,he,rfl⟩:=(J3 (M2 (A07 h) List.filter_sublist) x).1 y
   rw[A08,(J3 k.1 _).2 ⟨e,U4 (hl e he),rfl⟩]
   rfl
  ·have y:C8 (Aw2 (B7 f) (E7 (I3 f)) d) x=true:=y
   rw[An8]at y
   cases z:C8 (B7 f) x with
   | true=>rfl
   | false=>rw[z]at y;simp at y
 unfold stF
 rw[e1]
 show(⟨B4d (I3 f) d,B7 (Z0 f d),I2 (I2 f.recs (B7 f)) (B7 (Z0 f d))⟩:Facts)=_
 rw[e2]
 rfl
theorem B85{s:Facts}{d:Dig}(h:okS s=true):stF (Z0 (expF s) d)=A5y s d:=by
 rw[B4e (B9m h),st_exp h]
end Go.Proofs.YtokhjapfekbobaaGreat
namespace Go.Proofs.YtokhjapfekbobaaGreat
open Go.E
set_option maxRecDepth 100000
set_option maxHeartbeats 4000000
noncomputable def A3q(d:Dig):Int:=if d.heard=A3 d.heard∧d.live=A3 d.live∧B8 (B1 d.live d.heard)=0 then 0 else 1
noncomputable def ofF(f:Facts):Dig×Int:=if okF f=true then(⟨B7 f,E7 (I3 f)⟩,0)else(⟨⟨[],[]⟩,⟨[],[]⟩⟩,1)
noncomputable def ofS(s:Facts):Dig×Int:=if okS s=true then(⟨s.gone,E7 s.adds⟩,0)else(⟨⟨[],[]⟩,⟨[],[]⟩⟩,1)
noncomputable def C2(f:Facts)(d:Dig):Facts×Int:=if okF f=true∧A3q d=0 then(Z0 f d,0)else(zeroF,1)
def szD(d:Dig):Prop:=szP d.heard∧szP d.live
theorem A5z{p:Past}(h:p=A3 p):p.cloud.length*16≤140737488350000:=by have:=R7 h;omega
theorem Bk8(es:List Entry):(F5 es).1.cloud.length*16≤140737488350000:=by have:=B3x es;omega
theorem Bk9{a b:Past}(ha:a=A3 a)(hb:b=A3 b):A0l [a,b]*16≤140737488350000:=by
 have h1:=R7 ha
 have h2:=R7 hb
 have e:A0l [a,b]=a.cloud.length+1+(b.cloud.length+1):=by simp [A0l]
 rw[e]
 omega
theorem Ao0{f:Facts}(h:szB 7 f):f.recs.length*64≤140737488350000:=by have:=h.2.1;omega
theorem Bl0{rs:List Record}(h:E2 rs=0):E9 rs=(rs,0):=by
 have k:=(G8 rs).1 h
 unfold E9
 rw[if_pos (Av0 k.1),Au9 k.1,← B7i (A30 h) k.2 (fun r=>Iff.rfl)]
theorem Aw3{es:List Entry}(h:D9 es=0):(F5 es).1=E7 es:=by rw[A98 h]
theorem A38{s:Facts}(h:okS s=true):okF s=true:=(Y7.1 h).1
theorem dig_no{d:Dig}(h:¬d.heard=A3 d.heard∨¬d.live=A3 d.live∨¬B8 (B1 d.live d.heard)=0):A3q d=1:=by
 unfold A3q
 rw[if_neg]
 rintro⟨a,b,c⟩
 rcases h with h | h | h
 ·exact h a
 ·exact h b
 ·exact h c
theorem Bl1{d:Dig}(h:¬(¬d.heard=A3 d.heard∨¬d.live=A3 d.live∨¬B8 (B1 d.live d.heard)=0)):A3q d=0:=by
 unfold A3q
 rw[if_pos ⟨Classical.not_not.1 fun k=>h (.inl k),Classical.not_not.1 fun k=>h (.inr (.inl k)),Classical.not_not.1 fun k=>h (.inr (.inr k))⟩]
theorem B4f{d:Dig}(h:A3q d=0):d.heard=A3 d.heard∧d.live=A3 d.live∧B8 (B1 d.live d.heard)=0:=by
 unfold A3q at h
 split at h
 ·assumption
 ·omega
theorem A7h{f:Facts}(h:¬ okF f=true):ofF f=(⟨⟨[],[]⟩,⟨[],[]⟩⟩,1):=by unfold ofF;rw[if_neg h]
theorem A2o{f:Facts}(h:okF f=true):ofF f=(⟨B7 f,E7 (I3 f)⟩,0):=by unfold ofF;rw[if_pos h]
theorem B9n{s:Facts}(h:okS s=true):ofS s=(⟨s.gone,E7 s.adds⟩,0):=by unfold ofS;rw[if_pos h]
theorem Bl2{f:Facts}{d:Dig}(h:¬ okF f=true∨¬ A3q d=0):C2 f d=(zeroF,1):=by unfold C2;rw[if_neg (fun k=>h.elim (fun g=>g k.1) (fun g=>g k.2))]
theorem A1h{f:Facts}{d:Dig}(h:okF f=true)(k:A3q d=0):C2 f d=(Z0 f d,0):=by unfold C2;rw[if_pos ⟨h,k⟩]
theorem K3{f:Facts}(h:¬(D8 f).2=0):¬ okF f=true∧(D8 f).2=1:=by
 by_cases k:okF f=true
 ·rw[A9b k]at h;exact absurd rfl h
 ·exact⟨k,by unfold D8;rw[if_neg k]⟩
theorem M3{f:Facts}(h:¬ ¬(D8 f).2=0):okF f=true:=by
 by_cases k:okF f=true
 ·exact k
 ·exact absurd (by unfold D8;rw[if_neg k];decide) h
theorem A9g{f:Facts}(h:okF f=true):D9 (I3 f)=0:=(V4 _).2 (A07 h)
theorem A1i{f:Facts}(h:okF f=true):F1 f=(B7 f,0):=An6 h
theorem B86{es:List Entry}{d:Dig}(h:D9 es=0)(k:A3q d=0):J8 es d.heard false=(B4d es d,0):=by
 unfold J8
 rw[if_pos ⟨O9 h,(B4f k).1⟩]
 rfl
theorem O1{f:Facts}{d:Dig}(h:¬(¬W7 f=0∨¬A3q d=0)):okF f=true∧A3q d=0:=⟨U3.1 (Classical.not_not.1 fun k=>h (.inl k)),Classical.not_not.1 fun k=>h (.inr k)⟩
theorem Ah1{f:Facts}{d:Dig}(h:¬W7 f=0∨¬A3q d=0):C2 f d=(zeroF,1):=Bl2 (h.imp (fun k c=>k (U3.2 c)) id)
theorem A41{f:Facts}(h:okF f=true):S9 f.recs (F1 f).1=(I2 f.recs (B7 f),0):=by
 rw[A1i h]
 exact Am0 (H3.1 h).2.2 (N3 f)
theorem Aw4{rs:List Record}{p:Past}(h:E2 rs=0):E2 (I2 rs p)=0:=(G8 _).2 (W5 ((G8 _).1 h))
theorem Ao1(rs:List Record)(p:Past):(I2 rs p).length≤rs.length:=List.length_filter_le _ _
theorem con81(d:Dig)(hb:szD d):Con Tryz.prog 81 [.agg (c76 d)] (.i .i64 (A3q d)) :=
 by
 refine sC A9 [.tmp 2] 21 Tryz.func81 ?_
 intro e0 cx
 refine sq<|rG cx [1] [1] z0<|sn<|sq<|sq<|B4 (σ':=⟨[(20,.b (decide (¬d.heard=A3 d.heard∨¬d.live=A3 d.live∨¬B8 (B1 d.live d.heard)=0)))],[]⟩) ?_ ?_
 refine A4 (¬d.heard=A3 d.heard) (fun h1=>?_) (fun h1=>?_)
 refine rg (A:=_∧_∧(AV.b true=AV.b (decide (¬d.heard=A3 d.heard∨¬d.live=A3 d.live∨¬B8 (B1 d.live d.heard)=0)))) cx [(2,{ val:=some (.b (decide (d.heard=A3 d.heard))),tell:=some (.b (false)) }),(17,{ tell:=some (.b (decide (¬d.heard=A3 d.heard∨¬d.live=A3 d.live∨¬B8 (B1 d.live d.heard)=0))) })] [20] [] ⟨(A0 h1),(A4w (d.heard) ?g0),(by simp only [eq_false h1,tsl])⟩ ?_;rotate_left
 exact⟨rfl,by kernel_rfl⟩
 refine A4 (¬d.live=A3 d.live) (fun h2=>?_) (fun h2=>?_)
 refine rg (A:=_∧((AV.b !decide (d.heard=A3 d.heard))=AV.b (decide ¬d.heard=A3 d.heard))∧_∧_∧_∧(AV.b true=AV.b (decide (¬d.heard=A3 d.heard∨¬d.live=A3 d.live∨¬B8 (B1 d.live d.heard)=0)))) cx [(2,{ val:=some (.b (decide (d.heard=A3 d.heard))) }),(3,{ tell:=some (.b (decide ¬d.heard=A3 d.heard)) }),(4,{ tell:=some (.b (false)) }),(7,{ val:=some (.b (decide (d.live=A3 d.live))),tell:=some (.b (false)) }),(17,{ tell:=some (.b (decide (¬d.heard=A3 d.heard∨¬d.live=A3 d.live∨¬B8 (B1 d.live d.heard)=0))) })] [20] [] ⟨(A4w (d.heard) ?g1),(A1s),(A0 h1),(A0 h2),(A4w (d.live) ?g2),(by first | (simp only [eq_false h1,eq_false h2,tsl];done) | simp_all)⟩ ?_;rotate_left 2
 exact⟨rfl,by kernel_rfl⟩
 refine rG cx [20] [] (fT (A4w (d.heard) ?g3) (tQ 3 (d.heard=A3 d.heard) (tT 4 (A0 h1) (fT (A4w (d.live) ?g4) (tQ 8 (d.live=A3 d.live) (tT 9 (A0 h2) (fT (con69 (d.live) (d.heard) ?g5 ?g6) (tQ 16 (B8 (B1 d.live d.heard)=0) (tT 17 (by first | (simp only [eq_false h1,eq_false h2,tsl];done) | simp_all:AV.b (decide ¬B8 (B1 d.live d.heard)=0)=AV.b (decide (¬d.heard=A3 d.heard∨¬d.live=A3 d.live∨¬B8 (B1 d.live d.heard)=0))) (oA 2 (.b (decide (d.heard=A3 d.heard))) (oA 7 (.b (decide (d.live=A3 d.live))) (oA 15 (.b (decide (B8 (B1 d.live d.heard)=0))) z0)))))))))))) ?_;rotate_left 4
 exact⟨rfl,by kernel_rfl⟩
 refine sn<|dC (¬d.heard=A3 d.heard∨¬d.live=A3 d.live∨¬B8 (B1 d.live d.heard)=0) (fun h3=>?_) fun h3=>?_
 refine sq<|rG cx [2] [] z0<|sn<|rT<|nR<|qR (.i .i64 ((1:Int))) (.eq ?g7);rotate_left
 refine sK<|sn<|sq<|rG cx [2] [] z0<|sn<|rT<|qR (.i .i64 ((0:Int))) (.eq ?g8);rotate_left
 revert h1;rotate_left
 revert h1 h2;rotate_left
 revert h1 h2;rotate_left
 revert h1 h2;rotate_left
 revert h1 h2;rotate_left
 revert h1 h2;rotate_left
 revert h1 h2;rotate_left
 revert h3;rotate_left
 revert h3;rotate_left
 case g7=>intro h;rw[dig_no h]
 case g8=>intro h;rw[Bl1 h]
 all_goals (intros;first | exact hb.1.1 | exact hb.2.1)
theorem Bl3(f:Facts)(hb:szB 7 f):Con Tryz.prog 36 [.agg (c29 f)] (.tup [.agg (c76 (ofF f).1),.i .i64 (ofF f).2]) :=
 by
 refine sC A9 [.cell 2 76,.tmp 3] 32 Tryz.func36 ?_
 intro e0 cx
 refine sq<|rG cx [1,2] [1,2] z0<|sn<|sq<|rG cx [1,2,4,5] [1,2] (fT (Bk5 (f) (by(with_reducible assumption))) (oA 1 (.tup [.sl (List.map c67 (D8 f).1),.i .i64 ((D8 f).2)]) z0))<|sn<|sq<|sq<|rG cx [1,2,4,5,16] [1,2] (tN 1 ((D8 f).2) (0:Int) z0)<|sn<|dC (¬(D8 f).2=0) (fun h0=>?_) fun h0=>?_
 refine sq<|rG cx [2,3] [2] z0<|sn<|rT<|nR<|qR (.tup [.agg [.nl,.nl,.nl,.nl],.i .i64 ((D8 f).2)]) (C1.tup (ZLe.cons (C1.agg (ZLe.cons (C1.nl' (show List.map c3 (ofF f).1.heard.vec=[]from(by rw[A7h (K3 h0).1];rfl))) (ZLe.cons (C1.nl' (show List.map B3 (ofF f).1.heard.cloud=[]from(by rw[A7h (K3 h0).1];rfl))) (ZLe.cons (C1.nl' (show List.map c3 (ofF f).1.live.vec=[]from(by rw[A7h (K3 h0).1];rfl))) (ZLe.cons (C1.nl' (show List.map B3 (ofF f).1.live.cloud=[]from(by rw[A7h (K3 h0).1];rfl))) ZLe.nil))))) (ZLe.cons (C1.eq (show AV.i .i64 (D8 f).2=AV.i .i64 (ofF f).2 from(by rw[(K3 h0).2,A7h (K3 h0).1]))) ZLe.nil)))
 refine sK<|sn<|sq<|rG cx [2,4,6] [2,6] (fT (Bk6 (f) (by exact hb.1)) (oA 1 (.tup [.agg [.sl (List.map c3 (F1 f).1.vec),.sl (List.map B3 (F1 f).1.cloud)],.i .i64 ((F1 f).2)]) z0)) ?_
 refine sn<|sq<|rG cx [2,6,8] [2,6,8] (fT (Bj6 ((D8 f).1)) (oA 1 (.tup [.agg [.sl (List.map c3 (F5 (D8 f).1).1.vec),.sl (List.map B3 (F5 (D8 f).1).1.cloud)],.i .i64 ((F5 (D8 f).1).2)]) z0))<|sn<|sq<|rG cx [2,3] [2] z0<|sn<|rT<|qR (.tup [.agg [.sl (List.map c3 (F1 f).1.vec),.sl (List.map B3 (F1 f).1.cloud),.sl (List.map c3 (F5 (D8 f).1).1.vec),.sl (List.map B3 (F5 (D8 f).1).1.cloud)],.i .i64 ((0:Int))]) (C1.tup (ZLe.cons (C1.eq (show AV.agg [AV.sl (List.map c3 (F1 f).1.vec),AV.sl (List.map B3 (F1 f).1.cloud),AV.sl (List.map c3 (F5 (D8 f).1).1.vec),AV.sl (List.map B3 (F5 (D8 f).1).1.cloud)]=AV.agg [AV.sl (List.map c3 (ofF f).1.heard.vec),AV.sl (List.map B3 (ofF f).1.heard.cloud),AV.sl (List.map c3 (ofF f).1.live.vec),AV.sl (List.map B3 (ofF f).1.live.cloud)]from(by rw[A2o (M3 h0),A1i (M3 h0),A9b (M3 h0),Aw3 (A9g (M3 h0))]))) (ZLe.cons (C1.eq (show AV.i .i64 0=AV.i .i64 (ofF f).2 from(by rw[A2o (M3 h0)]))) ZLe.nil)))
theorem con82(h l:Past)(d:Dig)(h1:h.cloud.length*16≤140737488350000)(h2:l.cloud.length*16≤140737488350000)(hd:szD d):Con Tryz.prog 82 [.agg (c26 h),.agg (c26 l),.agg (c76 d)] (.agg (c26 (Aw2 h l d))) :=
 by
 refine sC A9 [.cell 6 26] 21 Tryz.func82 ?_
 intro e0 cx
 refine sq<|rG cx [3,4,5,6] [3,4,5,6] z0<|sn<|sq<|rG cx [5,6,7] [5,6,7] (fT (Be9 (h) (l) (by(with_reducible assumption)) (by(with_reducible assumption))) (oA 2 (.agg [.sl (List.map c3 (B1 h l).vec),.sl (List.map B3 (B1 h l).cloud)]) z0))<|sn<|sq<|rA cx [6] [6] (fT (Be9 (B1 h l) (d.heard) ?g0 ?g1) (fT (con130 (B1 h l) (d.live) ?g2 ?g3) (fT (B6l ([B1 (B1 h l) d.heard,A9n (B1 h l) d.live]) ?g4) (oA 3 (.agg [.sl (List.map c3 (B1 (B1 h l) d.heard).vec),.sl (List.map B3 (B1 (B1 h l) d.heard).cloud)]) (oA 7 (.agg [.sl (List.map c3 (A9n (B1 h l) d.live).vec),.sl (List.map B3 (A9n (B1 h l) d.live).cloud)]) (oA 9 (.agg [.sl (List.map c3 (C3 [B1 (B1 h l) d.heard,A9n (B1 h l) d.live]).vec),.sl (List.map B3 (C3 [B1 (B1 h l) d.heard,A9n (B1 h l) d.live]).cloud)]) z0)))))) ?_;rotate_left 5
 refine sn<|rT<|qR (.agg [.sl (List.map c3 (C3 [B1 (B1 h l) d.heard,A9n (B1 h l) d.live]).vec),.sl (List.map B3 (C3 [B1 (B1 h l) d.heard,A9n (B1 h l) d.live]).cloud)]) (.eq ?g5);rotate_left
 case g0=>exact A5z (W3 _ _)
 case g1=>exact hd.1.1
 case g2=>exact A5z (W3 _ _)
 case g3=>exact hd.2.1
 case g4=>exact Bk9 (W3 _ _) (B65 _ _)
 case g5=>rfl
theorem con37(f:Facts)(d:Dig)(hb:szB 7 f)(hd:szD d):Con Tryz.prog 37 [.agg (c29 f),.agg (c76 d)] (.tup [.agg (c29 (C2 f d).1),.i .i64 (C2 f d).2]) :=
 by
 refine sC A9 [.cell 4 29,.tmp 5] 66 Tryz.func37 ?_
 intro e0 cx
 refine sq<|rG cx [2,3,4] [2,3,4] z0<|sn<|sq<|sq<|B4 (σ':=⟨[(2,.ptr (2) (0) (0) (0)),(3,.ptr (3) (0) (0) (0)),(4,.ptr (4) (0) (0) (0)),(23,.b (decide (¬W7 f=0∨¬A3q d=0)))],[(2,⟨0,29,.var [.sl (List.map c67 f.adds),.sl (List.map c3 f.gone.vec),.sl (List.map B3 f.gone.cloud),.sl (List.map c83 f.recs)]⟩),(3,⟨0,76,.var [.sl (List.map c3 d.heard.vec),.sl (List.map B3 d.heard.cloud),.sl (List.map c3 d.live.vec),.sl (List.map B3 d.live.cloud)]⟩),(4,⟨0,29,.var [.nl,.nl,.nl,.nl]⟩)]⟩) ?_ ?_
 refine A4 (¬W7 f=0) (fun h1=>?_) (fun h1=>?_)
 refine rG cx [2,3,4,23] [2,3,4] (fT (Am7 (f) (by exact hb.1)) (tT 2 (F4 h1:AV.b (W7 f !=0)=AV.b true) (tD 7 true (¬W7 f=0∨¬A3q d=0) (by simp only [eq_false h1,tsl]) (oA 1 (.i .i64 (W7 f)) z0)))) ?_
 exact⟨rfl,by kernel_rfl⟩
 refine rG cx [2,3,4,23] [2,3,4] (fT (Am7 (f) (by exact hb.1)) (tN 2 (W7 f) (0:Int) (tT 3 (A0 h1) (fT (con81 (d) (by(with_reducible assumption))) (tN 6 (A3q d) (0:Int) (tT 7 (by first | (simp only [eq_false h1,tsl];done) | simp_all:AV.b (decide ¬A3q d=0)=AV.b (decide (¬W7 f=0∨¬A3q d=0))) (oA 1 (.i .i64 (W7 f)) (oA 5 (.i .i64 (A3q d)) z0)))))))) ?_
 exact⟨rfl,by kernel_rfl⟩
 refine sn<|dC (¬W7 f=0∨¬A3q d=0) (fun h2=>?_) fun h2=>?_
 refine sq<|rG cx [4,5] [4] z0<|sn<|rT<|nR<|qR (.tup [.agg [.nl,.nl,.nl,.nl],.i .i64 ((1:Int))]) (C1.tup (ZLe.cons (C1.agg (ZLe.cons (C1.nl' (show List.map c67 (C2 f d).1.adds=[]from(by rw[Ah1 h2];rfl))) (ZLe.cons (C1.nl' (show List.map c3 (C2 f d).1.gone.vec=[]from(by rw[Ah1 h2];rfl))) (ZLe.cons (C1.nl' (show List.map B3 (C2 f d).1.gone.cloud=[]from(by rw[Ah1 h2];rfl))) (ZLe.cons (C1.nl' (show List.map c83 (C2 f d).1.recs=[]from(by rw[Ah1 h2];rfl))) ZLe.nil))))) (ZLe.cons (C1.eq (show AV.i .i64 1=AV.i .i64 (C2 f d).2 from(by rw[Ah1 h2]))) ZLe.nil)))
 refine sK<|sn<|sq<|rG cx [2,3,4,6] [2,3,4] (fT (Bk5 (f) (by(with_reducible assumption))) (oA 1 (.tup [.sl (List.map c67 (D8 f).1),.i .i64 ((D8 f).2)]) z0))<|sn<|sq<|rG cx [2,3,4,6,8] [2,3,4,8] (fT (Bk6 (f) (by exact hb.1)) (oA 1 (.tup [.agg [.sl (List.map c3 (F1 f).1.vec),.sl (List.map B3 (F1 f).1.cloud)],.i .i64 ((F1 f).2)]) z0)) ?_
 refine sn<|sq<|rG cx [2,3,4,6,8,10] [2,3,4,8,10] (fT (Bj6 ((D8 f).1)) (oA 1 (.tup [.agg [.sl (List.map c3 (F5 (D8 f).1).1.vec),.sl (List.map B3 (F5 (D8 f).1).1.cloud)],.i .i64 ((F5 (D8 f).1).2)]) z0))<|sn<|sq<|rG cx [2,3,4,8,10,12] [2,3,4,8,10] (fT (con65 ((D8 f).1) (d.heard) (by exact hd.1.1)) (oA 3 (.tup [.sl (List.map c67 (J8 (D8 f).1 d.heard false).1),.i .i64 ((J8 (D8 f).1 d.heard false).2)]) z0)) ?_
 refine sn<|sq<|rG cx [3,4,8,10,12,14] [3,4,8,10] (fT (con48 (f.recs) ((F1 f).1) (by exact B04 hb.1.2) (by exact Ao0 hb) (by rw[A1i (O1 h2).1];exact A5z (N3 f))) (oA 3 (.tup [.sl (List.map c83 (S9 f.recs (F1 f).1).1),.i .i64 ((S9 f.recs (F1 f).1).2)]) z0)) ?_
 refine sn<|sq<|rG cx [3,4,8,10,12,14] [3,4,8,10] (fT (con45 ((S9 f.recs (F1 f).1).1) (by rw[A41 (O1 h2).1];exact Au8 (A30 (Aw4 (H3.1 (O1 h2).1).2.2))) (by rw[A41 (O1 h2).1];have:=Ao0 hb;have:=Ao1 f.recs (B7 f);show(I2 f.recs (B7 f)).length*64≤_;omega)) (oA 1 (.tup [.sl (List.map c83 (E9 (S9 f.recs (F1 f).1).1).1),.i .i64 ((E9 (S9 f.recs (F1 f).1).1).2)]) z0)) ?_
 refine sn<|sq<|rG cx [4,5] [4] (fT (con82 ((F1 f).1) ((F5 (D8 f).1).1) (d) (by rw[A1i (O1 h2).1];exact A5z (N3 f)) (by exact Bk8 _) (by(with_reducible assumption))) (oA 4 (.agg [.sl (List.map c3 (Aw2 (F1 f).1 (F5 (D8 f).1).1 d).vec),.sl (List.map B3 (Aw2 (F1 f).1 (F5 (D8 f).1).1 d).cloud)]) z0)) ?_
 refine sn<|rT<|qR (.tup [.agg [.sl (List.map c67 (J8 (D8 f).1 d.heard false).1),.sl (List.map c3 (Aw2 (F1 f).1 (F5 (D8 f).1).1 d).vec),.sl (List.map B3 (Aw2 (F1 f).1 (F5 (D8 f).1).1 d).cloud),.sl (List.map c83 (E9 (S9 f.recs (F1 f).1).1).1)],.i .i64 ((0:Int))]) (C1.tup (ZLe.cons (C1.eq (show AV.agg [AV.sl (List.map c67 (J8 (D8 f).1 d.heard false).1),AV.sl (List.map c3 (Aw2 (F1 f).1 (F5 (D8 f).1).1 d).vec),AV.sl (List.map B3 (Aw2 (F1 f).1 (F5 (D8 f).1).1 d).cloud),AV.sl (List.map c83 (E9 (S9 f.recs (F1 f).1).1).1)]=AV.agg [AV.sl (List.map c67 (C2 f d).1.adds),AV.sl (List.map c3 (C2 f d).1.gone.vec),AV.sl (List.map B3 (C2 f d).1.gone.cloud),AV.sl (List.map c83 (C2 f d).1.recs)]from ?g17)) (ZLe.cons (C1.eq (show AV.i .i64 0=AV.i .i64 (C2 f d).2 from(by rw[A1h (O1 h2).1 (O1 h2).2]))) ZLe.nil)));rotate_left
 case g17 =>
  obtain⟨a,b⟩:=O1 h2
  rw[A1h a b,A41 a,Bl0 (Aw4 (H3.1 a).2.2),A1i a,A9b a,Aw3 (A9g a),B86 (A9g a) b]
  rfl
end Go.Proofs.YtokhjapfekbobaaGreat
namespace Go.Proofs.YtokhjapfekbobaaGreat
open Go.E
set_option maxRecDepth 100000
set_option maxHeartbeats 4000000
theorem B87{α β:Type}[Inhabited α]{l:List α}(g:α→β)(h:¬ l.length=0):(l.map g)[Int.toNat 0]?=some (g l[0]!):=by
 cases l with
 | nil=>simp at h
 | cons e es=>rfl
end Go.Proofs.YtokhjapfekbobaaGreat
