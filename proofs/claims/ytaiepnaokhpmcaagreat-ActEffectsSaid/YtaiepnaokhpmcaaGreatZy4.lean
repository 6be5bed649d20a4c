/- Rb: the document's turns: sorted (by halves). Conditions: sizes. Rt: the document's turns, in plain words: a sweep over where runs begin and end. Conditions: none. Rk: turns: how many there are, the last. Conditions: none. Rd: the document's turns. Conditions: sizes. Re: the document's Mean. Conditions: sizes. Rf: the document's Form. Conditions: the runs are in form. Rg: the document's Norm, Of, IsNorm. Conditions: sizes. Pm: span.Meet, others, Minus; past.Minus, Join. Conditions: sizes. Rm: the document's combine, Minus, Join, Size, Empty. Conditions: sizes. Rn: the document's Compare, Next, Within. Conditions: sizes. La: lines: entries in form. Conditions: none. Kr: records in the documents. Conditions: sizes. Ta: the act layer's document: entries, records, facts in form. Conditions: sizes. Tb: act: Check, Next, Empty, Event; the laws of Check and of Event. Conditions: sizes. Lc: walks, written by a program of this claim's own, and what each function hands back. Conditions: none. Lq: entries in form: how many there are. Conditions: none. Kf: keep.Covers, Bars, Fold, Apply. Conditions: sizes. -/
import Derived.Below
import Derived.OwnWalk
import Derived.WalkKit
import Derived.KernelRfl
import Derived.Laws.MakeOwn
import Derived.Laws.OwnMore
import Derived.Laws.Slices
import Derived.Laws.CopyOwn
import Derived.Laws.AppendOwnNone
import Derived.Laws.Rows
import Derived.Orders
import Derived.Test.YtaiepnaokhpmcaaGreatProg
import Derived.DataReads
import Derived.ChangeOld
import Derived.DataElems
import Derived.SizedLaws
import Derived.ChangeKeysEq
import Derived.Sort.LotA
import Derived.Shelf.SlSortFuncK.RowK2
import Derived.Shelf.SlSortCmp.NoneTotal
import Derived.Lib.Walk
import Derived.Shelf.SlLaysE0
import Derived.Shelf.RegionOpenPlain
import Derived.Deep.LoopGhost
import Derived.Lib.SliceRun
import Derived.Lib.Bytealg
import Derived.Test.YtaiepnaokhpmcaaGreatZy3
set_option linter.unusedVariables false
set_option linter.unusedSimpArgs false
namespace Go.Proofs.YtaiepnaokhpmcaaGreat
open Go.E
set_option maxRecDepth 100000
set_option maxHeartbeats 4000000
def leI (a b:Int):Bool:=decide (a≤b)
def isMrg (A B:List Int) (i j:Int) (s:List Int):Prop:=s++List.merge (A.drop i.toNat) (B.drop j.toNat) leI=List.merge A B leI
def inv37 (A B:List Int) (i j:Int) (s:List Int):Prop:=0≤i∧i≤A.length∧0≤j∧j≤B.length∧(s.length:Int)=i+j∧isMrg A B i j s
def dec37 (A B:List Int) (i j:Int) (s:List Int):Nat:=(A.length+B.length-i-j).toNat
def hA (l:List Int):List Int:=(List.take ((l.length:Int).tdiv 2).toNat l).mergeSort leI
def hB (l:List Int):List Int:=(List.drop ((l.length:Int).tdiv 2).toNat l).mergeSort leI
theorem hA_len (l:List Int):(hA l).length=((l.length:Int).tdiv 2).toNat:=by
 unfold hA
 rw [List.length_mergeSort,List.length_take,Int.tdiv_eq_ediv_of_nonneg (by omega)]
 omega
theorem hB_len (l:List Int):(hB l).length=l.length-((l.length:Int).tdiv 2).toNat:=by
 unfold hB
 rw [List.length_mergeSort,List.length_drop]
theorem half_bd (l:List Int):0≤(l.length:Int).tdiv 2∧2*(l.length:Int).tdiv 2≤l.length∧(l.length:Int)≤2*(l.length:Int).tdiv 2+1:=by
 rw [Int.tdiv_eq_ediv_of_nonneg (by omega)]
 omega
theorem leI_tr (a b c:Int) (h1:leI a b=true) (h2:leI b c=true):leI a c=true:=by simp only [leI,decide_eq_true_eq] at *;omega
theorem leI_to (a b:Int):(leI a b || leI b a)=true:=by simp only [leI,Bool.or_eq_true,decide_eq_true_eq];omega
theorem hAB_sort (l:List Int):List.merge (hA l) (hB l) leI=l.mergeSort leI:=by
 refine List.Perm.eq_of_pairwise (le:=fun x y=>leI x y=true) (fun a b _ _ h1 h2=>by simp only [leI,decide_eq_true_eq] at *;omega) ?_ (List.pairwise_mergeSort leI_tr leI_to l) ?_
 ·exact List.pairwise_merge leI_tr leI_to _ _ (List.pairwise_mergeSort leI_tr leI_to _) (List.pairwise_mergeSort leI_tr leI_to _)
 ·refine (List.merge_perm_append leI).trans (((List.mergeSort_perm _ _).append (List.mergeSort_perm _ _)).trans ?_)
  rw [List.take_append_drop]
  exact (List.mergeSort_perm _ _).symm
theorem drop_at {α:Type} [Inhabited α] {l:List α} {i:Int} (h0:0≤i) (h:i < l.length):l.drop i.toNat=l[i.toNat]! :: l.drop (i+1).toNat:=by
 rw [show (i+1).toNat=i.toNat+1 by omega,getElem!_pos l i.toNat (by omega),← List.drop_eq_getElem_cons]
theorem mrgL {A B:List Int} {i j:Int} {s:List Int} (h0:0≤i) (hi:i < A.length) (j0:0≤j) (hj:j=B.length∨(j < B.length∧A[i.toNat]!≤B[j.toNat]!)) (h:isMrg A B i j s):isMrg A B (i+1) j (s++[A[i.toNat]!]):=by
 unfold isMrg at *
 rw [← h,List.append_assoc]
 congr 1
 rw [drop_at h0 hi]
 rcases hj with hj | ⟨hj,hle⟩
 ·rw [List.drop_of_length_le (l:=B) (by omega)];simp
 ·rw [drop_at j0 hj,List.cons_merge_cons,if_pos (by simpa [leI] using hle)];simp
theorem mrgR {A B:List Int} {i j:Int} {s:List Int} (h0:0≤i) (j0:0≤j) (hj:j < B.length) (hi:¬ i < A.length∨(i < A.length∧¬ A[i.toNat]!≤B[j.toNat]!)) (h:isMrg A B i j s):isMrg A B i (j+1) (s++[B[j.toNat]!]):=by
 unfold isMrg at *
 rw [← h,List.append_assoc]
 congr 1
 rw [drop_at j0 hj]
 rcases hi with hi | ⟨hi,hle⟩
 ·rw [List.drop_of_length_le (l:=A) (by omega)];simp
 ·rw [drop_at h0 hi,List.cons_merge_cons,if_neg (by simpa [leI] using hle)];simp
theorem mrgE {l:List Int} {i j:Int} {s:List Int} (hi:¬ i < (hA l).length) (hj:¬ j < (hB l).length) (h:isMrg (hA l) (hB l) i j s):s=l.mergeSort leI:=by
 unfold isMrg at h
 rw [List.drop_of_length_le (by omega),List.drop_of_length_le (by omega)] at h
 rw [← hAB_sort,← h]
 simp
theorem srt_short {l:List Int} (h:(l.length:Int) < 2):l.mergeSort leI=l:=by
 match l with
 | []=>simp
 | [a]=>simp
 | a :: b :: l=>simp only [List.length_cons] at h;omega
theorem con200_r (l:List Int) (n:Nat) (hn:l.length≤n) (ih:∀ m:List Int,m.length < n→m.length*8≤140737488351232→Con Tryz.prog 200 [.sl (m.map c3)] (.sl ((m.mergeSort leI).map c3))) (hb:l.length*8≤140737488351232):Con Tryz.prog 200 [.sl (l.map c3)] (.sl ((l.mergeSort leI).map c3)) :=
 by
 have b1:=half_bd l
 have b2:=hA_len l
 have b3:=hB_len l
 refine con_lens 0 (c3) (l) (by kernel_rfl) Go.Proofs.Tryz.func200 (by kernel_rfl) fun hl_0=>st_con tab_ok (by kernel_rfl) [.tmp 2] 79 Go.Proofs.Tryz.func200 (by kernel_rfl) (by kernel_rfl) ?_
 intro e0 cx
 refine sq<|rG cx [0] [] z0<|sn<|sq<|sq<|rG cx [0,10] [] (tL 1 c3 l (tB 2 ((↑l.length:Int) < (2:Int)) z0))<|sn<|dC ((↑l.length:Int) < (2:Int)) (fun h0=>?_) fun h0=>?_
 refine sq<|rG cx [2] [11] (fR (3:Nat) (fR 1 (fR (1:Nat) (fX c3 l 1 (fS c3 [] c3 l (fP (((List.map c3 []).length+(List.map c3 l).length)*(8:Nat)≤(140737488355328:Nat)) (by (simp only [Go.maxLen,List.length_map,List.length_append,List.length_cons,List.length_nil];omega)) (fM c3 [] l (oV 2 { rows:=some (List.map c3 ([]++l)) } z0))))))))<|sn<|rT<|nR<|qR (.sl (List.map c3 ([]++l))) (.eq ?g0);rotate_left
 refine sK<|sn<|sq<|rG cx [0,3] [] (tL 2 c3 l (tT 3 (told_i64 ?g1 ?g2:AV.i .i64 (IntKind.i64.wrap ((↑l.length:Int).tdiv (2:Int)))=AV.i .i64 ((↑l.length:Int).tdiv (2:Int))) (tT 4 (told_slT c3 l ((↑l.length:Int).tdiv (2:Int)).toNat:AV.sl (List.drop (Int.toNat (0:Int)) (List.take ((↑l.length:Int).tdiv (2:Int)).toNat (List.map c3 l)))=AV.sl (List.map c3 (List.take ((↑l.length:Int).tdiv (2:Int)).toNat l))) (fO ((0:Int)≤(0:Int)) (fP ((0:Int)≤(↑l.length:Int).tdiv (2:Int)) ?g3 (fP ((↑l.length:Int).tdiv (2:Int)≤(↑(List.map c3 l).length:Int)) ?g4 (fX c3 l 1 (fP (Con Tryz.prog (200:FuncId) [AV.sl (List.map c3 (List.take ((↑l.length:Int).tdiv (2:Int)).toNat l))] (AV.sl (List.map c3 ((List.take ((↑l.length:Int).tdiv (2:Int)).toNat l).mergeSort leI)))) (ih (List.take ((↑l.length:Int).tdiv (2:Int)).toNat l) ?g5 ?g6) (oA 5 (.sl (List.map c3 ((List.take ((↑l.length:Int).tdiv (2:Int)).toNat l).mergeSort leI))) z0))))))))) ?_;rotate_left 6
 refine sn<|sq<|rG cx [0,3,4] [] (tL 2 c3 l (tT 3 (told_i64 ?g7 ?g8:AV.i .i64 (IntKind.i64.wrap ((↑l.length:Int).tdiv (2:Int)))=AV.i .i64 ((↑l.length:Int).tdiv (2:Int))) (tT 4 (told_slN c3 l ((↑l.length:Int).tdiv (2:Int)).toNat:AV.sl (List.drop ((↑l.length:Int).tdiv (2:Int)).toNat (List.take (none.getD (↑(List.map c3 l).length:Int)).toNat (List.map c3 l)))=AV.sl (List.map c3 (List.drop ((↑l.length:Int).tdiv (2:Int)).toNat l))) (fP ((0:Int)≤(↑l.length:Int).tdiv (2:Int)) ?g9 (fP ((↑l.length:Int).tdiv (2:Int)≤none.getD (↑(List.map c3 l).length:Int)) ?g10 (fP (none.getD (↑(List.map c3 l).length:Int)≤(↑(List.map c3 l).length:Int)) ?g11 (fX c3 l 1 (fP (Con Tryz.prog (200:FuncId) [AV.sl (List.map c3 (List.drop ((↑l.length:Int).tdiv (2:Int)).toNat l))] (AV.sl (List.map c3 ((List.drop ((↑l.length:Int).tdiv (2:Int)).toNat l).mergeSort leI)))) (ih (List.drop ((↑l.length:Int).tdiv (2:Int)).toNat l) ?g12 ?g13) (oA 5 (.sl (List.map c3 ((List.drop ((↑l.length:Int).tdiv (2:Int)).toNat l).mergeSort leI))) z0))))))))) ?_;rotate_left 7
 refine sn<|sq<|rG cx [3,4,5] [28] (tL 1 c3 l (fR (0:Int) (fR (↑l.length:Int) (fO ((8:Nat)*l.length≤(281474976710656:Nat)) (fP (l.length≤maxLen) (by (simp only [Go.maxLen];omega)) (oV 2 { n:=l.length,flat:=true } z0))))))<|sn<|sq<|rG cx [3,4,5,6,7] [28] z0<|sn<|sq<|bL 0<|st_loop (X:=Int×Int×List Int) (fun x=>⟨[(3,.sl (List.map c3 ((List.take ((↑l.length:Int).tdiv (2:Int)).toNat l).mergeSort leI))),(4,.sl (List.map c3 ((List.drop ((↑l.length:Int).tdiv (2:Int)).toNat l).mergeSort leI))),(5,.own 28 0),(6,.i .i64 (x.1)),(7,.i .i64 (x.2.1))],[(28,⟨0,3,.row 1 (List.map c3 x.2.2)⟩)]⟩) (fun x ↦ dec37 (hA l) (hB l) x.1 x.2.1 x.2.2) (fun x ↦ inv37 (hA l) (hB l) x.1 x.2.1 x.2.2) [3,4,5,6,7] [28] (((0:Int),(0:Int),[])) (by kernel_rfl) (by kernel_rfl) (show inv37 (hA l) (hB l) (0:Int) (0:Int) [] from ?g14) ?_;rotate_left
 rintro ⟨i1,j2,s3⟩ h_4
 obtain ⟨h5,h6,h7,h8,h9,h10⟩:(0:Int)≤i1∧i1≤(↑(hA l).length:Int)∧(0:Int)≤j2∧j2≤(↑(hB l).length:Int)∧(↑s3.length:Int)=i1+j2∧isMrg (hA l) (hB l) i1 j2 s3:=h_4
 refine sq<|sq<|st_join (σ':=⟨[(3,.sl (List.map c3 ((List.take ((↑l.length:Int).tdiv (2:Int)).toNat l).mergeSort leI))),(4,.sl (List.map c3 ((List.drop ((↑l.length:Int).tdiv (2:Int)).toNat l).mergeSort leI))),(5,.own 28 0),(6,.i .i64 (i1)),(7,.i .i64 (j2)),(38,.b (decide (i1 < (↑((List.take ((↑l.length:Int).tdiv (2:Int)).toNat l).mergeSort leI).length:Int)∨j2 < (↑((List.drop ((↑l.length:Int).tdiv (2:Int)).toNat l).mergeSort leI).length:Int))))],[(28,⟨0,3,.row 1 (List.map c3 s3)⟩)]⟩) ?_ ?_
 refine st_split (i1 < (↑((List.take ((↑l.length:Int).tdiv (2:Int)).toNat l).mergeSort leI).length:Int)) (fun h_12=>?_) (fun h_12=>?_)
 refine rG cx [3,4,5,6,7,38] [28] (tL 2 c3 ((List.take ((↑l.length:Int).tdiv (2:Int)).toNat l).mergeSort leI) (tT 3 (told_true h_12) (tD 9 true (i1 < (↑((List.take ((↑l.length:Int).tdiv (2:Int)).toNat l).mergeSort leI).length:Int)∨j2 < (↑((List.drop ((↑l.length:Int).tdiv (2:Int)).toNat l).mergeSort leI).length:Int)) (by simp only [eq_true h_12,tsl]) z0))) ?_
 exact ⟨rfl,by kernel_rfl⟩
 refine rG cx [3,4,5,6,7,38] [28] (tL 2 c3 ((List.take ((↑l.length:Int).tdiv (2:Int)).toNat l).mergeSort leI) (tT 3 (told_false h_12) (tL 7 c3 ((List.drop ((↑l.length:Int).tdiv (2:Int)).toNat l).mergeSort leI) (tB 8 (j2 < (↑((List.drop ((↑l.length:Int).tdiv (2:Int)).toNat l).mergeSort leI).length:Int)) (tD 9 (decide (j2 < (↑((List.drop ((↑l.length:Int).tdiv (2:Int)).toNat l).mergeSort leI).length:Int))) (i1 < (↑((List.take ((↑l.length:Int).tdiv (2:Int)).toNat l).mergeSort leI).length:Int)∨j2 < (↑((List.drop ((↑l.length:Int).tdiv (2:Int)).toNat l).mergeSort leI).length:Int)) (by simp only [eq_false h_12,tsl]) z0))))) ?_
 exact ⟨rfl,by kernel_rfl⟩
 refine sn<|dC (i1 < (↑((List.take ((↑l.length:Int).tdiv (2:Int)).toNat l).mergeSort leI).length:Int)∨j2 < (↑((List.drop ((↑l.length:Int).tdiv (2:Int)).toNat l).mergeSort leI).length:Int)) (fun h13=>?_) fun h13=>?_
 refine sK<|sn<|bL 1<|sq<|st_join (σ':=⟨[(3,.sl (List.map c3 ((List.take ((↑l.length:Int).tdiv (2:Int)).toNat l).mergeSort leI))),(4,.sl (List.map c3 ((List.drop ((↑l.length:Int).tdiv (2:Int)).toNat l).mergeSort leI))),(5,.own 28 0),(6,.i .i64 (i1)),(7,.i .i64 (j2)),(59,.b (decide (j2=(↑((List.drop ((↑l.length:Int).tdiv (2:Int)).toNat l).mergeSort leI).length:Int)∨i1 < (↑((List.take ((↑l.length:Int).tdiv (2:Int)).toNat l).mergeSort leI).length:Int)∧((List.take ((↑l.length:Int).tdiv (2:Int)).toNat l).mergeSort leI)[i1.toNat]!≤((List.drop ((↑l.length:Int).tdiv (2:Int)).toNat l).mergeSort leI)[j2.toNat]!)))],[(28,⟨0,3,.row 1 (List.map c3 s3)⟩)]⟩) ?_ ?_
 refine st_split (j2=(↑((List.drop ((↑l.length:Int).tdiv (2:Int)).toNat l).mergeSort leI).length:Int)) (fun h15=>?_) (fun h15=>?_)
 refine rA cx [3,4,5,6,7,59] [28] (tL 2 c3 ((List.drop ((↑l.length:Int).tdiv (2:Int)).toNat l).mergeSort leI) (tT 3 (told_true h15) (tD 20 true (j2=(↑((List.drop ((↑l.length:Int).tdiv (2:Int)).toNat l).mergeSort leI).length:Int)∨i1 < (↑((List.take ((↑l.length:Int).tdiv (2:Int)).toNat l).mergeSort leI).length:Int)∧((List.take ((↑l.length:Int).tdiv (2:Int)).toNat l).mergeSort leI)[i1.toNat]!≤((List.drop ((↑l.length:Int).tdiv (2:Int)).toNat l).mergeSort leI)[j2.toNat]!) (by simp only [eq_true h15,tsl]) z0))) ?_
 exact ⟨rfl,by kernel_rfl⟩
 refine st_split (i1 < (↑((List.take ((↑l.length:Int).tdiv (2:Int)).toNat l).mergeSort leI).length:Int)) (fun h16=>?_) (fun h16=>?_)
 refine rA cx [3,4,5,6,7,59] [28] (tL 2 c3 ((List.drop ((↑l.length:Int).tdiv (2:Int)).toNat l).mergeSort leI) (tT 3 (told_false h15) (tL 7 c3 ((List.take ((↑l.length:Int).tdiv (2:Int)).toNat l).mergeSort leI) (tT 8 (told_true h16) (fA ((0:Int)≤i1) (fG c3 ((List.take ((↑l.length:Int).tdiv (2:Int)).toNat l).mergeSort leI) i1.toNat (fR (1:Nat) (fA ((0:Int)≤j2) (fP ((List.map c3 ((List.drop ((↑l.length:Int).tdiv (2:Int)).toNat l).mergeSort leI))[j2.toNat]?=some (c3 ((List.drop ((↑l.length:Int).tdiv (2:Int)).toNat l).mergeSort leI)[j2.toNat]!)) ?g15 (fR (1:Nat) (tB 18 (((List.take ((↑l.length:Int).tdiv (2:Int)).toNat l).mergeSort leI)[i1.toNat]!≤((List.drop ((↑l.length:Int).tdiv (2:Int)).toNat l).mergeSort leI)[j2.toNat]!) (tD 20 (decide (((List.take ((↑l.length:Int).tdiv (2:Int)).toNat l).mergeSort leI)[i1.toNat]!≤((List.drop ((↑l.length:Int).tdiv (2:Int)).toNat l).mergeSort leI)[j2.toNat]!)) (j2=(↑((List.drop ((↑l.length:Int).tdiv (2:Int)).toNat l).mergeSort leI).length:Int)∨i1 < (↑((List.take ((↑l.length:Int).tdiv (2:Int)).toNat l).mergeSort leI).length:Int)∧((List.take ((↑l.length:Int).tdiv (2:Int)).toNat l).mergeSort leI)[i1.toNat]!≤((List.drop ((↑l.length:Int).tdiv (2:Int)).toNat l).mergeSort leI)[j2.toNat]!) (by simp only [eq_false h15,eq_true h16,tsl]) (oR 12 (c3 ((List.take ((↑l.length:Int).tdiv (2:Int)).toNat l).mergeSort leI)[i1.toNat]!) (oR 16 (c3 ((List.drop ((↑l.length:Int).tdiv (2:Int)).toNat l).mergeSort leI)[j2.toNat]!) z0)))))))))))))) ?_;rotate_left
 exact ⟨rfl,by kernel_rfl⟩
 refine rA cx [3,4,5,6,7,59] [28] (tL 2 c3 ((List.drop ((↑l.length:Int).tdiv (2:Int)).toNat l).mergeSort leI) (tT 3 (told_false h15) (tL 7 c3 ((List.take ((↑l.length:Int).tdiv (2:Int)).toNat l).mergeSort leI) (tT 8 (told_false h16) (tD 20 false (j2=(↑((List.drop ((↑l.length:Int).tdiv (2:Int)).toNat l).mergeSort leI).length:Int)∨i1 < (↑((List.take ((↑l.length:Int).tdiv (2:Int)).toNat l).mergeSort leI).length:Int)∧((List.take ((↑l.length:Int).tdiv (2:Int)).toNat l).mergeSort leI)[i1.toNat]!≤((List.drop ((↑l.length:Int).tdiv (2:Int)).toNat l).mergeSort leI)[j2.toNat]!) (by simp only [eq_false h15,eq_false h16,tsl]) z0))))) ?_
 exact ⟨rfl,by kernel_rfl⟩
 refine sn<|dC (j2=(↑((List.drop ((↑l.length:Int).tdiv (2:Int)).toNat l).mergeSort leI).length:Int)∨i1 < (↑((List.take ((↑l.length:Int).tdiv (2:Int)).toNat l).mergeSort leI).length:Int)∧((List.take ((↑l.length:Int).tdiv (2:Int)).toNat l).mergeSort leI)[i1.toNat]!≤((List.drop ((↑l.length:Int).tdiv (2:Int)).toNat l).mergeSort leI)[j2.toNat]!) (fun h17=>?_) fun h17=>?_
 refine sq<|rG cx [3,4,5,6,7] [28] (fA ((0:Int)≤i1) (fG c3 ((List.take ((↑l.length:Int).tdiv (2:Int)).toNat l).mergeSort leI) i1.toNat (fR (1:Nat) (fR (3:Nat) (fR 1 (fR (1:Nat) (fX c3 [((List.take ((↑l.length:Int).tdiv (2:Int)).toNat l).mergeSort leI)[i1.toNat]!] 1 (fP ((List.map c3 s3).length+(List.map c3 [((List.take ((↑l.length:Int).tdiv (2:Int)).toNat l).mergeSort leI)[i1.toNat]!]).length≤maxLen) ?g16 (fP (((List.map c3 s3).length+(List.map c3 [((List.take ((↑l.length:Int).tdiv (2:Int)).toNat l).mergeSort leI)[i1.toNat]!]).length)*(8:Nat)≤(140737488355328:Nat)) ?g17 (fM c3 s3 [((List.take ((↑l.length:Int).tdiv (2:Int)).toNat l).mergeSort leI)[i1.toNat]!] (oR 3 (c3 ((List.take ((↑l.length:Int).tdiv (2:Int)).toNat l).mergeSort leI)[i1.toNat]!) (oV 6 { rows:=some (List.map c3 (s3++[((List.take ((↑l.length:Int).tdiv (2:Int)).toNat l).mergeSort leI)[i1.toNat]!])) } z0)))))))))))) ?_;rotate_left 2
 refine sn<|rG cx [3,4,5,6,7] [28] (tT 1 (told_i64 (by omega) ?g18:AV.i .i64 (IntKind.i64.wrap (i1+(1:Int)))=AV.i .i64 (i1+(1:Int))) z0) ?_;rotate_left
 refine bN<|sn<|loop_next ((i1+(1:Int),j2,s3++[((List.take ((↑l.length:Int).tdiv (2:Int)).toNat l).mergeSort leI)[i1.toNat]!])) (by kernel_rfl) (show ((↑(hA l).length:Int)+(↑(hB l).length:Int)-(i1+(1:Int))-j2).toNat < ((↑(hA l).length:Int)+(↑(hB l).length:Int)-i1-j2).toNat from ?g19) (show inv37 (hA l) (hB l) (i1+(1:Int)) j2 (s3++[((List.take ((↑l.length:Int).tdiv (2:Int)).toNat l).mergeSort leI)[i1.toNat]!]) from ?g20);rotate_left 2
 refine sq<|rG cx [3,4,5,6,7] [28] (fA ((0:Int)≤j2) (fP ((List.map c3 ((List.drop ((↑l.length:Int).tdiv (2:Int)).toNat l).mergeSort leI))[j2.toNat]?=some (c3 ((List.drop ((↑l.length:Int).tdiv (2:Int)).toNat l).mergeSort leI)[j2.toNat]!)) ?g21 (fR (1:Nat) (fR (3:Nat) (fR 1 (fR (1:Nat) (fX c3 [((List.drop ((↑l.length:Int).tdiv (2:Int)).toNat l).mergeSort leI)[j2.toNat]!] 1 (fP ((List.map c3 s3).length+(List.map c3 [((List.drop ((↑l.length:Int).tdiv (2:Int)).toNat l).mergeSort leI)[j2.toNat]!]).length≤maxLen) ?g22 (fP (((List.map c3 s3).length+(List.map c3 [((List.drop ((↑l.length:Int).tdiv (2:Int)).toNat l).mergeSort leI)[j2.toNat]!]).length)*(8:Nat)≤(140737488355328:Nat)) ?g23 (fM c3 s3 [((List.drop ((↑l.length:Int).tdiv (2:Int)).toNat l).mergeSort leI)[j2.toNat]!] (oR 3 (c3 ((List.drop ((↑l.length:Int).tdiv (2:Int)).toNat l).mergeSort leI)[j2.toNat]!) (oV 6 { rows:=some (List.map c3 (s3++[((List.drop ((↑l.length:Int).tdiv (2:Int)).toNat l).mergeSort leI)[j2.toNat]!])) } z0)))))))))))) ?_;rotate_left 3
 refine sn<|rG cx [3,4,5,6,7] [28] (tT 1 (told_i64 (by omega) ?g24:AV.i .i64 (IntKind.i64.wrap (j2+(1:Int)))=AV.i .i64 (j2+(1:Int))) z0) ?_;rotate_left
 refine bN<|sn<|loop_next ((i1,j2+(1:Int),s3++[((List.drop ((↑l.length:Int).tdiv (2:Int)).toNat l).mergeSort leI)[j2.toNat]!])) (by kernel_rfl) (show ((↑(hA l).length:Int)+(↑(hB l).length:Int)-i1-(j2+(1:Int))).toNat < ((↑(hA l).length:Int)+(↑(hB l).length:Int)-i1-j2).toNat from ?g25) (show inv37 (hA l) (hB l) i1 (j2+(1:Int)) (s3++[((List.drop ((↑l.length:Int).tdiv (2:Int)).toNat l).mergeSort leI)[j2.toNat]!]) from ?g26);rotate_left 2
 refine eX 0<|nE<|nE<|bH<|sn<|sq<|rG cx [2] [28] z0<|sn<|rT<|qR (.sl (List.map c3 s3)) (.eq ?g27);rotate_left
 revert h0;rotate_left
 revert h0;rotate_left
 revert h0;rotate_left
 revert h0;rotate_left
 revert h0;rotate_left
 revert h0;rotate_left
 revert h0;rotate_left
 revert h0;rotate_left
 revert h0;rotate_left
 revert h0;rotate_left
 revert h0;rotate_left
 revert h0;rotate_left
 revert h0;rotate_left
 revert h0;rotate_left
 revert h0;rotate_left
 revert h0 i1 j2 s3 h5 h6 h7 h8 h9 h10 h13 h15 h16;rotate_left
 revert h0 i1 j2 s3 h5 h6 h7 h8 h9 h10 h13 h17;rotate_left
 revert h0 i1 j2 s3 h5 h6 h7 h8 h9 h10 h13 h17;rotate_left
 revert h0 i1 j2 s3 h5 h6 h7 h8 h9 h10 h13 h17;rotate_left
 revert h0 i1 j2 s3 h5 h6 h7 h8 h9 h10 h13 h17;rotate_left
 revert h0 i1 j2 s3 h5 h6 h7 h8 h9 h10 h13 h17;rotate_left
 revert h0 i1 j2 s3 h5 h6 h7 h8 h9 h10 h13 h17;rotate_left
 revert h0 i1 j2 s3 h5 h6 h7 h8 h9 h10 h13 h17;rotate_left
 revert h0 i1 j2 s3 h5 h6 h7 h8 h9 h10 h13 h17;rotate_left
 revert h0 i1 j2 s3 h5 h6 h7 h8 h9 h10 h13 h17;rotate_left
 revert h0 i1 j2 s3 h5 h6 h7 h8 h9 h10 h13 h17;rotate_left
 revert h0 i1 j2 s3 h5 h6 h7 h8 h9 h10 h13 h17;rotate_left
 revert h0 i1 j2 s3 h5 h6 h7 h8 h9 h10 h13;rotate_left
 case g0=>intro h;rw [srt_short h];rfl
 case g1=>intro h;omega
 case g2=>intro h;omega
 case g3=>intro h;omega
 case g4=>intro h;rw [List.length_map];omega
 case g5=>intro h;show (List.take ((l.length:Int).tdiv 2).toNat l).length < n;rw [List.length_take];omega
 case g6=>intro h;show (List.take ((l.length:Int).tdiv 2).toNat l).length*8≤140737488351232;rw [List.length_take];omega
 case g7=>intro h;omega
 case g8=>intro h;omega
 case g9=>intro h;omega
 case g10=>intro h;show _≤((List.map c3 l).length:Int);rw [List.length_map];omega
 case g11=>intro h;exact Int.le_refl _
 case g12=>intro h;rw [List.length_drop];omega
 case g13=>intro h;rw [List.length_drop];omega
 case g14=>intro h;exact ⟨by omega,by omega,by omega,by omega,rfl,rfl⟩
 case g15=>intro h i j s k0 k1 k2 k3 k4 k5 k6 k7 k8;exact get_map (xs:=hB l) (by have:¬ j=(hB l).length:=k7;omega)
 case g16=>intro h i j s k0 k1 k2 k3 k4 k5 k6 k7;simp only [List.length_map,List.length_cons,List.length_nil,Go.maxLen];omega
 case g17=>intro h i j s k0 k1 k2 k3 k4 k5 k6 k7;simp only [List.length_map,List.length_cons,List.length_nil];omega
 case g18=>intro h i j s k0 k1 k2 k3 k4 k5 k6 k7;omega
 case g19=>intro h i j s k0 k1 k2 k3 k4 k5 k6 k7;have k6':i < (hA l).length∨j < (hB l).length:=k6;have k7':j=(hB l).length∨i < (hA l).length∧(hA l)[i.toNat]!≤(hB l)[j.toNat]!:=k7;omega
 case g20 =>
  intro h i j s k0 k1 k2 k3 k4 k5 k6 k7
  have k6':i < (hA l).length∨j < (hB l).length:=k6
  have k7':j=(hB l).length∨i < (hA l).length∧(hA l)[i.toNat]!≤(hB l)[j.toNat]!:=k7
  have hi:i < (hA l).length:=by omega
  refine ⟨by omega,by omega,by omega,by omega,by rw [List.length_append];simp only [List.length_cons,List.length_nil];omega,mrgL k0 hi k2 ?_ k5⟩
  by_cases e:j=(hB l).length
  ·exact .inl e
  ·exact .inr ⟨by omega,(k7'.resolve_left e).2⟩
 case g21=>intro h i j s k0 k1 k2 k3 k4 k5 k6 k7;have k6':i < (hA l).length∨j < (hB l).length:=k6;have k7':¬ (j=(hB l).length∨i < (hA l).length∧(hA l)[i.toNat]!≤(hB l)[j.toNat]!):=k7;exact get_map (xs:=hB l) (by omega)
 case g22=>intro h i j s k0 k1 k2 k3 k4 k5 k6 k7;simp only [List.length_map,List.length_cons,List.length_nil,Go.maxLen];omega
 case g23=>intro h i j s k0 k1 k2 k3 k4 k5 k6 k7;simp only [List.length_map,List.length_cons,List.length_nil];omega
 case g24=>intro h i j s k0 k1 k2 k3 k4 k5 k6 k7;omega
 case g25=>intro h i j s k0 k1 k2 k3 k4 k5 k6 k7;have k6':i < (hA l).length∨j < (hB l).length:=k6;have k7':¬ (j=(hB l).length∨i < (hA l).length∧(hA l)[i.toNat]!≤(hB l)[j.toNat]!):=k7;omega
 case g26 =>
  intro h i j s k0 k1 k2 k3 k4 k5 k6 k7
  have k6':i < (hA l).length∨j < (hB l).length:=k6
  have k7':¬ (j=(hB l).length∨i < (hA l).length∧(hA l)[i.toNat]!≤(hB l)[j.toNat]!):=k7
  have hj:j < (hB l).length:=by omega
  refine ⟨by omega,by omega,by omega,by omega,by rw [List.length_append];simp only [List.length_cons,List.length_nil];omega,mrgR k0 k2 hj ?_ k5⟩
  by_cases e:i < (hA l).length
  ·exact .inr ⟨e,fun k=>k7' (.inr ⟨e,k⟩)⟩
  ·exact .inl e
 case g27 =>
  intro h i j s k0 k1 k2 k3 k4 k5 k6
  have k6':¬ (i < (hA l).length∨j < (hB l).length):=k6
  rw [mrgE (fun k=>k6' (.inl k)) (fun k=>k6' (.inr k)) k5]
theorem con_srt:∀ (n:Nat) (l:List Int),l.length≤n→l.length*8≤140737488351232→Con Tryz.prog 200 [.sl (l.map c3)] (.sl ((l.mergeSort leI).map c3))
 | 0,l,h,hb=>con200_r l 0 h (fun m hm=>by omega) hb
 | n+1,l,h,hb=>con200_r l (n+1) h (fun m hm hb'=>con_srt n m (by omega) hb') hb
theorem con200 (l:List Int) (hb:l.length*8≤140737488351232):Con Tryz.prog 200 [.sl (l.map c3)] (.sl ((l.mergeSort leI).map c3)):=con_srt l.length l (Nat.le_refl _) hb
end Go.Proofs.YtaiepnaokhpmcaaGreat
namespace Go.Proofs.YtaiepnaokhpmcaaGreat
open Go.E
set_option maxRecDepth 100000
set_option maxHeartbeats 4000000
def cntI (l:List Int) (n:Int):Nat:=l.countP (fun x=>decide (x≤n))
def turnsR (l:List Run):List Int:=l.flatMap fun r=>[r.lo,r.hi+1]
def sw:List Int→List Int→Nat→List Int
 | [],[],_=>[]
 | [],b :: B,d=>(if d=1 then [b] else [])++sw [] B (d-1)
 | a :: A,[],d=>(if d=0 then [a] else [])++sw A [] (d+1)
 | a :: A,b :: B,d=>if a≤b then (if d=0 then [a] else [])++sw A (b :: B) (d+1) else (if d=1 then [b] else [])++sw (a :: A) B (d-1)
termination_by A B _=>A.length+B.length
theorem cnt_nil (n:Int):cntI [] n=0:=rfl
theorem cnt_cons (a:Int) (l:List Int) (n:Int):cntI (a :: l) n=cntI l n+if a≤n then 1 else 0:=by
 unfold cntI
 rw [List.countP_cons]
 by_cases h:a≤n <;> simp [h]
theorem cnt_zero {l:List Int} {n:Int} (h:∀ x∈l,n < x):cntI l n=0:=by
 unfold cntI
 rw [List.countP_eq_zero]
 intro x hx
 have:=h x hx
 simp
 omega
theorem cnt_len (l:List Int) (n:Int):cntI l n≤l.length:=List.countP_le_length
structure VW (A B:List Int) (d:Nat):Prop where
 sA:A.Pairwise (fun x y=>x≤y)
 sB:B.Pairwise (fun x y=>x≤y)
 len:d+A.length=B.length
 cov:∀ n:Int,cntI B (n+1)≤d+cntI A n
theorem VW.in_ {a b:Int} {A B:List Int} {d:Nat} (h:VW (a :: A) (b :: B) d) (hab:a≤b):VW A (b :: B) (d+1):=by
 refine ⟨(List.pairwise_cons.1 h.sA).2,h.sB,by have:=h.len;simp only [List.length_cons] at *;omega,fun n=>?_⟩
 have:=h.cov n
 rw [cnt_cons a A] at this
 split at this <;> omega
theorem VW.pos {a b:Int} {A B:List Int} {d:Nat} (h:VW (a :: A) (b :: B) d) (hab:b < a):1≤d:=by
 have h1:=h.cov (b-1)
 have h2:=(List.pairwise_cons.1 h.sA).1
 rw [show b-1+1=b by omega,cnt_cons b B,if_pos (Int.le_refl b)] at h1
 rw [cnt_zero (l:=a :: A) fun x hx=>by
  rcases List.mem_cons.1 hx with rfl | hx
  ·omega
  ·have:=h2 x hx;omega] at h1
 omega
theorem VW.out {a b:Int} {A B:List Int} {d:Nat} (h:VW (a :: A) (b :: B) d) (hab:b < a):VW (a :: A) B (d-1):=by
 have hp:=h.pos hab
 have hB:=List.pairwise_cons.1 h.sB
 refine ⟨h.sA,hB.2,by have:=h.len;simp only [List.length_cons] at *;omega,fun n=>?_⟩
 have:=h.cov n
 rw [cnt_cons b B] at this
 by_cases e:b≤n+1
 ·rw [if_pos e] at this;omega
 ·rw [cnt_zero (l:=B) fun x hx=>by have:=hB.1 x hx;omega]
  omega
theorem VW.end_ {b:Int} {B:List Int} {d:Nat} (h:VW [] (b :: B) d):1≤d∧VW [] B (d-1):=by
 have hl:=h.len
 simp only [List.length_cons,List.length_nil] at hl
 have hB:=List.pairwise_cons.1 h.sB
 exact ⟨by omega,h.sA,hB.2,by simp only [List.length_nil];omega,fun n=>by have:=cnt_len B (n+1);omega⟩
theorem VW.strict {a b:Int} {A B:List Int} (h:VW (a :: A) (b :: B) 0):a < b:=by
 have h1:=h.cov (a-1)
 have h2:=(List.pairwise_cons.1 h.sA).1
 rw [show a-1+1=a by omega,cnt_zero (l:=a :: A) fun x hx=>by
  rcases List.mem_cons.1 hx with rfl | hx
  ·omega
  ·have:=h2 x hx;omega,cnt_cons b B] at h1
 by_cases e:b≤a
 ·rw [if_pos e] at h1;omega
 ·omega
def SwZ (A B:List Int):Prop:=∃ R:List Run,sw A B 0=turnsR R∧R.Pairwise (fun x y=>x.hi+1 < y.lo)∧(∀ r∈R,r.lo≤r.hi∧r.lo∈A∧r.hi+1∈B)∧∀ n,inR R n↔cntI B n < cntI A n
def SwP (A B:List Int) (d:Nat):Prop:=∃ (x:Int) (R:List Run),sw A B d=x :: turnsR R∧x∈B∧R.Pairwise (fun x y=>x.hi+1 < y.lo)∧(∀ r∈R,x < r.lo∧r.lo≤r.hi∧r.lo∈A∧r.hi+1∈B)∧∀ n,(n < x∨inR R n)↔cntI B n < d+cntI A n
theorem sw_main:∀ (k:Nat) (A B:List Int) (d:Nat),A.length+B.length=k→VW A B d→(d=0→SwZ A B)∧(0 < d→SwP A B d)
 | k,[],[],d,_,h=>by
  have hd:=h.len
  simp only [List.length_nil] at hd
  refine ⟨fun _=>⟨[],?_,List.Pairwise.nil,fun r hr=>(by cases hr),fun n=>?_⟩,fun h0=>by omega⟩
  ·rw [sw];try rfl
  ·rw [cnt_nil];simp [inR]
 | k,a :: A,[],d,_,h=>by have:=h.len;simp only [List.length_cons,List.length_nil] at this;omega
 | 0,[],b :: B,d,hk,h=>by simp only [List.length_cons] at hk;omega
 | 0,a :: A,b :: B,d,hk,h=>by simp only [List.length_cons] at hk;omega
 | k+1,[],b :: B,d,hk,h=>by
  obtain ⟨hd,h'⟩:=h.end_
  have ih:=sw_main k [] B (d-1) (by simp only [List.length_cons,List.length_nil] at *;omega) h'
  have hB:=List.pairwise_cons.1 h.sB
  have low:∀ n:Int,n < b→cntI (b :: B) n=0∧cntI B n=0:=fun n hn=>by
   have:cntI B n=0:=cnt_zero fun x hx=>by have:=hB.1 x hx;omega
   rw [cnt_cons,if_neg (by omega)];omega
  refine ⟨fun h0=>by omega,fun _=>?_⟩
  by_cases e:d=1
  ·obtain ⟨R,r1,r2,r3,r4⟩:=ih.1 (by omega)
   refine ⟨b,R,?_,by simp,r2,fun r hr=>absurd (r3 r hr).2.1 (by simp),fun n=>?_⟩
   ·rw [sw,if_pos e,show d-1=0 by omega,r1];rfl
   ·rw [r4 n,cnt_cons,cnt_nil]
    by_cases hn:b≤n
    ·rw [if_pos hn];omega
    ·have:=low n (by omega);rw [if_neg hn];omega
  ·obtain ⟨x,R,r1,r2,r3,r4,r5⟩:=ih.2 (by omega)
   refine ⟨x,R,?_,by simp [r2],r3,fun r hr=>absurd (r4 r hr).2.2.1 (by simp),fun n=>?_⟩
   ·rw [sw,if_neg e,r1];rfl
   ·rw [r5 n,cnt_cons,cnt_nil]
    by_cases hn:b≤n
    ·rw [if_pos hn];omega
    ·have:=low n (by omega);rw [if_neg hn];omega
 | k+1,a :: A,b :: B,d,hk,h=>by
  have hA:=List.pairwise_cons.1 h.sA
  have hB:=List.pairwise_cons.1 h.sB
  have lowA:∀ n:Int,n < a→cntI (a :: A) n=0∧cntI A n=0:=fun n hn=>by
   have:cntI A n=0:=cnt_zero fun x hx=>by have:=hA.1 x hx;omega
   rw [cnt_cons,if_neg (by omega)];omega
  have lowB:∀ n:Int,n < b→cntI (b :: B) n=0∧cntI B n=0:=fun n hn=>by
   have:cntI B n=0:=cnt_zero fun x hx=>by have:=hB.1 x hx;omega
   rw [cnt_cons,if_neg (by omega)];omega
  by_cases hab:a≤b
  ·obtain ⟨x,R,r1,r2,r3,r4,r5⟩:=(sw_main k A (b :: B) (d+1) (by simp only [List.length_cons] at *;omega) (h.in_ hab)).2 (by omega)
   have hx:b≤x:=by
    rcases List.mem_cons.1 r2 with rfl | r2
    ·omega
    ·exact hB.1 x r2
   constructor
   ·rintro rfl
    have hs:=h.strict
    refine ⟨⟨a,x-1⟩ :: R,?_,List.pairwise_cons.2 ⟨fun r hr=>?_,r3⟩,fun r hr=>?_,fun n=>?_⟩
    ·rw [sw,if_pos hab,if_pos rfl,r1];simp [turnsR]
    ·have:=(r4 r hr).1;simp only;omega
    ·rcases List.mem_cons.1 hr with rfl | hr
     ·simp only;exact ⟨by omega,by simp,by rw [show x-1+1=x by omega];exact r2⟩
     ·have:=r4 r hr;exact ⟨this.2.1,by simp [this.2.2.1],this.2.2.2⟩
    ·have h5:=r5 n
     rw [inR_cons,cnt_cons a A]
     simp only
     by_cases hn:a≤n
     ·rw [if_pos hn]
      constructor
      ·rintro (g | g)
       ·have:=h5.1 (.inl (by omega));omega
       ·have:=h5.1 (.inr g);omega
      ·intro g
       rcases h5.2 (by omega) with g | g
       ·exact .inl ⟨hn,by omega⟩
       ·exact .inr g
     ·rw [if_neg hn]
      have l1:=lowA n (by omega)
      constructor
      ·rintro (g | ⟨r,hr,g1,g2⟩)
       ·omega
       ·have:=hA.1 _ (r4 r hr).2.2.1;omega
      ·intro g;omega
   ·intro h0
    refine ⟨x,R,?_,r2,r3,fun r hr=>?_,fun n=>?_⟩
    ·rw [sw,if_pos hab,if_neg (by omega),r1];rfl
    ·have:=r4 r hr;exact ⟨this.1,this.2.1,by simp [this.2.2.1],this.2.2.2⟩
    ·rw [r5 n,cnt_cons a A]
     by_cases hn:a≤n
     ·rw [if_pos hn];omega
     ·have l1:=lowA n (by omega)
      have l2:=lowB n (by omega)
      rw [if_neg hn];omega
  ·have hd:=h.pos (by omega)
   have ih:=sw_main k (a :: A) B (d-1) (by simp only [List.length_cons] at *;omega) (h.out (by omega))
   refine ⟨fun h0=>by omega,fun _=>?_⟩
   by_cases e:d=1
   ·obtain ⟨R,r1,r2,r3,r4⟩:=ih.1 (by omega)
    refine ⟨b,R,?_,by simp,r2,fun r hr=>?_,fun n=>?_⟩
    ·rw [sw,if_neg hab,if_pos e,show d-1=0 by omega,r1];rfl
    ·have:=r3 r hr
     refine ⟨?_,this.1,this.2.1,by simp [this.2.2]⟩
     rcases List.mem_cons.1 this.2.1 with g | g
     ·omega
     ·have:=hA.1 _ g;omega
    ·rw [r4 n,cnt_cons b B]
     by_cases hn:b≤n
     ·rw [if_pos hn];omega
     ·have:=lowB n (by omega);rw [if_neg hn];omega
   ·obtain ⟨x,R,r1,r2,r3,r4,r5⟩:=ih.2 (by omega)
    refine ⟨x,R,?_,by simp [r2],r3,fun r hr=>?_,fun n=>?_⟩
    ·rw [sw,if_neg hab,if_neg e,r1];rfl
    ·have:=r4 r hr;exact ⟨this.1,this.2.1,this.2.2.1,by simp [this.2.2.2]⟩
    ·rw [r5 n,cnt_cons b B]
     by_cases hn:b≤n
     ·rw [if_pos hn];omega
     ·have:=lowB n (by omega);have:=lowA n (by omega);rw [if_neg hn];omega
def insR (l:List Run):List Int:=(keepR l).map fun r=>r.lo
def outsR (l:List Run):List Int:=(keepR l).map fun r=>r.hi+1
def insS (l:List Run):List Int:=(insR l).mergeSort leI
def outsS (l:List Run):List Int:=(outsR l).mergeSort leI
theorem leI_sorted (l:List Int):(l.mergeSort leI).Pairwise (fun x y=>x≤y):=by
 have:=List.pairwise_mergeSort leI_tr leI_to l
 exact this.imp fun h=>by simpa [leI] using h
theorem cnt_sort (l:List Int) (n:Int):cntI (l.mergeSort leI) n=cntI l n:=(List.mergeSort_perm l leI).countP_eq _
theorem countP_lt {α:Type} {p q:α→Bool}:∀ {l:List α},(∀ x∈l,p x=true→q x=true)→(l.countP p < l.countP q↔∃ x∈l,q x=true∧¬ p x=true)
 | [],_=>by simp
 | x :: l,h=>by
  have ih:=countP_lt (p:=p) (q:=q) (l:=l) fun y hy=>h y (by simp [hy])
  have hle:=List.countP_mono_left (l:=l) (p:=p) (q:=q) fun y hy=>h y (by simp [hy])
  have hx:=h x (by simp)
  rw [List.countP_cons,List.countP_cons]
  have ex:(∃ y∈x :: l,q y=true∧¬ p y=true)↔(q x=true∧¬ p x=true)∨∃ y∈l,q y=true∧¬ p y=true:=by simp
  rw [ex,← ih]
  by_cases h1:p x=true
  ·have h2:=hx h1
   rw [if_pos h1,if_pos h2]
   constructor
   ·intro g;exact .inr (by omega)
   ·rintro (g | g)
    ·exact absurd h1 g.2
    ·omega
  ·by_cases h2:q x=true
   ·rw [if_neg h1,if_pos h2]
    constructor
    ·intro _;exact .inl ⟨h2,h1⟩
    ·intro _;omega
   ·rw [if_neg h1,if_neg h2]
    constructor
    ·intro g;exact .inr (by omega)
    ·rintro (g | g)
     ·exact absurd g.1 h2
     ·omega
theorem keep_in (l:List Run) (n:Int):inR (keepR l) n↔1≤n∧n≤1000000000∧inR l n:=by
 constructor
 ·rintro ⟨r,hr,h1,h2⟩
  unfold keepR at hr
  obtain ⟨hr,_⟩:=List.mem_filter.1 hr
  obtain ⟨x,hx,rfl⟩:=List.mem_map.1 hr
  simp only [clipR] at h1 h2
  exact ⟨by omega,by omega,x,hx,by omega,by omega⟩
 ·rintro ⟨h1,h2,x,hx,h3,h4⟩
  refine ⟨clipR x,?_,?_,?_⟩
  ·unfold keepR
   refine List.mem_filter.2 ⟨List.mem_map.2 ⟨x,hx,rfl⟩,?_⟩
   show decide ((clipR x).lo≤(clipR x).hi)=true
   rw [decide_eq_true_iff]
   show max x.lo 1≤min x.hi 1000000000
   omega
  ·simp only [clipR];omega
  ·simp only [clipR];omega
theorem cnt_ins (l:List Run) (n:Int):cntI (insS l) n=(keepR l).countP fun r=>decide (r.lo≤n):=by
 unfold insS insR
 rw [cnt_sort,cntI,List.countP_map]
 rfl
theorem cnt_outs (l:List Run) (n:Int):cntI (outsS l) n=(keepR l).countP fun r=>decide (r.hi+1≤n):=by
 unfold outsS outsR
 rw [cnt_sort,cntI,List.countP_map]
 rfl
theorem sweep_ok (l:List Run):VW (insS l) (outsS l) 0:=by
 refine ⟨leI_sorted _,leI_sorted _,?_,fun n=>?_⟩
 ·unfold insS outsS insR outsR
  rw [List.length_mergeSort,List.length_mergeSort]
  simp
 ·rw [cnt_ins,cnt_outs,Nat.zero_add]
  refine List.countP_mono_left fun r hr h=>?_
  have:=keep_good r hr
  unfold good1 at this
  simp only [decide_eq_true_eq] at *
  omega
theorem sweep_nrm (l:List Run):sw (insS l) (outsS l) 0=turnsR (nrm l):=by
 obtain ⟨R,r1,r2,r3,r4⟩:=(sw_main _ _ _ _ rfl (sweep_ok l)).1 rfl
 rw [r1]
 congr 1
 have bd:∀ r∈R,1≤r.lo∧r.hi≤1000000000:=fun r hr=>by
  obtain ⟨_,h1,h2⟩:=r3 r hr
  have h1:=(List.mergeSort_perm _ _).subset h1
  have h2:=(List.mergeSort_perm _ _).subset h2
  obtain ⟨x,hx,ex⟩:=List.mem_map.1 h1
  obtain ⟨y,hy,ey⟩:=List.mem_map.1 h2
  have gx:=keep_good x hx
  have gy:=keep_good y hy
  unfold good1 okR at gx gy
  omega
 refine sep_unique ⟨r2,fun r hr=>?_⟩ (nrm_sep l) fun n=>?_
 ·have:=bd r hr;have:=(r3 r hr).1;omega
 ·rw [r4 n,nrm_in,cnt_ins,cnt_outs,← keep_in,countP_lt fun r hr h=>by
   have:=keep_good r hr
   unfold good1 at this
   simp only [decide_eq_true_eq] at *
   omega]
  unfold inR
  constructor
  ·rintro ⟨r,hr,h1,h2⟩
   simp only [decide_eq_true_eq] at h1 h2
   exact ⟨r,hr,h1,by omega⟩
  ·rintro ⟨r,hr,h1,h2⟩
   exact ⟨r,hr,by simp only [decide_eq_true_eq];exact h1,by simp only [decide_eq_true_eq];omega⟩
end Go.Proofs.YtaiepnaokhpmcaaGreat
namespace Go.Proofs.YtaiepnaokhpmcaaGreat
open Go.E
set_option maxRecDepth 100000
set_option maxHeartbeats 4000000
theorem maxR_last {l:List Run} (h:sepR l) (h0:0 < l.length):maxR l=l[l.length-1]!.hi:=by
 have hm:l[l.length-1]!∈l:=bang_in (by omega)
 have hb:=h.2 _ hm
 rcases maxR_is l with ⟨_,h2⟩ | ⟨h1,h2,h3,h4⟩
 ·exact absurd ⟨_,hm,by omega,Int.le_refl _⟩ (h2 l[l.length-1]!.hi (by omega) (by omega))
 ·have h5:=h4 l[l.length-1]!.hi (by omega) (by omega) ⟨_,hm,by omega,Int.le_refl _⟩
  obtain ⟨x,hx,k1,k2⟩:=h3
  obtain ⟨i,hi,rfl⟩:=List.mem_iff_getElem.1 hx
  by_cases e:i=l.length-1
  ·subst e
   rw [getElem!_pos l _ hi] at h5 ⊢
   omega
  ·have:=List.pairwise_iff_getElem.1 h.1 i (l.length-1) hi (by omega) (by omega)
   rw [getElem!_pos l _ (by omega)] at h5 hb ⊢
   omega
end Go.Proofs.YtaiepnaokhpmcaaGreat
namespace Go.Proofs.YtaiepnaokhpmcaaGreat
open Go.E
set_option maxRecDepth 100000
set_option maxHeartbeats 4000000
def zipR (lo hi:List Int):List Run:=List.zipWith (fun a b=>⟨a,b⟩) lo hi
def isIns (lo hi:List Int) (i:Int) (l:List Int):Prop:=l=insR ((zipR lo hi).take i.toNat)
def isOuts (lo hi:List Int) (i:Int) (l:List Int):Prop:=l=outsR ((zipR lo hi).take i.toNat)
def invTa (lo hi:List Int) (i:Int) (a b:List Int):Prop:=0≤i∧i≤lo.length∧(a.length:Int)≤i∧(b.length:Int)=a.length∧isIns lo hi i a∧isOuts lo hi i b
def decTa (lo:List Int) (i:Int) (a b:List Int):Nat:=(lo.length-i).toNat
def isSw (A B:List Int) (i j:Int) (t:List Int):Prop:=VW (A.drop i.toNat) (B.drop j.toNat) (i-j).toNat∧j≤i∧t++sw (A.drop i.toNat) (B.drop j.toNat) (i-j).toNat=sw A B 0
def invTb (A B:List Int) (d j i:Int) (t:List Int):Prop:=0≤i∧i≤A.length∧0≤j∧j≤B.length∧d=i-j∧(t.length:Int)≤i+j∧isSw A B i j t
def decTb (A B:List Int) (d j i:Int) (t:List Int):Nat:=(A.length+B.length-i-j).toNat
theorem isSw_len {A B:List Int} {i j:Int} {t:List Int} (h0:0≤i) (hi:i≤A.length) (j0:0≤j) (jl:j≤B.length) (h:isSw A B i j t):A.length=B.length:=by
 have:=h.1.len
 have:=h.2.1
 simp only [List.length_drop] at *
 omega
theorem isSw_in {A B:List Int} {i j:Int} {t:List Int} (h0:0≤i) (hi:i < A.length) (j0:0≤j) (jl:j≤B.length) (hle:A[i.toNat]!≤B[j.toNat]!) (h:isSw A B i j t) :
  isSw A B (i+1) j (if i-j=0 then t++[A[i.toNat]!] else t):=by
 have hl:=isSw_len h0 (by omega) j0 jl h
 obtain ⟨v,hji,e⟩:=h
 have hj:j < B.length:=by omega
 rw [drop_at h0 hi,drop_at j0 hj] at v e
 rw [sw,if_pos hle] at e
 refine ⟨?_,by omega,?_⟩
 ·rw [drop_at j0 hj,show (i+1-j).toNat=(i-j).toNat+1 by omega];exact v.in_ hle
 ·rw [← e,drop_at j0 hj,show (i+1-j).toNat=(i-j).toNat+1 by omega]
  by_cases z:i-j=0
  ·rw [if_pos z,if_pos (show (i-j).toNat=0 by omega),List.append_assoc]
  ·rw [if_neg z,if_neg (show ¬ (i-j).toNat=0 by omega)];rfl
theorem isSw_out {A B:List Int} {i j:Int} {t:List Int} (h0:0≤i) (hi:i≤A.length) (j0:0≤j) (jl:j≤B.length) (ho:i < A.length∨j < B.length) (hn:¬ (i < A.length∧A[i.toNat]!≤B[j.toNat]!)) (h:isSw A B i j t) :
  j < B.length∧j < i∧isSw A B i (j+1) (if i-j-1=0 then t++[B[j.toNat]!] else t):=by
 have hl:=isSw_len h0 hi j0 jl h
 obtain ⟨v,hji,e⟩:=h
 have hj:j < B.length:=by omega
 rw [drop_at j0 hj] at v e
 by_cases hA:i < A.length
 ·have hba:B[j.toNat]! < A[i.toNat]!:=by have:¬ A[i.toNat]!≤B[j.toNat]!:=fun k=>hn ⟨hA,k⟩;omega
  rw [drop_at h0 hA] at v e
  have hp:=v.pos hba
  rw [sw,if_neg (by omega)] at e
  refine ⟨hj,by omega,?_,by omega,?_⟩
  ·rw [drop_at h0 hA,show (i-(j+1)).toNat=(i-j).toNat-1 by omega];exact v.out hba
  ·rw [← e,drop_at h0 hA,show (i-(j+1)).toNat=(i-j).toNat-1 by omega]
   by_cases z:i-j-1=0
   ·rw [if_pos z,if_pos (show (i-j).toNat=1 by omega),List.append_assoc]
   ·rw [if_neg z,if_neg (show ¬ (i-j).toNat=1 by omega)];rfl
 ·rw [List.drop_of_length_le (l:=A) (by omega)] at v e
  have hp:=v.end_
  rw [sw] at e
  refine ⟨hj,by omega,?_,by omega,?_⟩
  ·rw [List.drop_of_length_le (l:=A) (by omega),show (i-(j+1)).toNat=(i-j).toNat-1 by omega];exact hp.2
  ·rw [← e,List.drop_of_length_le (l:=A) (by omega),show (i-(j+1)).toNat=(i-j).toNat-1 by omega]
   by_cases z:i-j-1=0
   ·rw [if_pos z,if_pos (show (i-j).toNat=1 by omega),List.append_assoc]
   ·rw [if_neg z,if_neg (show ¬ (i-j).toNat=1 by omega)];rfl
theorem isSw_end {A B:List Int} {i j:Int} {t:List Int} (ho:¬ (i < A.length∨j < B.length)) (h:isSw A B i j t):t=sw A B 0:=by
 have e:=h.2.2
 rw [List.drop_of_length_le (by omega),List.drop_of_length_le (by omega),sw,List.append_nil] at e
 exact e
theorem zip_len {lo hi:List Int} (h:lo.length=hi.length):(zipR lo hi).length=lo.length:=by
 unfold zipR;rw [List.length_zipWith];omega
theorem zip_step {lo hi:List Int} {i:Int} (h:lo.length=hi.length) (h0:0≤i) (hi':i < lo.length):(zipR lo hi).take (i+1).toNat=(zipR lo hi).take i.toNat++[⟨lo[i.toNat]!,hi[i.toNat]!⟩]:=by
 rw [← take_step h0 (by rw [zip_len h];exact hi')]
 congr 2
 have:=zip_len h
 rw [getElem!_pos (zipR lo hi) i.toNat (by omega),getElem!_pos lo i.toNat (by omega),getElem!_pos hi i.toNat (by omega)]
 simp [zipR]
theorem ins_app (a:List Run) (r:Run):insR (a++[r])=insR a++if (clipR r).lo≤(clipR r).hi then [(clipR r).lo] else []:=by
 unfold insR
 rw [keepR_app,keepR_one,List.map_append]
 split <;> rfl
theorem outs_app (a:List Run) (r:Run):outsR (a++[r])=outsR a++if (clipR r).lo≤(clipR r).hi then [(clipR r).hi+1] else []:=by
 unfold outsR
 rw [keepR_app,keepR_one,List.map_append]
 split <;> rfl
theorem isIns_in {lo hi:List Int} {i:Int} {a b:List Int} (h:lo.length=hi.length) (h0:0≤i) (hl:i < lo.length) (hc:max lo[i.toNat]! 1≤min hi[i.toNat]! 1000000000) (ha:isIns lo hi i a) (hb:isOuts lo hi i b) :
  isIns lo hi (i+1) (a++[max lo[i.toNat]! 1])∧isOuts lo hi (i+1) (b++[min hi[i.toNat]! 1000000000+1]):=by
 unfold isIns isOuts at *
 have hc':(clipR ⟨lo[i.toNat]!,hi[i.toNat]!⟩).lo≤(clipR ⟨lo[i.toNat]!,hi[i.toNat]!⟩).hi:=hc
 rw [zip_step h h0 hl,ins_app,outs_app,← ha,← hb,if_pos hc',if_pos hc']
 exact ⟨rfl,rfl⟩
theorem isIns_out {lo hi:List Int} {i:Int} {a b:List Int} (h:lo.length=hi.length) (h0:0≤i) (hl:i < lo.length) (hc:¬ max lo[i.toNat]! 1≤min hi[i.toNat]! 1000000000) (ha:isIns lo hi i a) (hb:isOuts lo hi i b) :
  isIns lo hi (i+1) a∧isOuts lo hi (i+1) b:=by
 unfold isIns isOuts at *
 have hc':¬ (clipR ⟨lo[i.toNat]!,hi[i.toNat]!⟩).lo≤(clipR ⟨lo[i.toNat]!,hi[i.toNat]!⟩).hi:=hc
 rw [zip_step h h0 hl,ins_app,outs_app,← ha,← hb,if_neg hc',if_neg hc',List.append_nil,List.append_nil]
 exact ⟨rfl,rfl⟩
theorem isIns_end {lo hi:List Int} {i:Int} {a b:List Int} (h:lo.length=hi.length) (hl:¬ i < lo.length) (ha:isIns lo hi i a) (hb:isOuts lo hi i b):a.mergeSort leI=insS (zipR lo hi)∧b.mergeSort leI=outsS (zipR lo hi):=by
 unfold isIns isOuts at *
 have:=zip_len h
 rw [ha,hb,List.take_of_length_le (by omega)]
 exact ⟨rfl,rfl⟩
theorem isSw_start (l:List Run):isSw (insS l) (outsS l) 0 0 []:=⟨sweep_ok l,by omega,by simp⟩
theorem con171 (lo hi:List Int) (h:lo.length=hi.length) (hb:lo.length*16≤140737488351232):Con Tryz.prog 171 [.sl (lo.map c3),.sl (hi.map c3)] (.sl ((turnsR (nrm (zipR lo hi))).map c3)) :=
 by
 refine con_lens 0 (c3) (lo) (by kernel_rfl) Go.Proofs.Tryz.func171 (by kernel_rfl) fun hl_0=>con_lens 1 (c3) (hi) (by kernel_rfl) Go.Proofs.Tryz.func171 (by kernel_rfl) fun hl_1=>st_con tab_ok (by kernel_rfl) [.tmp 4] 98 Go.Proofs.Tryz.func171 (by kernel_rfl) (by kernel_rfl) ?_
 intro e0 cx
 refine sq<|rG cx [0,1] [] z0<|sn<|sq<|rG cx [0,1,5,6] [] z0<|sn<|sq<|sq<|rG cx [0,1,5,6,7] [] z0<|sn<|bL 0<|awp_adopt 5 1005 3 1 (σ':=⟨[(0,.sl (List.map c3 lo)),(1,.sl (List.map c3 hi)),(5,.own 1005 0),(6,.nl),(7,.i .i64 ((0:Int)))],[(1005,⟨0,3,.row 1 (List.map c3 [])⟩)]⟩) (by kernel_rfl)<|awp_adopt 6 1006 3 1 (σ':=⟨[(0,.sl (List.map c3 lo)),(1,.sl (List.map c3 hi)),(5,.own 1005 0),(6,.own 1006 0),(7,.i .i64 ((0:Int)))],[(1005,⟨0,3,.row 1 (List.map c3 [])⟩),(1006,⟨0,3,.row 1 (List.map c3 [])⟩)]⟩) (by kernel_rfl)<|st_loop (X:=Int×List Int×List Int) (fun x=>⟨[(0,.sl (List.map c3 lo)),(1,.sl (List.map c3 hi)),(5,.own 1005 0),(6,.own 1006 0),(7,.i .i64 (x.1))],[(1005,⟨0,3,.row 1 (List.map c3 x.2.1)⟩),(1006,⟨0,3,.row 1 (List.map c3 x.2.2)⟩)]⟩) (fun x ↦ decTa lo x.1 x.2.1 x.2.2) (fun x ↦ invTa lo hi x.1 x.2.1 x.2.2) [0,1,5,6,7] [1005,1006] (((0:Int),[],[])) (by kernel_rfl) (by kernel_rfl) (show invTa lo hi (0:Int) [] [] from ?g0) ?_;rotate_left
 rintro ⟨i0,a1,b2⟩ h_3
 obtain ⟨hh4,hh5,hh6,hh7,h8,h9⟩:(0:Int)≤i0∧i0≤(↑lo.length:Int)∧(↑a1.length:Int)≤i0∧(↑b2.length:Int)=(↑a1.length:Int)∧isIns lo hi i0 a1∧isOuts lo hi i0 b2:=h_3
 refine sq<|sq<|rG cx [0,1,5,6,7,17] [1005,1006] (tL 2 c3 lo (tB 3 (i0 < (↑lo.length:Int)) z0))<|sn<|dC (i0 < (↑lo.length:Int)) (fun h10=>?_) fun h10=>?_
 refine sK<|sn<|sq<|bL 1<|sq<|rA cx [0,1,5,6,7,8,9] [1005,1006] (fA ((0:Int)≤i0) (fG c3 lo i0.toNat (fR (1:Nat) (tT 4 (told_max:AV.i .i64 (if (1:Int) > lo[i0.toNat]! then (1:Int) else lo[i0.toNat]!)=AV.i .i64 (max lo[i0.toNat]! (1:Int))) (fA ((0:Int)≤i0) (fG c3 hi i0.toNat (fR (1:Nat) (tT 9 (told_min:AV.i .i64 (if (1000000000:Int) < hi[i0.toNat]! then (1000000000:Int) else hi[i0.toNat]!)=AV.i .i64 (min hi[i0.toNat]! (1000000000:Int))) (oR 2 (c3 lo[i0.toNat]!) (oR 7 (c3 hi[i0.toNat]!) z0))))))))))<|sn<|sq<|rG cx [0,1,5,6,7,8,9,32] [1005,1006] (tB 2 (max lo[i0.toNat]! (1:Int)≤min hi[i0.toNat]! (1000000000:Int)) z0)<|sn<|dC (max lo[i0.toNat]! (1:Int)≤min hi[i0.toNat]! (1000000000:Int)) (fun h11=>?_) fun h11=>?_
 refine sq<|rG cx [0,1,5,6,7,9] [1005,1006] (fR (3:Nat) (fR 1 (fR (1:Nat) (fX c3 [max lo[i0.toNat]! (1:Int)] 1 (fS c3 a1 c3 [max lo[i0.toNat]! (1:Int)] (fP (((List.map c3 a1).length+(List.map c3 [max lo[i0.toNat]! (1:Int)]).length)*(8:Nat)≤(140737488355328:Nat)) (by (simp only [Go.maxLen,List.length_map,List.length_append,List.length_cons,List.length_nil];omega)) (fM c3 a1 [max lo[i0.toNat]! (1:Int)] (oV 3 { rows:=some (List.map c3 (a1++[max lo[i0.toNat]! (1:Int)])) } z0))))))))<|sn<|rG cx [0,1,5,6,7] [1005,1006] (tW 2 (min hi[i0.toNat]! (1000000000:Int)+(1:Int)) (fR (3:Nat) (fR 1 (fR (1:Nat) (fX c3 [min hi[i0.toNat]! (1000000000:Int)+(1:Int)] 1 (fS c3 b2 c3 [min hi[i0.toNat]! (1000000000:Int)+(1:Int)] (fP (((List.map c3 b2).length+(List.map c3 [min hi[i0.toNat]! (1000000000:Int)+(1:Int)]).length)*(8:Nat)≤(140737488355328:Nat)) (by (simp only [Go.maxLen,List.length_map,List.length_append,List.length_cons,List.length_nil];omega)) (fM c3 b2 [min hi[i0.toNat]! (1000000000:Int)+(1:Int)] (oV 4 { rows:=some (List.map c3 (b2++[min hi[i0.toNat]! (1000000000:Int)+(1:Int)])) } z0)))))))))<|bN<|sn<|rG cx [0,1,5,6,7] [1005,1006] (tW 1 (i0+(1:Int)) z0)<|sn<|loop_next ((i0+(1:Int),a1++[max lo[i0.toNat]! (1:Int)],b2++[min hi[i0.toNat]! (1000000000:Int)+(1:Int)])) (by kernel_rfl) (show ((↑lo.length:Int)-(i0+(1:Int))).toNat < ((↑lo.length:Int)-i0).toNat from (by omega)) (show invTa lo hi (i0+(1:Int)) (a1++[max lo[i0.toNat]! (1:Int)]) (b2++[min hi[i0.toNat]! (1000000000:Int)+(1:Int)]) from ?g1);rotate_left
 refine sK<|bN<|sn<|rG cx [0,1,5,6,7] [1005,1006] (tW 1 (i0+(1:Int)) z0)<|sn<|loop_next ((i0+(1:Int),a1,b2)) (by kernel_rfl) (show ((↑lo.length:Int)-(i0+(1:Int))).toNat < ((↑lo.length:Int)-i0).toNat from (by omega)) (show invTa lo hi (i0+(1:Int)) a1 b2 from ?g2);rotate_left
 refine eX 0<|nE<|nE<|bH<|sn<|sq<|rG cx [5,6] [1006] (fT (con200 (a1) (by omega)) (oA 1 (.sl (List.map c3 (a1.mergeSort leI))) z0))<|sn<|sq<|rG cx [5,6] [] (fT (con200 (b2) (by omega)) (oA 1 (.sl (List.map c3 (b2.mergeSort leI))) z0))<|sn<|sq<|rG cx [5,6,10] [] z0<|sn<|sq<|rG cx [5,6,10,11,12] [] z0<|sn<|sq<|sq<|rG cx [5,6,10,11,12,13] [] z0<|sn<|bL 2<|awp_adopt 10 1010 3 1 (σ':=⟨[(5,.sl (List.map c3 (a1.mergeSort leI))),(6,.sl (List.map c3 (b2.mergeSort leI))),(10,.own 1010 0),(11,.i .i64 ((0:Int))),(12,.i .i64 ((0:Int))),(13,.i .i64 ((0:Int)))],[(1010,⟨0,3,.row 1 (List.map c3 [])⟩)]⟩) (by kernel_rfl)<|st_loop (X:=Int×Int×Int×List Int) (fun x=>⟨[(5,.sl (List.map c3 (a1.mergeSort leI))),(6,.sl (List.map c3 (b2.mergeSort leI))),(10,.own 1010 0),(11,.i .i64 (x.1)),(12,.i .i64 (x.2.1)),(13,.i .i64 (x.2.2.1))],[(1010,⟨0,3,.row 1 (List.map c3 x.2.2.2)⟩)]⟩) (fun x ↦ decTb (a1.mergeSort leI) (b2.mergeSort leI) x.1 x.2.1 x.2.2.1 x.2.2.2) (fun x ↦ invTb (a1.mergeSort leI) (b2.mergeSort leI) x.1 x.2.1 x.2.2.1 x.2.2.2) [5,6,10,11,12,13] [1010] (((0:Int),(0:Int),(0:Int),[])) (by kernel_rfl) (by kernel_rfl) (show invTb (a1.mergeSort leI) (b2.mergeSort leI) (0:Int) (0:Int) (0:Int) [] from ?g3) ?_;rotate_left
 rintro ⟨d12,j13,i14,t15⟩ h_16
 obtain ⟨h17,h18,h19,h20,h21,h22,h23⟩:(0:Int)≤i14∧i14≤(↑(a1.mergeSort leI).length:Int)∧(0:Int)≤j13∧j13≤(↑(b2.mergeSort leI).length:Int)∧d12=i14-j13∧(↑t15.length:Int)≤i14+j13∧isSw (a1.mergeSort leI) (b2.mergeSort leI) i14 j13 t15:=h_16
 refine sq<|sq<|st_join (σ':=⟨[(5,.sl (List.map c3 (a1.mergeSort leI))),(6,.sl (List.map c3 (b2.mergeSort leI))),(10,.own 1010 0),(11,.i .i64 (d12)),(12,.i .i64 (j13)),(13,.i .i64 (i14)),(55,.b (decide (i14 < (↑(a1.mergeSort leI).length:Int)∨j13 < (↑(b2.mergeSort leI).length:Int))))],[(1010,⟨0,3,.row 1 (List.map c3 t15)⟩)]⟩) ?_ ?_
 refine st_split (i14 < (↑(a1.mergeSort leI).length:Int)) (fun h_25=>?_) (fun h_25=>?_)
 refine rG cx [5,6,10,11,12,13,55] [1010] (tL 2 c3 (a1.mergeSort leI) (tT 3 (told_true h_25) (tD 9 true (i14 < (↑(a1.mergeSort leI).length:Int)∨j13 < (↑(b2.mergeSort leI).length:Int)) (by simp only [eq_true h_25,tsl]) z0))) ?_
 exact ⟨rfl,by kernel_rfl⟩
 refine rG cx [5,6,10,11,12,13,55] [1010] (tL 2 c3 (a1.mergeSort leI) (tT 3 (told_false h_25) (tL 7 c3 (b2.mergeSort leI) (tB 8 (j13 < (↑(b2.mergeSort leI).length:Int)) (tD 9 (decide (j13 < (↑(b2.mergeSort leI).length:Int))) (i14 < (↑(a1.mergeSort leI).length:Int)∨j13 < (↑(b2.mergeSort leI).length:Int)) (by simp only [eq_false h_25,tsl]) z0))))) ?_
 exact ⟨rfl,by kernel_rfl⟩
 refine sn<|dC (i14 < (↑(a1.mergeSort leI).length:Int)∨j13 < (↑(b2.mergeSort leI).length:Int)) (fun h26=>?_) fun h26=>?_
 refine sK<|sn<|bL 3<|sq<|st_join (σ':=⟨[(5,.sl (List.map c3 (a1.mergeSort leI))),(6,.sl (List.map c3 (b2.mergeSort leI))),(10,.own 1010 0),(11,.i .i64 (d12)),(12,.i .i64 (j13)),(13,.i .i64 (i14)),(70,.b (decide (i14 < (↑(a1.mergeSort leI).length:Int)∧(a1.mergeSort leI)[i14.toNat]!≤(b2.mergeSort leI)[j13.toNat]!)))],[(1010,⟨0,3,.row 1 (List.map c3 t15)⟩)]⟩) ?_ ?_
 refine st_split (i14 < (↑(a1.mergeSort leI).length:Int)) (fun h28=>?_) (fun h28=>?_)
 refine rA cx [5,6,10,11,12,13,70] [1010] (tL 2 c3 (a1.mergeSort leI) (tT 3 (told_true h28) (fA ((0:Int)≤i14) (fG c3 (a1.mergeSort leI) i14.toNat (fR (1:Nat) (fA ((0:Int)≤j13) (fP ((List.map c3 (b2.mergeSort leI))[j13.toNat]?=some (c3 (b2.mergeSort leI)[j13.toNat]!)) ?g4 (fR (1:Nat) (tB 13 ((a1.mergeSort leI)[i14.toNat]!≤(b2.mergeSort leI)[j13.toNat]!) (tD 14 (decide ((a1.mergeSort leI)[i14.toNat]!≤(b2.mergeSort leI)[j13.toNat]!)) (i14 < (↑(a1.mergeSort leI).length:Int)∧(a1.mergeSort leI)[i14.toNat]!≤(b2.mergeSort leI)[j13.toNat]!) (by simp only [eq_true h28,tsl]) (oR 7 (c3 (a1.mergeSort leI)[i14.toNat]!) (oR 11 (c3 (b2.mergeSort leI)[j13.toNat]!) z0)))))))))))) ?_;rotate_left
 exact ⟨rfl,by kernel_rfl⟩
 refine rA cx [5,6,10,11,12,13,70] [1010] (tL 2 c3 (a1.mergeSort leI) (tT 3 (told_false h28) (tD 14 false (i14 < (↑(a1.mergeSort leI).length:Int)∧(a1.mergeSort leI)[i14.toNat]!≤(b2.mergeSort leI)[j13.toNat]!) (by simp only [eq_false h28,tsl]) z0))) ?_
 exact ⟨rfl,by kernel_rfl⟩
 refine sn<|dC (i14 < (↑(a1.mergeSort leI).length:Int)∧(a1.mergeSort leI)[i14.toNat]!≤(b2.mergeSort leI)[j13.toNat]!) (fun h29=>?_) fun h29=>?_
 refine sq<|sq<|rG cx [5,6,10,11,12,13,72] [1010] (tB 1 (d12=(0:Int)) z0)<|sn<|dC (d12=(0:Int)) (fun h30=>?_) fun h30=>?_
 refine rG cx [5,6,10,11,12,13] [1010] (fA ((0:Int)≤i14) (fG c3 (a1.mergeSort leI) i14.toNat (fR (1:Nat) (fR (3:Nat) (fR 1 (fR (1:Nat) (fX c3 [(a1.mergeSort leI)[i14.toNat]!] 1 (fP ((List.map c3 t15).length+(List.map c3 [(a1.mergeSort leI)[i14.toNat]!]).length≤maxLen) ?g5 (fP (((List.map c3 t15).length+(List.map c3 [(a1.mergeSort leI)[i14.toNat]!]).length)*(8:Nat)≤(140737488355328:Nat)) ?g6 (fM c3 t15 [(a1.mergeSort leI)[i14.toNat]!] (oR 3 (c3 (a1.mergeSort leI)[i14.toNat]!) (oV 6 { rows:=some (List.map c3 (t15++[(a1.mergeSort leI)[i14.toNat]!])) } z0)))))))))))) ?_;rotate_left 2
 refine sn<|sq<|rG cx [5,6,10,11,12,13] [1010] (tW 1 (d12+(1:Int)) z0)<|sn<|rG cx [5,6,10,11,12,13] [1010] (tT 1 (told_i64 (by omega) ?g7:AV.i .i64 (IntKind.i64.wrap (i14+(1:Int)))=AV.i .i64 (i14+(1:Int))) z0) ?_;rotate_left
 refine bN<|sn<|loop_next ((d12+(1:Int),j13,i14+(1:Int),t15++[(a1.mergeSort leI)[i14.toNat]!])) (by kernel_rfl) (show ((↑(a1.mergeSort leI).length:Int)+(↑(b2.mergeSort leI).length:Int)-(i14+(1:Int))-j13).toNat < ((↑(a1.mergeSort leI).length:Int)+(↑(b2.mergeSort leI).length:Int)-i14-j13).toNat from (by omega)) (show invTb (a1.mergeSort leI) (b2.mergeSort leI) (d12+(1:Int)) j13 (i14+(1:Int)) (t15++[(a1.mergeSort leI)[i14.toNat]!]) from ?g8);rotate_left
 refine sK<|sn<|sq<|rG cx [5,6,10,11,12,13] [1010] (tT 1 (told_i64 ?g9 ?g10:AV.i .i64 (IntKind.i64.wrap (d12+(1:Int)))=AV.i .i64 (d12+(1:Int))) z0) ?_;rotate_left 2
 refine sn<|rG cx [5,6,10,11,12,13] [1010] (tT 1 (told_i64 (by omega) ?g11:AV.i .i64 (IntKind.i64.wrap (i14+(1:Int)))=AV.i .i64 (i14+(1:Int))) z0) ?_;rotate_left
 refine bN<|sn<|loop_next ((d12+(1:Int),j13,i14+(1:Int),t15)) (by kernel_rfl) (show ((↑(a1.mergeSort leI).length:Int)+(↑(b2.mergeSort leI).length:Int)-(i14+(1:Int))-j13).toNat < ((↑(a1.mergeSort leI).length:Int)+(↑(b2.mergeSort leI).length:Int)-i14-j13).toNat from (by omega)) (show invTb (a1.mergeSort leI) (b2.mergeSort leI) (d12+(1:Int)) j13 (i14+(1:Int)) t15 from ?g12);rotate_left
 refine sq<|rG cx [5,6,10,11,12,13] [1010] (tT 1 (told_i64 ?g13 ?g14:AV.i .i64 (IntKind.i64.wrap (d12-(1:Int)))=AV.i .i64 (d12-(1:Int))) z0) ?_;rotate_left 2
 refine sn<|sq<|sq<|rG cx [5,6,10,11,12,13,87] [1010] (tB 1 (d12-(1:Int)=(0:Int)) z0)<|sn<|dC (d12-(1:Int)=(0:Int)) (fun h31=>?_) fun h31=>?_
 refine rG cx [5,6,10,11,12,13] [1010] (fA ((0:Int)≤j13) (fP ((List.map c3 (b2.mergeSort leI))[j13.toNat]?=some (c3 (b2.mergeSort leI)[j13.toNat]!)) ?g15 (fR (1:Nat) (fR (3:Nat) (fR 1 (fR (1:Nat) (fX c3 [(b2.mergeSort leI)[j13.toNat]!] 1 (fP ((List.map c3 t15).length+(List.map c3 [(b2.mergeSort leI)[j13.toNat]!]).length≤maxLen) ?g16 (fP (((List.map c3 t15).length+(List.map c3 [(b2.mergeSort leI)[j13.toNat]!]).length)*(8:Nat)≤(140737488355328:Nat)) ?g17 (fM c3 t15 [(b2.mergeSort leI)[j13.toNat]!] (oR 3 (c3 (b2.mergeSort leI)[j13.toNat]!) (oV 6 { rows:=some (List.map c3 (t15++[(b2.mergeSort leI)[j13.toNat]!])) } z0)))))))))))) ?_;rotate_left 3
 refine sn<|rG cx [5,6,10,11,12,13] [1010] (tT 1 (told_i64 (by omega) ?g18:AV.i .i64 (IntKind.i64.wrap (j13+(1:Int)))=AV.i .i64 (j13+(1:Int))) z0) ?_;rotate_left
 refine bN<|sn<|loop_next ((d12-(1:Int),j13+(1:Int),i14,t15++[(b2.mergeSort leI)[j13.toNat]!])) (by kernel_rfl) (show ((↑(a1.mergeSort leI).length:Int)+(↑(b2.mergeSort leI).length:Int)-i14-(j13+(1:Int))).toNat < ((↑(a1.mergeSort leI).length:Int)+(↑(b2.mergeSort leI).length:Int)-i14-j13).toNat from (by omega)) (show invTb (a1.mergeSort leI) (b2.mergeSort leI) (d12-(1:Int)) (j13+(1:Int)) i14 (t15++[(b2.mergeSort leI)[j13.toNat]!]) from ?g19);rotate_left
 refine sK<|sn<|rG cx [5,6,10,11,12,13] [1010] (tT 1 (told_i64 (by omega) ?g20:AV.i .i64 (IntKind.i64.wrap (j13+(1:Int)))=AV.i .i64 (j13+(1:Int))) z0) ?_;rotate_left
 refine bN<|sn<|loop_next ((d12-(1:Int),j13+(1:Int),i14,t15)) (by kernel_rfl) (show ((↑(a1.mergeSort leI).length:Int)+(↑(b2.mergeSort leI).length:Int)-i14-(j13+(1:Int))).toNat < ((↑(a1.mergeSort leI).length:Int)+(↑(b2.mergeSort leI).length:Int)-i14-j13).toNat from (by omega)) (show invTb (a1.mergeSort leI) (b2.mergeSort leI) (d12-(1:Int)) (j13+(1:Int)) i14 t15 from ?g21);rotate_left
 refine eX 2<|nE<|nE<|bH<|sn<|sq<|rG cx [4] [1010] z0<|sn<|rT<|qR (.sl (List.map c3 t15)) (.eq ?g22);rotate_left
 rotate_left
 revert i0 a1 b2 hh4 hh5 hh6 hh7 h8 h9 h10 h11;rotate_left
 revert i0 a1 b2 hh4 hh5 hh6 hh7 h8 h9 h10 h11;rotate_left
 revert i0 a1 b2 hh4 hh5 hh6 hh7 h8 h9 h10;rotate_left
 revert i0 a1 b2 hh4 hh5 hh6 hh7 h8 h9 h10 d12 j13 i14 t15 h17 h18 h19 h20 h21 h22 h23 h26 h28;rotate_left
 revert i0 a1 b2 hh4 hh5 hh6 hh7 h8 h9 h10 d12 j13 i14 t15 h17 h18 h19 h20 h21 h22 h23 h26 h29 h30;rotate_left
 revert i0 a1 b2 hh4 hh5 hh6 hh7 h8 h9 h10 d12 j13 i14 t15 h17 h18 h19 h20 h21 h22 h23 h26 h29 h30;rotate_left
 revert i0 a1 b2 hh4 hh5 hh6 hh7 h8 h9 h10 d12 j13 i14 t15 h17 h18 h19 h20 h21 h22 h23 h26 h29 h30;rotate_left
 revert i0 a1 b2 hh4 hh5 hh6 hh7 h8 h9 h10 d12 j13 i14 t15 h17 h18 h19 h20 h21 h22 h23 h26 h29 h30;rotate_left
 revert i0 a1 b2 hh4 hh5 hh6 hh7 h8 h9 h10 d12 j13 i14 t15 h17 h18 h19 h20 h21 h22 h23 h26 h29 h30;rotate_left
 revert i0 a1 b2 hh4 hh5 hh6 hh7 h8 h9 h10 d12 j13 i14 t15 h17 h18 h19 h20 h21 h22 h23 h26 h29 h30;rotate_left
 revert i0 a1 b2 hh4 hh5 hh6 hh7 h8 h9 h10 d12 j13 i14 t15 h17 h18 h19 h20 h21 h22 h23 h26 h29 h30;rotate_left
 revert i0 a1 b2 hh4 hh5 hh6 hh7 h8 h9 h10 d12 j13 i14 t15 h17 h18 h19 h20 h21 h22 h23 h26 h29 h30;rotate_left
 revert i0 a1 b2 hh4 hh5 hh6 hh7 h8 h9 h10 d12 j13 i14 t15 h17 h18 h19 h20 h21 h22 h23 h26 h29;rotate_left
 revert i0 a1 b2 hh4 hh5 hh6 hh7 h8 h9 h10 d12 j13 i14 t15 h17 h18 h19 h20 h21 h22 h23 h26 h29;rotate_left
 revert i0 a1 b2 hh4 hh5 hh6 hh7 h8 h9 h10 d12 j13 i14 t15 h17 h18 h19 h20 h21 h22 h23 h26 h29 h31;rotate_left
 revert i0 a1 b2 hh4 hh5 hh6 hh7 h8 h9 h10 d12 j13 i14 t15 h17 h18 h19 h20 h21 h22 h23 h26 h29 h31;rotate_left
 revert i0 a1 b2 hh4 hh5 hh6 hh7 h8 h9 h10 d12 j13 i14 t15 h17 h18 h19 h20 h21 h22 h23 h26 h29 h31;rotate_left
 revert i0 a1 b2 hh4 hh5 hh6 hh7 h8 h9 h10 d12 j13 i14 t15 h17 h18 h19 h20 h21 h22 h23 h26 h29 h31;rotate_left
 revert i0 a1 b2 hh4 hh5 hh6 hh7 h8 h9 h10 d12 j13 i14 t15 h17 h18 h19 h20 h21 h22 h23 h26 h29 h31;rotate_left
 revert i0 a1 b2 hh4 hh5 hh6 hh7 h8 h9 h10 d12 j13 i14 t15 h17 h18 h19 h20 h21 h22 h23 h26 h29 h31;rotate_left
 revert i0 a1 b2 hh4 hh5 hh6 hh7 h8 h9 h10 d12 j13 i14 t15 h17 h18 h19 h20 h21 h22 h23 h26 h29 h31;rotate_left
 revert i0 a1 b2 hh4 hh5 hh6 hh7 h8 h9 h10 d12 j13 i14 t15 h17 h18 h19 h20 h21 h22 h23 h26;rotate_left
 case g0=>exact ⟨by omega,by omega,by simp,by simp,by simp [isIns,insR,keepR],by simp [isOuts,outsR,keepR]⟩
 case g1=>intro i a b h0 h1 h2 h3 h4 h5 h6 h7;have:=isIns_in h h0 h6 h7 h4 h5;exact ⟨by omega,by omega,by simp only [List.length_append,List.length_cons,List.length_nil];omega,by simp only [List.length_append,List.length_cons,List.length_nil];omega,this.1,this.2⟩
 case g2=>intro i a b h0 h1 h2 h3 h4 h5 h6 h7;have:=isIns_out h h0 h6 h7 h4 h5;exact ⟨by omega,by omega,by omega,by omega,this.1,this.2⟩
 case g3=>intro i a b h0 h1 h2 h3 h4 h5 h6;obtain ⟨e1,e2⟩:=isIns_end h h6 h4 h5;rw [e1,e2];exact ⟨by omega,by omega,by omega,by omega,by omega,by simp,isSw_start _⟩
 case g4=>intro i a b h0 h1 h2 h3 h4 h5 h6 d j k t k0 k1 k2 k3 k4 k5 k6 k7 k8;have:=isSw_len k0 k1 k2 k3 k6;have:=k6.2.1;exact get_map (by omega)
 case g8 =>
  intro i a b h0 h1 h2 h3 h4 h5 h6 d j k t k0 k1 k2 k3 k4 k5 k6 k7 k8 k9
  have:=isSw_in k0 k8.1 k2 k3 k8.2 k6
  rw [if_pos (by omega)] at this
  exact ⟨by omega,by omega,by omega,by omega,by omega,by simp only [List.length_append,List.length_cons,List.length_nil];omega,this⟩
 case g12 =>
  intro i a b h0 h1 h2 h3 h4 h5 h6 d j k t k0 k1 k2 k3 k4 k5 k6 k7 k8 k9
  have:=isSw_in k0 k8.1 k2 k3 k8.2 k6
  rw [if_neg (by omega)] at this
  exact ⟨by omega,by omega,by omega,by omega,by omega,by omega,this⟩
 case g15=>intro i a b h0 h1 h2 h3 h4 h5 h6 d j k t k0 k1 k2 k3 k4 k5 k6 k7 k8 k9;have:=isSw_out k0 k1 k2 k3 k7 k8 k6;exact get_map (by omega)
 case g19 =>
  intro i a b h0 h1 h2 h3 h4 h5 h6 d j k t k0 k1 k2 k3 k4 k5 k6 k7 k8 k9
  obtain ⟨q1,q2,this⟩:=isSw_out k0 k1 k2 k3 k7 k8 k6
  rw [if_pos (by omega)] at this
  exact ⟨by omega,by omega,by omega,by omega,by omega,by simp only [List.length_append,List.length_cons,List.length_nil];omega,this⟩
 case g21 =>
  intro i a b h0 h1 h2 h3 h4 h5 h6 d j k t k0 k1 k2 k3 k4 k5 k6 k7 k8 k9
  obtain ⟨q1,q2,this⟩:=isSw_out k0 k1 k2 k3 k7 k8 k6
  rw [if_neg (by omega)] at this
  exact ⟨by omega,by omega,by omega,by omega,by omega,by omega,this⟩
 case g22 =>
  intro i a b h0 h1 h2 h3 h4 h5 h6 d j k t k0 k1 k2 k3 k4 k5 k6 k7
  obtain ⟨e1,e2⟩:=isIns_end h h6 h4 h5
  rw [e1,e2] at k6 k7
  rw [isSw_end k7 k6,sweep_nrm]
 all_goals
  intros
  simp only [List.length_mergeSort,List.length_map,List.length_cons,List.length_nil,Go.maxLen] at *
  omega
end Go.Proofs.YtaiepnaokhpmcaaGreat
namespace Go.Proofs.YtaiepnaokhpmcaaGreat
open Go.E
set_option maxRecDepth 100000
set_option maxHeartbeats 4000000
def c122 (s:Nat→List Int):List AV:=tabC c3 16 s
def tnS (U:Nat→List Run) (r:Nat):List Int:=turnsR (U r)
def zT (A B:Nat→List Int) (r:Nat):List Run:=zipR (A r) (B r)
def isLen (A B:Nat→List Int):Prop:=∀ r:Nat,r < 16→(A r).length=(B r).length
def invMa (ps:List Past) (i:Int) (A B:Nat→List Int):Prop:=0≤i∧i≤ps.length∧isLen A B∧isOpen ps i (zT A B)
def decMa (ps:List Past) (i:Int) (A B:Nat→List Int):Nat:=(ps.length-i).toNat
def invMb (ps:List Past) (i j:Int) (A B:Nat→List Int):Prop:=0≤j∧j≤(ps[i.toNat]!).vec.length∧j≤16∧isLen A B∧isOpenV ps i j (zT A B)
def decMb (ps:List Past) (i j:Int) (A B:Nat→List Int):Nat:=((ps[i.toNat]!).vec.length-j).toNat
def invMc (ps:List Past) (i j:Int) (A B:Nat→List Int):Prop:=0≤j∧j≤(ps[i.toNat]!).cloud.length∧isLen A B∧isOpenC ps i j (zT A B)
def decMc (ps:List Past) (i j:Int) (A B:Nat→List Int):Nat:=((ps[i.toNat]!).cloud.length-j).toNat
def isMean (U:Nat→List Run) (r:Int) (S:Nat→List Int):Prop:=∀ k:Nat,(k:Int) < r→S k=tnS (nrmT U) k
def invMd (A2 B2:Nat→List Int) (r:Int) (A B S:Nat→List Int):Prop:=A=A2∧B=B2∧0≤r∧r≤16∧isMean (zT A2 B2) r S
def decMd (r:Int) (A B S:Nat→List Int):Nat:=(16-r).toNat
theorem zT_upd {A B:Nat→List Int} {k:Nat} {x y:Int} (h:(A k).length=(B k).length) (r:Nat):zT (updF A k (A k++[x])) (updF B k (B k++[y])) r=updF (zT A B) k (zT A B k++[⟨x,y⟩]) r:=by
 unfold zT updF
 by_cases e:r=k
 ·rw [if_pos e,if_pos e,if_pos e]
  unfold zipR
  rw [List.zipWith_append h]
  rfl
 ·rw [if_neg e,if_neg e,if_neg e]
theorem isLen_upd {A B:Nat→List Int} {k:Nat} {x y:Int} (h:isLen A B):isLen (updF A k (A k++[x])) (updF B k (B k++[y])):=by
 intro r hr
 have:=h r hr
 unfold updF
 by_cases e:r=k
 ·rw [if_pos e,if_pos e,List.length_append,List.length_append];subst e;simp only [List.length_cons,List.length_nil];omega
 ·rw [if_neg e,if_neg e];exact this
theorem zT_len {A B:Nat→List Int} (h:isLen A B) {r:Nat} (hr:r < 16):(A r).length=(zT A B r).length∧(B r).length=(zT A B r).length:=by
 have:=h r hr
 unfold zT zipR
 rw [List.length_zipWith]
 omega
theorem isMean_next {U:Nat→List Run} {r:Int} {S:Nat→List Int} (h0:0≤r) (h:isMean U r S):isMean U (r+1) (updF S r.toNat (tnS (nrmT U) r.toNat)):=by
 intro k hk
 unfold updF
 by_cases e:k=r.toNat
 ·rw [if_pos e,e]
 ·rw [if_neg e];exact h k (by omega)
theorem con129 (ps : List Past) (hb : totP ps * 16 ≤ 140737488351232) : Con Tryz.prog 129 [.sl (ps.map c26)] (.agg (c122 (tnS (nrmT (openT ps))))) :=
  by
  refine con_lens 0 (c26) (ps) (by kernel_rfl) Go.Proofs.Tryz.func129 (by kernel_rfl) fun hl_0 => st_con tab_ok (by kernel_rfl) [.cell 2 122] 116 Go.Proofs.Tryz.func129 (by kernel_rfl) (by kernel_rfl) ?_
  intro e0 cx
  refine sq<|rG cx [0, 2] [2] z0<|sn<|sq<|rG cx [0, 2, 3, 4] [2, 3, 4] z0<|sn<|sq<|sq<|rG cx [0, 2, 3, 4, 5] [2, 3, 4] z0<|sn<|bL 0<|awp_tabIn 3 3 1 100300 16 (σ' := ⟨[(0, .sl (List.map c26 ps)), (2, .ptr (2) (0) (0) (0)), (3, .ptr (3) (0) (0) (0)), (4, .ptr (4) (0) (0) (0)), (5, .i .i64 ((0:Int)))], [(2, ⟨0, 122, .var [.nl, .nl, .nl, .nl, .nl, .nl, .nl, .nl, .nl, .nl, .nl, .nl, .nl, .nl, .nl, .nl]⟩), (3, ⟨0, 120, .var (ownsC 100300 16)⟩), (4, ⟨0, 120, .arr [.nl, .nl, .nl, .nl, .nl, .nl, .nl, .nl, .nl, .nl, .nl, .nl, .nl, .nl, .nl, .nl]⟩)] ++ tabRows 100300 3 1 16 (c3) (fun x ↦ [])⟩) (by kernel_rfl)<|awp_tabIn 4 3 1 100400 16 (σ' := ⟨[(0, .sl (List.map c26 ps)), (2, .ptr (2) (0) (0) (0)), (3, .ptr (3) (0) (0) (0)), (4, .ptr (4) (0) (0) (0)), (5, .i .i64 ((0:Int)))], [(2, ⟨0, 122, .var [.nl, .nl, .nl, .nl, .nl, .nl, .nl, .nl, .nl, .nl, .nl, .nl, .nl, .nl, .nl, .nl]⟩), (3, ⟨0, 120, .var (ownsC 100300 16)⟩), (4, ⟨0, 120, .var (ownsC 100400 16)⟩)] ++ tabRows 100300 3 1 16 (c3) (fun x ↦ []) ++ tabRows 100400 3 1 16 (c3) (fun x ↦ [])⟩) (by kernel_rfl)<|st_loop (X := Int × (Nat → List Int) × (Nat → List Int)) (fun x => ⟨[(0, .sl (List.map c26 ps)), (2, .ptr (2) (0) (0) (0)), (3, .ptr (3) (0) (0) (0)), (4, .ptr (4) (0) (0) (0)), (5, .i .i64 (x.1))], [(2, ⟨0, 122, .var [.nl, .nl, .nl, .nl, .nl, .nl, .nl, .nl, .nl, .nl, .nl, .nl, .nl, .nl, .nl, .nl]⟩), (3, ⟨0, 120, .var (ownsC 100300 16)⟩), (4, ⟨0, 120, .var (ownsC 100400 16)⟩)] ++ tabRows 100300 3 1 16 (c3) (x.2.1) ++ tabRows 100400 3 1 16 (c3) (x.2.2)⟩) (fun x ↦ decMa ps x.1 x.2.1 x.2.2) (fun x ↦ invMa ps x.1 x.2.1 x.2.2) [0, 2, 3, 4, 5] ([2, 3, 4] ++ List.range' 100300 16 ++ List.range' 100400 16) (((0:Int), fun x ↦ [], fun x ↦ [])) (by kernel_rfl) (by kernel_rfl) (show invMa ps (0:Int) (fun x ↦ []) fun x ↦ [] from ?g0) ?_; rotate_left
  rintro ⟨i0, A1, B2⟩ h_3
  obtain ⟨hh4, hh5, h6, h7⟩ : (0:Int) ≤ i0 ∧ i0 ≤ (↑ps.length:Int) ∧ isLen A1 B2 ∧ isOpen ps i0 (zT A1 B2) := h_3
  refine sq<|sq<|rG cx [0, 2, 3, 4, 5, 14] ([2, 3, 4] ++ List.range' 100300 16 ++ List.range' 100400 16) (tL 2 c26 ps (tB 3 (i0 < (↑ps.length:Int)) z0))<|sn<|dC (i0 < (↑ps.length:Int)) (fun h8 => ?_) fun h8 => ?_
  refine sK<|sn<|sq<|bL 1<|sq<|sq<|rG cx [0, 2, 3, 4, 5, 6] ([2, 3, 4] ++ List.range' 100300 16 ++ List.range' 100400 16) z0<|sn<|bL 2<|st_loop (X := Int × (Nat → List Int) × (Nat → List Int)) (fun x => ⟨[(0, .sl (List.map c26 ps)), (2, .ptr (2) (0) (0) (0)), (3, .ptr (3) (0) (0) (0)), (4, .ptr (4) (0) (0) (0)), (5, .i .i64 (i0)), (6, .i .i64 (x.1))], [(2, ⟨0, 122, .var [.nl, .nl, .nl, .nl, .nl, .nl, .nl, .nl, .nl, .nl, .nl, .nl, .nl, .nl, .nl, .nl]⟩), (3, ⟨0, 120, .var (ownsC 100300 16)⟩), (4, ⟨0, 120, .var (ownsC 100400 16)⟩)] ++ tabRows 100300 3 1 16 (c3) (x.2.1) ++ tabRows 100400 3 1 16 (c3) (x.2.2)⟩) (fun x ↦ decMb ps i0 x.1 x.2.1 x.2.2) (fun x ↦ invMb ps i0 x.1 x.2.1 x.2.2) [0, 2, 3, 4, 5, 6] ([2, 3, 4] ++ List.range' 100300 16 ++ List.range' 100400 16) (((0:Int), A1, B2)) (by kernel_rfl) (by kernel_rfl) (show invMb ps i0 (0:Int) A1 B2 from ?g1) ?_; rotate_left
  rintro ⟨j9, A10, B11⟩ h_12
  obtain ⟨h13, h14, h15, h16, h17⟩ : (0:Int) ≤ j9 ∧ j9 ≤ (↑ps[i0.toNat]!.vec.length:Int) ∧ j9 ≤ (16:Int) ∧ isLen A10 B11 ∧ isOpenV ps i0 j9 (zT A10 B11) := h_12
  refine sq<|sq<|st_join (σ' := ⟨[(0, .sl (List.map c26 ps)), (2, .ptr (2) (0) (0) (0)), (3, .ptr (3) (0) (0) (0)), (4, .ptr (4) (0) (0) (0)), (5, .i .i64 (i0)), (6, .i .i64 (j9)), (28, .b (decide (j9 < (↑ps[i0.toNat]!.vec.length:Int) ∧ j9 < (16:Int))))], [(2, ⟨0, 122, .var [.nl, .nl, .nl, .nl, .nl, .nl, .nl, .nl, .nl, .nl, .nl, .nl, .nl, .nl, .nl, .nl]⟩), (3, ⟨0, 120, .var (ownsC 100300 16)⟩), (4, ⟨0, 120, .var (ownsC 100400 16)⟩)] ++ tabRows 100300 3 1 16 (c3) (A10) ++ tabRows 100400 3 1 16 (c3) (B11)⟩) ?_ ?_
  refine st_split (j9 < (↑ps[i0.toNat]!.vec.length:Int)) (fun h_19 => ?_) (fun h_19 => ?_)
  refine rG cx [0, 2, 3, 4, 5, 6, 28] ([2, 3, 4] ++ List.range' 100300 16 ++ List.range' 100400 16) (fA ((0:Int) ≤ i0) (fG c26 ps i0.toNat (fR (2:Nat) (tL 6 c3 ps[i0.toNat]!.vec (tT 7 (told_true h_19) (tB 10 (j9 < (16:Int)) (tD 11 (decide (j9 < (16:Int))) (j9 < (↑ps[i0.toNat]!.vec.length:Int) ∧ j9 < (16:Int)) (by simp only [eq_true h_19, tsl]) (oR 3 (c26 ps[i0.toNat]!) z0)))))))) ?_
  exact ⟨rfl, by kernel_rfl⟩
  refine rG cx [0, 2, 3, 4, 5, 6, 28] ([2, 3, 4] ++ List.range' 100300 16 ++ List.range' 100400 16) (fA ((0:Int) ≤ i0) (fG c26 ps i0.toNat (fR (2:Nat) (tL 6 c3 ps[i0.toNat]!.vec (tT 7 (told_false h_19) (tD 11 false (j9 < (↑ps[i0.toNat]!.vec.length:Int) ∧ j9 < (16:Int)) (by simp only [eq_false h_19, tsl]) (oR 3 (c26 ps[i0.toNat]!) z0))))))) ?_
  exact ⟨rfl, by kernel_rfl⟩
  refine sn<|dC (j9 < (↑ps[i0.toNat]!.vec.length:Int) ∧ j9 < (16:Int)) (fun h20 => ?_) fun h20 => ?_
  refine sK<|sn<|sq<|bL 3<|sq<|st_reg16 (F := fun kx => ⟨[(0, .sl (List.map c26 ps)), (2, .ptr (2) (0) (0) (0)), (3, .ptr (3) (0) (0) (0)), (4, .ptr (4) (0) (0) (0)), (5, .i .i64 (i0)), (6, .i .i64 (kx)), (28, .b (decide (kx < (↑ps[i0.toNat]!.vec.length:Int) ∧ kx < (16:Int))))], [(2, ⟨0, 122, .var [.nl, .nl, .nl, .nl, .nl, .nl, .nl, .nl, .nl, .nl, .nl, .nl, .nl, .nl, .nl, .nl]⟩), (3, ⟨0, 120, .var (ownsC 100300 16)⟩), (4, ⟨0, 120, .var (ownsC 100400 16)⟩)] ++ tabRows 100300 3 1 16 (c3) (A10) ++ tabRows 100400 3 1 16 (c3) (B11)⟩) (G := fun kx => ⟨[(0, .sl (List.map c26 ps)), (2, .ptr (2) (0) (0) (0)), (3, .ptr (3) (0) (0) (0)), (4, .ptr (4) (0) (0) (0)), (5, .i .i64 (i0)), (6, .i .i64 (kx))], [(2, ⟨0, 122, .var [.nl, .nl, .nl, .nl, .nl, .nl, .nl, .nl, .nl, .nl, .nl, .nl, .nl, .nl, .nl, .nl]⟩), (3, ⟨0, 120, .var (ownsC 100300 16)⟩), (4, ⟨0, 120, .var (ownsC 100400 16)⟩)] ++ tabRows 100300 3 1 16 (c3) (updF A10 kx.toNat (A10 kx.toNat ++ [(1:Int)])) ++ tabRows 100400 3 1 16 (c3) (B11)⟩) (A := fun kx => ((0:Int) ≤ kx) ∧ (kx < (↑(16:Nat):Int)) ∧ (3 = (3:Nat)) ∧ ((1:Nat) = 1) ∧ ([AV.i .i64 (0:Int)].length = (1:Nat)) ∧ (∀ (r : List AV), r ∈ List.map c3 [(1:Int)] → r.length = 1) ∧ ((List.map c3 (A10 kx.toNat)).length + (List.map c3 [(1:Int)]).length ≤ maxLen) ∧ (((List.map c3 (A10 kx.toNat)).length + (List.map c3 [(1:Int)]).length) * (8:Nat) ≤ (140737488355328:Nat)) ∧ (List.map c3 (A10 kx.toNat) ++ List.map c3 [(1:Int)] = List.map c3 (A10 kx.toNat ++ [(1:Int)])) ∧ ((0:Int) ≤ kx) ∧ (kx < (↑(16:Nat):Int))) cx (fun kx => [(5, { rows := some (List.map c3 (A10 kx.toNat ++ [(1:Int)])) })]) [0, 2, 3, 4, 5, 6] ([2, 3, 4] ++ List.range' 100300 16 ++ List.range' 100400 16) (j9) (by (with_reducible assumption)) (by omega) (by kernel_rfl) (by kernel_rfl) ⟨(by show _ = _; kernel_rfl), (by show _ = _; kernel_rfl), (by show _ = _; kernel_rfl), (by show _ = _; kernel_rfl), (by show _ = _; kernel_rfl), (by show _ = _; kernel_rfl), (by show _ = _; kernel_rfl), (by show _ = _; kernel_rfl), (by show _ = _; kernel_rfl), (by show _ = _; kernel_rfl), (by show _ = _; kernel_rfl), (by show _ = _; kernel_rfl), (by show _ = _; kernel_rfl), (by show _ = _; kernel_rfl), (by show _ = _; kernel_rfl), (by show _ = _; kernel_rfl)⟩ ⟨(by (with_reducible assumption)), (by omega), (by kernel_rfl), (by kernel_rfl), (by kernel_rfl), (by (with_reducible refine len_map (fun _ => ?_) _; kernel_rfl)), ?g2, ?g3, (by (with_reducible refine app_map ?_; kernel_rfl)), (by (with_reducible assumption)), (by omega)⟩ ?_; rotate_left 2
  refine sn<|st_any16 (F := fun kx => ⟨[(0, .sl (List.map c26 ps)), (2, .ptr (2) (0) (0) (0)), (3, .ptr (3) (0) (0) (0)), (4, .ptr (4) (0) (0) (0)), (5, .i .i64 (i0)), (6, .i .i64 (kx))], [(2, ⟨0, 122, .var [.nl, .nl, .nl, .nl, .nl, .nl, .nl, .nl, .nl, .nl, .nl, .nl, .nl, .nl, .nl, .nl]⟩), (3, ⟨0, 120, .var (ownsC 100300 16)⟩), (4, ⟨0, 120, .var (ownsC 100400 16)⟩)] ++ tabRows 100300 3 1 16 (c3) (updF A10 kx.toNat (A10 kx.toNat ++ [(1:Int)])) ++ tabRows 100400 3 1 16 (c3) (B11)⟩) (G := fun kx => ⟨[(0, .sl (List.map c26 ps)), (2, .ptr (2) (0) (0) (0)), (3, .ptr (3) (0) (0) (0)), (4, .ptr (4) (0) (0) (0)), (5, .i .i64 (i0)), (6, .i .i64 (kx))], [(2, ⟨0, 122, .var [.nl, .nl, .nl, .nl, .nl, .nl, .nl, .nl, .nl, .nl, .nl, .nl, .nl, .nl, .nl, .nl]⟩), (3, ⟨0, 120, .var (ownsC 100300 16)⟩), (4, ⟨0, 120, .var (ownsC 100400 16)⟩)] ++ tabRows 100300 3 1 16 (c3) (updF A10 kx.toNat (A10 kx.toNat ++ [(1:Int)])) ++ tabRows 100400 3 1 16 (c3) (updF B11 kx.toNat (B11 kx.toNat ++ [ps[i0.toNat]!.vec[kx.toNat]!]))⟩) (A := fun kx => ((0:Int) ≤ kx) ∧ (kx < (↑(16:Nat):Int)) ∧ ((0:Int) ≤ i0) ∧ ((List.map c26 ps)[i0.toNat]? = some (c26 ps[i0.toNat]!)) ∧ ((c26 ps[i0.toNat]!).length = (2:Nat)) ∧ ((0:Int) ≤ kx) ∧ ((List.map c3 ps[i0.toNat]!.vec)[kx.toNat]? = some (c3 ps[i0.toNat]!.vec[kx.toNat]!)) ∧ ((c3 ps[i0.toNat]!.vec[kx.toNat]!).length = (1:Nat)) ∧ (3 = (3:Nat)) ∧ ((1:Nat) = 1) ∧ ([AV.i .i64 (0:Int)].length = (1:Nat)) ∧ (∀ (r : List AV), r ∈ List.map c3 [ps[i0.toNat]!.vec[kx.toNat]!] → r.length = 1) ∧ ((List.map c3 (B11 kx.toNat)).length + (List.map c3 [ps[i0.toNat]!.vec[kx.toNat]!]).length ≤ maxLen) ∧ (((List.map c3 (B11 kx.toNat)).length + (List.map c3 [ps[i0.toNat]!.vec[kx.toNat]!]).length) * (8:Nat) ≤ (140737488355328:Nat)) ∧ (List.map c3 (B11 kx.toNat) ++ List.map c3 [ps[i0.toNat]!.vec[kx.toNat]!] = List.map c3 (B11 kx.toNat ++ [ps[i0.toNat]!.vec[kx.toNat]!])) ∧ ((0:Int) ≤ kx) ∧ (kx < (↑(16:Nat):Int))) cx (fun kx => [(6, { row := (c26 ps[i0.toNat]!) }), (10, { row := (c3 ps[i0.toNat]!.vec[kx.toNat]!) }), (13, { rows := some (List.map c3 (B11 kx.toNat ++ [ps[i0.toNat]!.vec[kx.toNat]!])) })]) [0, 2, 3, 4, 5, 6] ([2, 3, 4] ++ List.range' 100300 16 ++ List.range' 100400 16) (j9) (by (with_reducible assumption)) (by omega) (by kernel_rfl) (by kernel_rfl) ⟨(by show _ = _; kernel_rfl), (by show _ = _; kernel_rfl), (by show _ = _; kernel_rfl), (by show _ = _; kernel_rfl), (by show _ = _; kernel_rfl), (by show _ = _; kernel_rfl), (by show _ = _; kernel_rfl), (by show _ = _; kernel_rfl), (by show _ = _; kernel_rfl), (by show _ = _; kernel_rfl), (by show _ = _; kernel_rfl), (by show _ = _; kernel_rfl), (by show _ = _; kernel_rfl), (by show _ = _; kernel_rfl), (by show _ = _; kernel_rfl), (by show _ = _; kernel_rfl)⟩ ⟨(by (with_reducible assumption)), (by omega), (by (with_reducible assumption)), (by (with_reducible refine get_map ?_; omega)), (by kernel_rfl), (by (with_reducible assumption)), (by (with_reducible refine get_map ?_; omega)), (by kernel_rfl), (by kernel_rfl), (by kernel_rfl), (by kernel_rfl), (by (with_reducible refine len_map (fun _ => ?_) _; kernel_rfl)), ?g4, ?g5, (by (with_reducible refine app_map ?_; kernel_rfl)), (by (with_reducible assumption)), (by omega)⟩ ?_; rotate_left 2
  refine bN<|sn<|rG cx [0, 2, 3, 4, 5, 6] ([2, 3, 4] ++ List.range' 100300 16 ++ List.range' 100400 16) (tW 1 (j9 + (1:Int)) z0)<|sn<|loop_next ((j9 + (1:Int), updF A10 j9.toNat (A10 j9.toNat ++ [(1:Int)]), updF B11 j9.toNat (B11 j9.toNat ++ [ps[i0.toNat]!.vec[j9.toNat]!]))) (by kernel_rfl) (show ((↑ps[i0.toNat]!.vec.length:Int) - (j9 + (1:Int))).toNat < ((↑ps[i0.toNat]!.vec.length:Int) - j9).toNat from (by omega)) (show invMb ps i0 (j9 + (1:Int)) (updF A10 j9.toNat (A10 j9.toNat ++ [(1:Int)])) (updF B11 j9.toNat (B11 j9.toNat ++ [ps[i0.toNat]!.vec[j9.toNat]!])) from ?g6); rotate_left
  refine eX 2<|nE<|nE<|bH<|sn<|sq<|rG cx [0, 2, 3, 4, 5, 7] ([2, 3, 4] ++ List.range' 100300 16 ++ List.range' 100400 16) z0<|sn<|bL 4<|st_loop (X := Int × (Nat → List Int) × (Nat → List Int)) (fun x => ⟨[(0, .sl (List.map c26 ps)), (2, .ptr (2) (0) (0) (0)), (3, .ptr (3) (0) (0) (0)), (4, .ptr (4) (0) (0) (0)), (5, .i .i64 (i0)), (7, .i .i64 (x.1))], [(2, ⟨0, 122, .var [.nl, .nl, .nl, .nl, .nl, .nl, .nl, .nl, .nl, .nl, .nl, .nl, .nl, .nl, .nl, .nl]⟩), (3, ⟨0, 120, .var (ownsC 100300 16)⟩), (4, ⟨0, 120, .var (ownsC 100400 16)⟩)] ++ tabRows 100300 3 1 16 (c3) (x.2.1) ++ tabRows 100400 3 1 16 (c3) (x.2.2)⟩) (fun x ↦ decMc ps i0 x.1 x.2.1 x.2.2) (fun x ↦ invMc ps i0 x.1 x.2.1 x.2.2) [0, 2, 3, 4, 5, 7] ([2, 3, 4] ++ List.range' 100300 16 ++ List.range' 100400 16) (((0:Int), A10, B11)) (by kernel_rfl) (by kernel_rfl) (show invMc ps i0 (0:Int) A10 B11 from ?g7) ?_; rotate_left
  rintro ⟨j21, A22, B23⟩ h_24
  obtain ⟨h25, h26, h27, h28⟩ : (0:Int) ≤ j21 ∧ j21 ≤ (↑ps[i0.toNat]!.cloud.length:Int) ∧ isLen A22 B23 ∧ isOpenC ps i0 j21 (zT A22 B23) := h_24
  refine sq<|sq<|rG cx [0, 2, 3, 4, 5, 7, 60] ([2, 3, 4] ++ List.range' 100300 16 ++ List.range' 100400 16) (fA ((0:Int) ≤ i0) (fG c26 ps i0.toNat (fR (2:Nat) (tL 6 c104 ps[i0.toNat]!.cloud (tB 7 (j21 < (↑ps[i0.toNat]!.cloud.length:Int)) (oR 3 (c26 ps[i0.toNat]!) z0))))))<|sn<|dC (j21 < (↑ps[i0.toNat]!.cloud.length:Int)) (fun h29 => ?_) fun h29 => ?_
  refine sK<|sn<|sq<|bL 5<|sq<|rG cx [0, 2, 3, 4, 5, 7, 8] ([2, 3, 4] ++ List.range' 100300 16 ++ List.range' 100400 16 ++ [8]) (fA ((0:Int) ≤ i0) (fG c26 ps i0.toNat (fR (2:Nat) (fA ((0:Int) ≤ j21) (fG c104 ps[i0.toNat]!.cloud j21.toNat (fR (3:Nat) (fN 3 3 (oR 2 (c26 ps[i0.toNat]!) (oR 6 (c104 ps[i0.toNat]!.cloud[j21.toNat]!) z0)))))))))<|sn<|sq<|st_join (σ' := ⟨[(0, .sl (List.map c26 ps)), (2, .ptr (2) (0) (0) (0)), (3, .ptr (3) (0) (0) (0)), (4, .ptr (4) (0) (0) (0)), (5, .i .i64 (i0)), (7, .i .i64 (j21)), (8, .ptr (8) (0) (0) (0)), (78, .b (decide ((0:Int) ≤ ps[i0.toNat]!.cloud[j21.toNat]!.rep ∧ ps[i0.toNat]!.cloud[j21.toNat]!.rep < (16:Int))))], [(2, ⟨0, 122, .var [.nl, .nl, .nl, .nl, .nl, .nl, .nl, .nl, .nl, .nl, .nl, .nl, .nl, .nl, .nl, .nl]⟩), (3, ⟨0, 120, .var (ownsC 100300 16)⟩), (4, ⟨0, 120, .var (ownsC 100400 16)⟩)] ++ tabRows 100300 3 1 16 (c3) (A22) ++ tabRows 100400 3 1 16 (c3) (B23) ++ [(8, ⟨0, 104, .var [.i .i64 (ps[i0.toNat]!.cloud[j21.toNat]!.rep), .i .i64 (ps[i0.toNat]!.cloud[j21.toNat]!.lo), .i .i64 (ps[i0.toNat]!.cloud[j21.toNat]!.hi)]⟩)]⟩) ?_ ?_
  refine st_split ((0:Int) ≤ ps[i0.toNat]!.cloud[j21.toNat]!.rep) (fun h_31 => ?_) (fun h_31 => ?_)
  refine rG cx [0, 2, 3, 4, 5, 7, 8, 78] ([2, 3, 4] ++ List.range' 100300 16 ++ List.range' 100400 16 ++ [8]) (tT 2 (told_true h_31) (tB 6 (ps[i0.toNat]!.cloud[j21.toNat]!.rep < (16:Int)) (tD 7 (decide (ps[i0.toNat]!.cloud[j21.toNat]!.rep < (16:Int))) ((0:Int) ≤ ps[i0.toNat]!.cloud[j21.toNat]!.rep ∧ ps[i0.toNat]!.cloud[j21.toNat]!.rep < (16:Int)) (by simp only [eq_true h_31, tsl]) z0))) ?_
  exact ⟨rfl, by kernel_rfl⟩
  refine rG cx [0, 2, 3, 4, 5, 7, 8, 78] ([2, 3, 4] ++ List.range' 100300 16 ++ List.range' 100400 16 ++ [8]) (tT 2 (told_false h_31) (tD 7 false ((0:Int) ≤ ps[i0.toNat]!.cloud[j21.toNat]!.rep ∧ ps[i0.toNat]!.cloud[j21.toNat]!.rep < (16:Int)) (by simp only [eq_false h_31, tsl]) z0)) ?_
  exact ⟨rfl, by kernel_rfl⟩
  refine sn<|dC ((0:Int) ≤ ps[i0.toNat]!.cloud[j21.toNat]!.rep ∧ ps[i0.toNat]!.cloud[j21.toNat]!.rep < (16:Int)) (fun h32 => ?_) fun h32 => ?_
  refine sq<|st_any16 (F := fun kx => ⟨[(0, .sl (List.map c26 ps)), (2, .ptr (2) (0) (0) (0)), (3, .ptr (3) (0) (0) (0)), (4, .ptr (4) (0) (0) (0)), (5, .i .i64 (i0)), (7, .i .i64 (j21)), (8, .ptr (8) (0) (0) (0)), (78, .b (decide ((0:Int) ≤ kx ∧ kx < (16:Int))))], [(2, ⟨0, 122, .var [.nl, .nl, .nl, .nl, .nl, .nl, .nl, .nl, .nl, .nl, .nl, .nl, .nl, .nl, .nl, .nl]⟩), (3, ⟨0, 120, .var (ownsC 100300 16)⟩), (4, ⟨0, 120, .var (ownsC 100400 16)⟩)] ++ tabRows 100300 3 1 16 (c3) (A22) ++ tabRows 100400 3 1 16 (c3) (B23) ++ [(8, ⟨0, 104, .var [.i .i64 (kx), .i .i64 (ps[i0.toNat]!.cloud[j21.toNat]!.lo), .i .i64 (ps[i0.toNat]!.cloud[j21.toNat]!.hi)]⟩)]⟩) (G := fun kx => ⟨[(0, .sl (List.map c26 ps)), (2, .ptr (2) (0) (0) (0)), (3, .ptr (3) (0) (0) (0)), (4, .ptr (4) (0) (0) (0)), (5, .i .i64 (i0)), (7, .i .i64 (j21)), (8, .ptr (8) (0) (0) (0))], [(2, ⟨0, 122, .var [.nl, .nl, .nl, .nl, .nl, .nl, .nl, .nl, .nl, .nl, .nl, .nl, .nl, .nl, .nl, .nl]⟩), (3, ⟨0, 120, .var (ownsC 100300 16)⟩), (4, ⟨0, 120, .var (ownsC 100400 16)⟩)] ++ tabRows 100300 3 1 16 (c3) (updF A22 kx.toNat (A22 kx.toNat ++ [ps[i0.toNat]!.cloud[j21.toNat]!.lo])) ++ tabRows 100400 3 1 16 (c3) (B23) ++ [(8, ⟨0, 104, .var [.i .i64 (kx), .i .i64 (ps[i0.toNat]!.cloud[j21.toNat]!.lo), .i .i64 (ps[i0.toNat]!.cloud[j21.toNat]!.hi)]⟩)]⟩) (A := fun kx => ((0:Int) ≤ kx) ∧ (kx < (↑(16:Nat):Int)) ∧ (3 = (3:Nat)) ∧ ((1:Nat) = 1) ∧ ([AV.i .i64 (0:Int)].length = (1:Nat)) ∧ (∀ (r : List AV), r ∈ List.map c3 [ps[i0.toNat]!.cloud[j21.toNat]!.lo] → r.length = 1) ∧ ((List.map c3 (A22 kx.toNat)).length + (List.map c3 [ps[i0.toNat]!.cloud[j21.toNat]!.lo]).length ≤ maxLen) ∧ (((List.map c3 (A22 kx.toNat)).length + (List.map c3 [ps[i0.toNat]!.cloud[j21.toNat]!.lo]).length) * (8:Nat) ≤ (140737488355328:Nat)) ∧ (List.map c3 (A22 kx.toNat) ++ List.map c3 [ps[i0.toNat]!.cloud[j21.toNat]!.lo] = List.map c3 (A22 kx.toNat ++ [ps[i0.toNat]!.cloud[j21.toNat]!.lo])) ∧ ((0:Int) ≤ kx) ∧ (kx < (↑(16:Nat):Int))) cx (fun kx => [(9, { rows := some (List.map c3 (A22 kx.toNat ++ [ps[i0.toNat]!.cloud[j21.toNat]!.lo])) })]) [0, 2, 3, 4, 5, 7, 8] ([2, 3, 4] ++ List.range' 100300 16 ++ List.range' 100400 16 ++ [8]) (ps[i0.toNat]!.cloud[j21.toNat]!.rep) (by omega) (by omega) (by kernel_rfl) (by kernel_rfl) ⟨(by show _ = _; kernel_rfl), (by show _ = _; kernel_rfl), (by show _ = _; kernel_rfl), (by show _ = _; kernel_rfl), (by show _ = _; kernel_rfl), (by show _ = _; kernel_rfl), (by show _ = _; kernel_rfl), (by show _ = _; kernel_rfl), (by show _ = _; kernel_rfl), (by show _ = _; kernel_rfl), (by show _ = _; kernel_rfl), (by show _ = _; kernel_rfl), (by show _ = _; kernel_rfl), (by show _ = _; kernel_rfl), (by show _ = _; kernel_rfl), (by show _ = _; kernel_rfl)⟩ ⟨(by omega), (by omega), (by kernel_rfl), (by kernel_rfl), (by kernel_rfl), (by (with_reducible refine len_map (fun _ => ?_) _; kernel_rfl)), ?g8, ?g9, (by (with_reducible refine app_map ?_; kernel_rfl)), (by omega), (by omega)⟩ ?_; rotate_left 2
  refine sn<|st_any16 (F := fun kx => ⟨[(0, .sl (List.map c26 ps)), (2, .ptr (2) (0) (0) (0)), (3, .ptr (3) (0) (0) (0)), (4, .ptr (4) (0) (0) (0)), (5, .i .i64 (i0)), (7, .i .i64 (j21)), (8, .ptr (8) (0) (0) (0))], [(2, ⟨0, 122, .var [.nl, .nl, .nl, .nl, .nl, .nl, .nl, .nl, .nl, .nl, .nl, .nl, .nl, .nl, .nl, .nl]⟩), (3, ⟨0, 120, .var (ownsC 100300 16)⟩), (4, ⟨0, 120, .var (ownsC 100400 16)⟩)] ++ tabRows 100300 3 1 16 (c3) (updF A22 kx.toNat (A22 kx.toNat ++ [ps[i0.toNat]!.cloud[j21.toNat]!.lo])) ++ tabRows 100400 3 1 16 (c3) (B23) ++ [(8, ⟨0, 104, .var [.i .i64 (kx), .i .i64 (ps[i0.toNat]!.cloud[j21.toNat]!.lo), .i .i64 (ps[i0.toNat]!.cloud[j21.toNat]!.hi)]⟩)]⟩) (G := fun kx => ⟨[(0, .sl (List.map c26 ps)), (2, .ptr (2) (0) (0) (0)), (3, .ptr (3) (0) (0) (0)), (4, .ptr (4) (0) (0) (0)), (5, .i .i64 (i0)), (7, .i .i64 (j21))], [(2, ⟨0, 122, .var [.nl, .nl, .nl, .nl, .nl, .nl, .nl, .nl, .nl, .nl, .nl, .nl, .nl, .nl, .nl, .nl]⟩), (3, ⟨0, 120, .var (ownsC 100300 16)⟩), (4, ⟨0, 120, .var (ownsC 100400 16)⟩)] ++ tabRows 100300 3 1 16 (c3) (updF A22 kx.toNat (A22 kx.toNat ++ [ps[i0.toNat]!.cloud[j21.toNat]!.lo])) ++ tabRows 100400 3 1 16 (c3) (updF B23 kx.toNat (B23 kx.toNat ++ [ps[i0.toNat]!.cloud[j21.toNat]!.hi]))⟩) (A := fun kx => ((0:Int) ≤ kx) ∧ (kx < (↑(16:Nat):Int)) ∧ (3 = (3:Nat)) ∧ ((1:Nat) = 1) ∧ ([AV.i .i64 (0:Int)].length = (1:Nat)) ∧ (∀ (r : List AV), r ∈ List.map c3 [ps[i0.toNat]!.cloud[j21.toNat]!.hi] → r.length = 1) ∧ ((List.map c3 (B23 kx.toNat)).length + (List.map c3 [ps[i0.toNat]!.cloud[j21.toNat]!.hi]).length ≤ maxLen) ∧ (((List.map c3 (B23 kx.toNat)).length + (List.map c3 [ps[i0.toNat]!.cloud[j21.toNat]!.hi]).length) * (8:Nat) ≤ (140737488355328:Nat)) ∧ (List.map c3 (B23 kx.toNat) ++ List.map c3 [ps[i0.toNat]!.cloud[j21.toNat]!.hi] = List.map c3 (B23 kx.toNat ++ [ps[i0.toNat]!.cloud[j21.toNat]!.hi])) ∧ ((0:Int) ≤ kx) ∧ (kx < (↑(16:Nat):Int))) cx (fun kx => [(9, { rows := some (List.map c3 (B23 kx.toNat ++ [ps[i0.toNat]!.cloud[j21.toNat]!.hi])) })]) [0, 2, 3, 4, 5, 7] ([2, 3, 4] ++ List.range' 100300 16 ++ List.range' 100400 16) (ps[i0.toNat]!.cloud[j21.toNat]!.rep) (by omega) (by omega) (by kernel_rfl) (by kernel_rfl) ⟨(by show _ = _; kernel_rfl), (by show _ = _; kernel_rfl), (by show _ = _; kernel_rfl), (by show _ = _; kernel_rfl), (by show _ = _; kernel_rfl), (by show _ = _; kernel_rfl), (by show _ = _; kernel_rfl), (by show _ = _; kernel_rfl), (by show _ = _; kernel_rfl), (by show _ = _; kernel_rfl), (by show _ = _; kernel_rfl), (by show _ = _; kernel_rfl), (by show _ = _; kernel_rfl), (by show _ = _; kernel_rfl), (by show _ = _; kernel_rfl), (by show _ = _; kernel_rfl)⟩ ⟨(by omega), (by omega), (by kernel_rfl), (by kernel_rfl), (by kernel_rfl), (by (with_reducible refine len_map (fun _ => ?_) _; kernel_rfl)), ?g10, ?g11, (by (with_reducible refine app_map ?_; kernel_rfl)), (by omega), (by omega)⟩ ?_; rotate_left 2
  refine bN<|sn<|rG cx [0, 2, 3, 4, 5, 7] ([2, 3, 4] ++ List.range' 100300 16 ++ List.range' 100400 16) (tT 1 (told_i64 (by omega) ?g12 : AV.i .i64 (IntKind.i64.wrap (j21 + (1:Int))) = AV.i .i64 (j21 + (1:Int))) z0) ?_; rotate_left
  refine sn<|loop_next ((j21 + (1:Int), updF A22 ps[i0.toNat]!.cloud[j21.toNat]!.rep.toNat (A22 ps[i0.toNat]!.cloud[j21.toNat]!.rep.toNat ++ [ps[i0.toNat]!.cloud[j21.toNat]!.lo]), updF B23 ps[i0.toNat]!.cloud[j21.toNat]!.rep.toNat (B23 ps[i0.toNat]!.cloud[j21.toNat]!.rep.toNat ++ [ps[i0.toNat]!.cloud[j21.toNat]!.hi]))) (by kernel_rfl) (show ((↑ps[i0.toNat]!.cloud.length:Int) - (j21 + (1:Int))).toNat < ((↑ps[i0.toNat]!.cloud.length:Int) - j21).toNat from (by omega)) (show invMc ps i0 (j21 + (1:Int)) (updF A22 ps[i0.toNat]!.cloud[j21.toNat]!.rep.toNat (A22 ps[i0.toNat]!.cloud[j21.toNat]!.rep.toNat ++ [ps[i0.toNat]!.cloud[j21.toNat]!.lo])) (updF B23 ps[i0.toNat]!.cloud[j21.toNat]!.rep.toNat (B23 ps[i0.toNat]!.cloud[j21.toNat]!.rep.toNat ++ [ps[i0.toNat]!.cloud[j21.toNat]!.hi])) from ?g13); rotate_left
  refine sK<|bN<|sn<|rG cx [0, 2, 3, 4, 5, 7] ([2, 3, 4] ++ List.range' 100300 16 ++ List.range' 100400 16) (tT 1 (told_i64 (by omega) ?g14 : AV.i .i64 (IntKind.i64.wrap (j21 + (1:Int))) = AV.i .i64 (j21 + (1:Int))) z0) ?_; rotate_left
  refine sn<|loop_next ((j21 + (1:Int), A22, B23)) (by kernel_rfl) (show ((↑ps[i0.toNat]!.cloud.length:Int) - (j21 + (1:Int))).toNat < ((↑ps[i0.toNat]!.cloud.length:Int) - j21).toNat from (by omega)) (show invMc ps i0 (j21 + (1:Int)) A22 B23 from ?g15); rotate_left
  refine eX 4<|nE<|nE<|bH<|bN<|sn<|rG cx [0, 2, 3, 4, 5] ([2, 3, 4] ++ List.range' 100300 16 ++ List.range' 100400 16) (tW 1 (i0 + (1:Int)) z0)<|sn<|loop_next ((i0 + (1:Int), A22, B23)) (by kernel_rfl) (show ((↑ps.length:Int) - (i0 + (1:Int))).toNat < ((↑ps.length:Int) - i0).toNat from (by omega)) (show invMa ps (i0 + (1:Int)) A22 B23 from ?g16); rotate_left
  refine eX 0<|nE<|nE<|bH<|sn<|sq<|awp_norm (List.range' 100300 16) [0, 2, 3, 4, 5, 14] ([2, 3, 4] ++ List.range' 100400 16) (σ' := ⟨[(0, .sl (List.map c26 ps)), (2, .ptr (2) (0) (0) (0)), (3, .ptr (3) (0) (0) (0)), (4, .ptr (4) (0) (0) (0)), (5, .i .i64 (i0)), (14, .b (decide (i0 < (↑ps.length:Int))))], [(2, ⟨0, 122, .var [.nl, .nl, .nl, .nl, .nl, .nl, .nl, .nl, .nl, .nl, .nl, .nl, .nl, .nl, .nl, .nl]⟩), (3, ⟨0, 120, .var [.sl (List.map c3 (A1 (0))), .sl (List.map c3 (A1 (1))), .sl (List.map c3 (A1 (2))), .sl (List.map c3 (A1 (3))), .sl (List.map c3 (A1 (4))), .sl (List.map c3 (A1 (5))), .sl (List.map c3 (A1 (6))), .sl (List.map c3 (A1 (7))), .sl (List.map c3 (A1 (8))), .sl (List.map c3 (A1 (9))), .sl (List.map c3 (A1 (10))), .sl (List.map c3 (A1 (11))), .sl (List.map c3 (A1 (12))), .sl (List.map c3 (A1 (13))), .sl (List.map c3 (A1 (14))), .sl (List.map c3 (A1 (15)))]⟩), (4, ⟨0, 120, .var (ownsC 100400 16)⟩)] ++ tabRows 100400 3 1 16 (c3) (B2)⟩) (by kernel_rfl)<|awp_varArr 3 ⟨0, 120, .var [.sl (List.map c3 (A1 (0))), .sl (List.map c3 (A1 (1))), .sl (List.map c3 (A1 (2))), .sl (List.map c3 (A1 (3))), .sl (List.map c3 (A1 (4))), .sl (List.map c3 (A1 (5))), .sl (List.map c3 (A1 (6))), .sl (List.map c3 (A1 (7))), .sl (List.map c3 (A1 (8))), .sl (List.map c3 (A1 (9))), .sl (List.map c3 (A1 (10))), .sl (List.map c3 (A1 (11))), .sl (List.map c3 (A1 (12))), .sl (List.map c3 (A1 (13))), .sl (List.map c3 (A1 (14))), .sl (List.map c3 (A1 (15)))]⟩ [.sl (List.map c3 (A1 (0))), .sl (List.map c3 (A1 (1))), .sl (List.map c3 (A1 (2))), .sl (List.map c3 (A1 (3))), .sl (List.map c3 (A1 (4))), .sl (List.map c3 (A1 (5))), .sl (List.map c3 (A1 (6))), .sl (List.map c3 (A1 (7))), .sl (List.map c3 (A1 (8))), .sl (List.map c3 (A1 (9))), .sl (List.map c3 (A1 (10))), .sl (List.map c3 (A1 (11))), .sl (List.map c3 (A1 (12))), .sl (List.map c3 (A1 (13))), .sl (List.map c3 (A1 (14))), .sl (List.map c3 (A1 (15)))] (tabC c3 (16:Nat) A1) (σ' := ⟨[(0, .sl (List.map c26 ps)), (2, .ptr (2) (0) (0) (0)), (3, .ptr (3) (0) (0) (0)), (4, .ptr (4) (0) (0) (0)), (5, .i .i64 (i0)), (14, .b (decide (i0 < (↑ps.length:Int))))], [(2, ⟨0, 122, .var [.nl, .nl, .nl, .nl, .nl, .nl, .nl, .nl, .nl, .nl, .nl, .nl, .nl, .nl, .nl, .nl]⟩), (3, ⟨0, 120, .arr (tabC c3 (16:Nat) A1)⟩), (4, ⟨0, 120, .var (ownsC 100400 16)⟩)] ++ tabRows 100400 3 1 16 (c3) (B2)⟩) (by kernel_rfl) (by kernel_rfl) (by kernel_rfl) (by kernel_rfl) (ZLe.of_eq (by kernel_rfl)) (by kernel_rfl)<|awp_norm (List.range' 100400 16) [0, 2, 3, 4, 5, 14] [2, 3, 4] (σ' := ⟨[(0, .sl (List.map c26 ps)), (2, .ptr (2) (0) (0) (0)), (3, .ptr (3) (0) (0) (0)), (4, .ptr (4) (0) (0) (0)), (5, .i .i64 (i0)), (14, .b (decide (i0 < (↑ps.length:Int))))], [(2, ⟨0, 122, .var [.nl, .nl, .nl, .nl, .nl, .nl, .nl, .nl, .nl, .nl, .nl, .nl, .nl, .nl, .nl, .nl]⟩), (3, ⟨0, 120, .arr (tabC c3 (16:Nat) A1)⟩), (4, ⟨0, 120, .var [.sl (List.map c3 (B2 (0))), .sl (List.map c3 (B2 (1))), .sl (List.map c3 (B2 (2))), .sl (List.map c3 (B2 (3))), .sl (List.map c3 (B2 (4))), .sl (List.map c3 (B2 (5))), .sl (List.map c3 (B2 (6))), .sl (List.map c3 (B2 (7))), .sl (List.map c3 (B2 (8))), .sl (List.map c3 (B2 (9))), .sl (List.map c3 (B2 (10))), .sl (List.map c3 (B2 (11))), .sl (List.map c3 (B2 (12))), .sl (List.map c3 (B2 (13))), .sl (List.map c3 (B2 (14))), .sl (List.map c3 (B2 (15)))]⟩)]⟩) (by kernel_rfl) ?_
  refine awp_varArr 4 ⟨0, 120, .var [.sl (List.map c3 (B2 (0))), .sl (List.map c3 (B2 (1))), .sl (List.map c3 (B2 (2))), .sl (List.map c3 (B2 (3))), .sl (List.map c3 (B2 (4))), .sl (List.map c3 (B2 (5))), .sl (List.map c3 (B2 (6))), .sl (List.map c3 (B2 (7))), .sl (List.map c3 (B2 (8))), .sl (List.map c3 (B2 (9))), .sl (List.map c3 (B2 (10))), .sl (List.map c3 (B2 (11))), .sl (List.map c3 (B2 (12))), .sl (List.map c3 (B2 (13))), .sl (List.map c3 (B2 (14))), .sl (List.map c3 (B2 (15)))]⟩ [.sl (List.map c3 (B2 (0))), .sl (List.map c3 (B2 (1))), .sl (List.map c3 (B2 (2))), .sl (List.map c3 (B2 (3))), .sl (List.map c3 (B2 (4))), .sl (List.map c3 (B2 (5))), .sl (List.map c3 (B2 (6))), .sl (List.map c3 (B2 (7))), .sl (List.map c3 (B2 (8))), .sl (List.map c3 (B2 (9))), .sl (List.map c3 (B2 (10))), .sl (List.map c3 (B2 (11))), .sl (List.map c3 (B2 (12))), .sl (List.map c3 (B2 (13))), .sl (List.map c3 (B2 (14))), .sl (List.map c3 (B2 (15)))] (tabC c3 (16:Nat) B2) (σ' := ⟨[(0, .sl (List.map c26 ps)), (2, .ptr (2) (0) (0) (0)), (3, .ptr (3) (0) (0) (0)), (4, .ptr (4) (0) (0) (0)), (5, .i .i64 (i0)), (14, .b (decide (i0 < (↑ps.length:Int))))], [(2, ⟨0, 122, .var [.nl, .nl, .nl, .nl, .nl, .nl, .nl, .nl, .nl, .nl, .nl, .nl, .nl, .nl, .nl, .nl]⟩), (3, ⟨0, 120, .arr (tabC c3 (16:Nat) A1)⟩), (4, ⟨0, 120, .arr (tabC c3 (16:Nat) B2)⟩)]⟩) (by kernel_rfl) (by kernel_rfl) (by kernel_rfl) (by kernel_rfl) (ZLe.of_eq (by kernel_rfl)) (by kernel_rfl)<|rG cx [2, 3, 4, 9] [2, 3, 4, 9] z0<|sn<|sq<|sq<|rG cx [2, 3, 4, 9, 10] [2, 3, 4, 9] z0<|sn<|bL 6<|awp_varArr 9 ⟨0, 122, .var [.nl, .nl, .nl, .nl, .nl, .nl, .nl, .nl, .nl, .nl, .nl, .nl, .nl, .nl, .nl, .nl]⟩ [.nl, .nl, .nl, .nl, .nl, .nl, .nl, .nl, .nl, .nl, .nl, .nl, .nl, .nl, .nl, .nl] (tabC c3 (16:Nat) fun x ↦ []) (σ' := ⟨[(2, .ptr (2) (0) (0) (0)), (3, .ptr (3) (0) (0) (0)), (4, .ptr (4) (0) (0) (0)), (9, .ptr (9) (0) (0) (0)), (10, .i .i64 ((0:Int)))], [(2, ⟨0, 122, .var [.nl, .nl, .nl, .nl, .nl, .nl, .nl, .nl, .nl, .nl, .nl, .nl, .nl, .nl, .nl, .nl]⟩), (3, ⟨0, 120, .arr (tabC c3 (16:Nat) A1)⟩), (4, ⟨0, 120, .arr (tabC c3 (16:Nat) B2)⟩), (9, ⟨0, 122, .arr (tabC c3 (16:Nat) fun x ↦ [])⟩)]⟩) (by kernel_rfl) (by kernel_rfl) (by kernel_rfl) (by kernel_rfl) (zle_nls c3 16) (by kernel_rfl)<|st_loop (X := Int × (Nat → List Int) × (Nat → List Int) × (Nat → List Int)) (fun x => ⟨[(2, .ptr (2) (0) (0) (0)), (3, .ptr (3) (0) (0) (0)), (4, .ptr (4) (0) (0) (0)), (9, .ptr (9) (0) (0) (0)), (10, .i .i64 (x.1))], [(2, ⟨0, 122, .var [.nl, .nl, .nl, .nl, .nl, .nl, .nl, .nl, .nl, .nl, .nl, .nl, .nl, .nl, .nl, .nl]⟩), (3, ⟨0, 120, .arr (tabC c3 (16:Nat) x.2.1)⟩), (4, ⟨0, 120, .arr (tabC c3 (16:Nat) x.2.2.1)⟩), (9, ⟨0, 122, .arr (tabC c3 (16:Nat) x.2.2.2)⟩)]⟩) (fun x ↦ decMd x.1 x.2.1 x.2.2.1 x.2.2.2) (fun x ↦ invMd A1 B2 x.1 x.2.1 x.2.2.1 x.2.2.2) [2, 3, 4, 9, 10] [2, 3, 4, 9] (((0:Int), A1, B2, fun x ↦ [])) (by kernel_rfl) (by kernel_rfl) (show invMd A1 B2 (0:Int) A1 B2 fun x ↦ [] from ?g17) ?_; rotate_left
  rintro ⟨r33, A34, B35, S36⟩ h_37
  obtain ⟨h38, h39, h40, h41, h42⟩ : A34 = A1 ∧ B35 = B2 ∧ (0:Int) ≤ r33 ∧ r33 ≤ (16:Int) ∧ isMean (zT A1 B2) r33 S36 := h_37
  refine sq<|sq<|rG cx [2, 3, 4, 9, 10, 102] [2, 3, 4, 9] (tB 1 (r33 < (16:Int)) z0)<|sn<|dC (r33 < (16:Int)) (fun h43 => ?_) fun h43 => ?_
  refine sK<|sn<|sq<|bL 7 ?_
  have hl_44 := (rng_nrm (zipR (A34 r33.toNat) (B35 r33.toNat)))
  refine rA cx [2, 3, 4, 9, 10] [2, 3, 4, 9] (fA ((0:Int) ≤ r33) (fO (r33 < (↑(16:Nat):Int)) (fP ((tabC c3 (16:Nat) A34)[r33.toNat * (1:Nat) + 0]? = some (AV.sl (List.map c3 (A34 r33.toNat)))) (by ((try simp only [Nat.mul_one, Nat.add_zero, Nat.zero_add]); with_reducible refine get_tabC ?_; omega)) (fA ((0:Int) ≤ r33) (fO (r33 < (↑(16:Nat):Int)) (fP ((tabC c3 (16:Nat) B35)[r33.toNat * (1:Nat) + 0]? = some (AV.sl (List.map c3 (B35 r33.toNat)))) (by ((try simp only [Nat.mul_one, Nat.add_zero, Nat.zero_add]); with_reducible refine get_tabC ?_; omega)) (fT (con171 (A34 r33.toNat) (B35 r33.toNat) ?g18 ?g19) (fA ((0:Int) ≤ r33) (fO (r33 < (↑(16:Nat):Int)) (fP (r33.toNat * (1:Nat) + 0 < (tabC c3 (16:Nat) S36).length) ?g20 (fR [(cellsA (AV.sl (List.map c3 (turnsR (nrm (zipR (A34 r33.toNat) (B35 r33.toNat))))))).headD AV.dead] (fP ((tabC c3 (16:Nat) S36).set (r33.toNat * (1:Nat) + 0) ((cellsA (AV.sl (List.map c3 (turnsR (nrm (zipR (A34 r33.toNat) (B35 r33.toNat))))))).headD AV.dead) = tabC c3 (16:Nat) (updF S36 r33.toNat (turnsR (nrm (zipR (A34 r33.toNat) (B35 r33.toNat)))))) (by ((try simp only [Nat.mul_one, Nat.add_zero, Nat.zero_add]); (with_reducible refine set_tabC' ?_); exact Eq.refl _)) (oR 3 [.sl (List.map c3 (A34 r33.toNat))] (oR 6 [.sl (List.map c3 (B35 r33.toNat))] (oA 7 (.sl (List.map c3 (turnsR (nrm (zipR (A34 r33.toNat) (B35 r33.toNat)))))) (oV 10 { rows := some [(tabC c3 (16:Nat) (updF S36 r33.toNat (turnsR (nrm (zipR (A34 r33.toNat) (B35 r33.toNat))))))] } z0)))))))))))))))) ?_; rotate_left 3
  refine bN<|sn<|rG cx [2, 3, 4, 9, 10] [2, 3, 4, 9] (tW 1 (r33 + (1:Int)) z0)<|sn<|loop_next ((r33 + (1:Int), A34, B35, updF S36 r33.toNat (turnsR (nrm (zipR (A34 r33.toNat) (B35 r33.toNat)))))) (by kernel_rfl) (show ((16:Int) - (r33 + (1:Int))).toNat < ((16:Int) - r33).toNat from (by omega)) (show invMd A1 B2 (r33 + (1:Int)) A34 B35 (updF S36 r33.toNat (turnsR (nrm (zipR (A34 r33.toNat) (B35 r33.toNat))))) from ?g21); rotate_left
  refine eX 6<|nE<|nE<|bH<|sn<|sq<|rG cx [2] [2] (fR (16:Nat) z0)<|sn<|rT<|qR (.agg [.sl (List.map c3 (S36 (0))), .sl (List.map c3 (S36 (1))), .sl (List.map c3 (S36 (2))), .sl (List.map c3 (S36 (3))), .sl (List.map c3 (S36 (4))), .sl (List.map c3 (S36 (5))), .sl (List.map c3 (S36 (6))), .sl (List.map c3 (S36 (7))), .sl (List.map c3 (S36 (8))), .sl (List.map c3 (S36 (9))), .sl (List.map c3 (S36 (10))), .sl (List.map c3 (S36 (11))), .sl (List.map c3 (S36 (12))), .sl (List.map c3 (S36 (13))), .sl (List.map c3 (S36 (14))), .sl (List.map c3 (S36 (15)))]) (.eq ?g22); rotate_left
  rotate_left
  revert i0 A1 B2 hh4 hh5 h6 h7 h8; rotate_left
  revert i0 A1 B2 hh4 hh5 h6 h7 h8 j9 A10 B11 h13 h14 h15 h16 h17 h20; rotate_left
  revert i0 A1 B2 hh4 hh5 h6 h7 h8 j9 A10 B11 h13 h14 h15 h16 h17 h20; rotate_left
  revert i0 A1 B2 hh4 hh5 h6 h7 h8 j9 A10 B11 h13 h14 h15 h16 h17 h20; rotate_left
  revert i0 A1 B2 hh4 hh5 h6 h7 h8 j9 A10 B11 h13 h14 h15 h16 h17 h20; rotate_left
  revert i0 A1 B2 hh4 hh5 h6 h7 h8 j9 A10 B11 h13 h14 h15 h16 h17 h20; rotate_left
  revert i0 A1 B2 hh4 hh5 h6 h7 h8 j9 A10 B11 h13 h14 h15 h16 h17 h20; rotate_left
  revert i0 A1 B2 hh4 hh5 h6 h7 h8 j9 A10 B11 h13 h14 h15 h16 h17 h20 j21 A22 B23 h25 h26 h27 h28 h29 h32; rotate_left
  revert i0 A1 B2 hh4 hh5 h6 h7 h8 j9 A10 B11 h13 h14 h15 h16 h17 h20 j21 A22 B23 h25 h26 h27 h28 h29 h32; rotate_left
  revert i0 A1 B2 hh4 hh5 h6 h7 h8 j9 A10 B11 h13 h14 h15 h16 h17 h20 j21 A22 B23 h25 h26 h27 h28 h29 h32; rotate_left
  revert i0 A1 B2 hh4 hh5 h6 h7 h8 j9 A10 B11 h13 h14 h15 h16 h17 h20 j21 A22 B23 h25 h26 h27 h28 h29 h32; rotate_left
  revert i0 A1 B2 hh4 hh5 h6 h7 h8 j9 A10 B11 h13 h14 h15 h16 h17 h20 j21 A22 B23 h25 h26 h27 h28 h29 h32; rotate_left
  revert i0 A1 B2 hh4 hh5 h6 h7 h8 j9 A10 B11 h13 h14 h15 h16 h17 h20 j21 A22 B23 h25 h26 h27 h28 h29 h32; rotate_left
  revert i0 A1 B2 hh4 hh5 h6 h7 h8 j9 A10 B11 h13 h14 h15 h16 h17 h20 j21 A22 B23 h25 h26 h27 h28 h29 h32; rotate_left
  revert i0 A1 B2 hh4 hh5 h6 h7 h8 j9 A10 B11 h13 h14 h15 h16 h17 h20 j21 A22 B23 h25 h26 h27 h28 h29 h32; rotate_left
  revert i0 A1 B2 hh4 hh5 h6 h7 h8 j9 A10 B11 h13 h14 h15 h16 h17 h20 j21 A22 B23 h25 h26 h27 h28 h29; rotate_left
  revert i0 A1 B2 hh4 hh5 h6 h7 h8; rotate_left
  clear hl_44; revert i0 A1 B2 hh4 hh5 h6 h7 h8 r33 A34 B35 S36 h38 h39 h40 h41 h42 h43; rotate_left
  clear hl_44; revert i0 A1 B2 hh4 hh5 h6 h7 h8 r33 A34 B35 S36 h38 h39 h40 h41 h42 h43; rotate_left
  clear hl_44; revert i0 A1 B2 hh4 hh5 h6 h7 h8 r33 A34 B35 S36 h38 h39 h40 h41 h42 h43; rotate_left
  clear hl_44; revert i0 A1 B2 hh4 hh5 h6 h7 h8 r33 A34 B35 S36 h38 h39 h40 h41 h42 h43; rotate_left
  revert i0 A1 B2 hh4 hh5 h6 h7 h8 r33 A34 B35 S36 h38 h39 h40 h41 h42 h43; rotate_left
  case g0 => exact ⟨by omega, by omega, fun r _ => rfl, fun r _ => rfl⟩
  case g1 => intro i A B h0 h1 h3 h4 h5; exact ⟨by omega, by omega, by omega, h3, openV_start h4⟩
  case g6 =>
    intro i A B h0 h1 h3 h4 h5 j X Y k0 k1 k2 k4 k5 k6
    exact ⟨by omega, by omega, by omega, isLen_upd k4, fun r hr => by rw [zT_upd (k4 _ (by omega))]; exact openV_next k0 k6.1 k5 r hr⟩
  case g7 => intro i A B h0 h1 h3 h4 h5 j X Y k0 k1 k2 k4 k5 k6; exact ⟨by omega, by omega, k4, openC_start (by omega) (by omega) k5⟩
  case g13 =>
    intro i A B h0 h1 h3 h4 h5 j X Y k0 k1 k2 k4 k5 k6 l V W m0 m1 m3 m4 m5 m6
    exact ⟨by omega, by omega, isLen_upd m3, fun r hr => by rw [zT_upd (m3 _ (by omega))]; exact openC_in m0 m5 m6 m4 r hr⟩
  case g15 => intro i A B h0 h1 h3 h4 h5 j X Y k0 k1 k2 k4 k5 k6 l V W m0 m1 m3 m4 m5 m6; exact ⟨by omega, by omega, m3, openC_out m0 m5 m6 m4⟩
  case g16 => intro i A B h0 h1 h3 h4 h5 j X Y k0 k1 k2 k4 k5 k6 l V W m0 m1 m3 m4 m5; exact ⟨by omega, by omega, m3, open_next h0 h5 m5 m4⟩
  case g17 => intro i A B h0 h1 h3 h4 h5; exact ⟨rfl, rfl, by omega, by omega, fun k hk => by omega⟩
  case g18 => intro i A B h0 h1 h3 h4 h5 r X Y S k0 k1 k2 k3 k4 k5; subst k0 k1; exact h3 _ (by omega)
  case g19 =>
    intro i A B h0 h1 h3 h4 h5 r X Y S k0 k1 k2 k3 k4 k5
    subst k0 k1
    have := zT_len h3 (r := r.toNat) (by omega)
    have := openT_len r.toNat (ps.take i.toNat)
    rw [h4 _ (by omega)] at *
    rw [List.take_of_length_le (by omega)] at *
    omega
  case g20 => intro i A B h0 h1 h3 h4 h5 r X Y S k0 k1 k2 k3 k4 k5; rw [tabC_len]; omega
  case g21 => intro i A B h0 h1 h3 h4 h5 r X Y S k0 k1 k2 k3 k4 k5; subst k0 k1; exact ⟨rfl, rfl, by omega, by omega, isMean_next k2 k4⟩
  case g22 =>
    intro i A B h0 h1 h3 h4 h5 r X Y S k0 k1 k2 k3 k4 k5
    congr 1
    show tabC c3 16 S = tabC c3 16 _
    unfold tabC
    refine List.map_congr_left fun q hq => ?_
    have hq : q < 16 := by simpa using hq
    rw [k4 q (by omega)]
    unfold tnS nrmT
    rw [h4 q hq, List.take_of_length_le (by omega)]
  all_goals
    intro i A B h0 h1 h3 h4 h5 j X Y k0 k1 k2 k4 k5 k6
    first
    | (have l1 := openV_len h0 h5 k5 (r := j.toNat) (by omega) (by omega)
       have l2 := zT_len k4 (r := j.toNat) (by omega)
       simp only [List.length_map, List.length_cons, List.length_nil, Go.maxLen]
       omega)
    | (intro l V W m0 m1 m3 m4 m5 m6
       have l0 := openC_len h0 h5 m0 m5 m4 (r := 0) (by omega)
       first
       | omega
       | (have l1 := openC_len h0 h5 m0 m5 m4 (r := ((ps[i.toNat]!).cloud[l.toNat]!).rep.toNat) (by omega)
          have l2 := zT_len m3 (r := ((ps[i.toNat]!).cloud[l.toNat]!).rep.toNat) (by omega)
          simp only [List.length_map, List.length_cons, List.length_nil, Go.maxLen]
          omega))
end Go.Proofs.YtaiepnaokhpmcaaGreat
namespace Go.Proofs.YtaiepnaokhpmcaaGreat
open Go.E
set_option maxRecDepth 100000
set_option maxHeartbeats 4000000
def invFa (U:Nat→List Run) (n r:Int) (S:Nat→List Int) (v:List Int) (c:List Span):Prop:=S=tnS U∧0≤r∧r≤16∧0≤n∧n≤r∧v.length=16∧isSz U r n∧isVec U r v∧isCloud U r c
def decFa (n r:Int) (S:Nat→List Int) (v:List Int) (c:List Span):Nat:=(16-r).toNat
def isIn (U:Nat→List Run) (r n0:Int) (v0:List Int) (c0:List Span) (k n:Int) (v:List Int) (c:List Span):Prop :=
 n=(if 0 < (leadR ((U r.toNat).take (k / 2).toNat)).1 then r+1 else n0)∧v=v0.set r.toNat (leadR ((U r.toNat).take (k / 2).toNat)).1∧c=c0++(leadR ((U r.toNat).take (k / 2).toNat)).2.map fun x=>(⟨r,x.lo,x.hi⟩:Span)
def invFb (U:Nat→List Run) (r n0:Int) (v0:List Int) (c0:List Span) (n k:Int) (S:Nat→List Int) (v:List Int) (c:List Span):Prop:=S=tnS U∧0≤k∧k≤2*(U r.toNat).length∧2*(k / 2)=k∧v.length=16∧0≤n∧n≤r+1∧isIn U r n0 v0 c0 k n v c
def decFb (U:Nat→List Run) (r:Int) (n k:Int) (S:Nat→List Int) (v:List Int) (c:List Span):Nat:=(2*(U r.toNat).length-k).toNat
theorem turns_len (l:List Run):(turnsR l).length=2*l.length:=by
 induction l with
 | nil=>rfl
 | cons r l ih =>
  have:turnsR (r :: l)=r.lo :: (r.hi+1) :: turnsR l:=rfl
  rw [this];simp only [List.length_cons,ih];omega
theorem turns_at:∀ {l:List Run} {j:Nat},j < l.length→(turnsR l)[2*j]! = l[j]!.lo∧(turnsR l)[2*j+1]! = l[j]!.hi+1
 | r :: l,0,_=>⟨rfl,rfl⟩
 | r :: l,j+1,h=>by
  have e:turnsR (r :: l)=r.lo :: (r.hi+1) :: turnsR l:=rfl
  have ih:=turns_at (l:=l) (j:=j) (by simpa using h)
  rw [e,show 2*(j+1)=2*j+1+1 by omega]
  simpa using ih
theorem lead_one {x:Run} (h:x.lo=1):leadR [x]=(x.hi,[]):=by
 unfold leadR
 rw [if_neg]
 ·rfl
 ·rintro (k | k)
  ·cases k
  ·exact k h
theorem lead_snoc {P:List Run} {x:Run} (h:P=[]→¬ x.lo=1):leadR (P++[x])=((leadR P).1,(leadR P).2++[x]):=by
 cases P with
 | nil =>
  show leadR [x]=_
  unfold leadR
  rw [if_pos (.inr (h rfl)),if_pos (.inl rfl)]
  rfl
 | cons y P =>
  unfold leadR
  by_cases hy:y.lo=1
  ·rw [if_neg,if_neg]
   ·simp
   ·simpa using hy
   ·simpa using hy
  ·rw [if_pos,if_pos]
   ·simpa using hy
   ·simpa using hy
theorem lead_len (P:List Run):(leadR P).2.length≤P.length:=by
 unfold leadR
 split
 ·exact Nat.le_refl _
 ·simp
theorem isIn_start {U:Nat→List Run} {r n0:Int} {v0:List Int} {c0:List Span} (h0:0≤r) (h1:r < 16) (hv:isVec U r v0):isIn U r n0 v0 c0 0 n0 v0 c0:=by
 unfold isIn
 refine ⟨?_,?_,?_⟩
 ·show n0=if (0:Int) < (leadR []).1 then _ else _
  rw [lead_nil,if_neg (by omega)]
 ·show v0=v0.set r.toNat (leadR []).1
  rw [lead_nil]
  unfold isVec vecT at hv
  have e:16-r.toNat=(15-r.toNat)+1:=by omega
  rw [hv,List.set_append_right _ _ (by simp),List.length_map,List.length_range,Nat.sub_self,e,List.replicate_succ,List.set_cons_zero]
 ·show c0=c0++List.map _ (leadR []).2
  rw [lead_nil];simp
theorem take_at {l:List Run} {k:Int} (h0:0≤k) (he:2*(k / 2)=k) (hk:k+1 < 2*l.length):l.take ((k+2) / 2).toNat=l.take (k / 2).toNat++[l[(k / 2).toNat]!]:=by
 have:=take_step (a:=l) (i:=k / 2) (by omega) (by omega)
 rw [show ((k+2) / 2).toNat=(k / 2+1).toNat by omega,this]
theorem isIn_one {U:Nat→List Run} {r n0 n k:Int} {v0 v:List Int} {c0 c:List Span} (hU:sepR (U r.toNat)) (h0:0≤k) (he:2*(k / 2)=k) (hk:k+1 < 2*(U r.toNat).length) (hlo:(U r.toNat)[(k / 2).toNat]!.lo=1) (h:isIn U r n0 v0 c0 k n v c) :
  isIn U r n0 v0 c0 (k+2) (r+1) (v.set r.toNat (U r.toNat)[(k / 2).toNat]!.hi) c:=by
 have h1:=sepR_lo hU (k / 2).toNat (by omega)
 have h2:=hU.2 _ (bang_in (l:=U r.toNat) (i:=(k / 2).toNat) (by omega))
 have hz:k=0:=by omega
 subst hz
 unfold isIn at *
 rw [take_at h0 he hk]
 obtain ⟨a1,a2,a3⟩:=h
 have e:(U r.toNat).take ((0:Int) / 2).toNat=[]:=by simp
 rw [e] at a1 a2 a3 ⊢
 rw [List.nil_append,lead_one hlo]
 rw [lead_nil] at a2 a3
 refine ⟨?_,?_,?_⟩
 ·rw [if_pos (show (0:Int) < (U r.toNat)[((0:Int) / 2).toNat]!.hi by omega)]
 ·rw [a2,List.set_set]
 ·exact a3
theorem isIn_snoc {U:Nat→List Run} {r n0 n k:Int} {v0 v:List Int} {c0 c:List Span} (h0:0≤k) (he:2*(k / 2)=k) (hk:k+1 < 2*(U r.toNat).length) (hlo:¬ (U r.toNat)[(k / 2).toNat]!.lo=1) (h:isIn U r n0 v0 c0 k n v c) :
  isIn U r n0 v0 c0 (k+2) n v (c++[⟨r,(U r.toNat)[(k / 2).toNat]!.lo,(U r.toNat)[(k / 2).toNat]!.hi⟩]):=by
 unfold isIn at *
 rw [take_at h0 he hk,lead_snoc (fun _=>hlo)]
 obtain ⟨a1,a2,a3⟩:=h
 refine ⟨a1,a2,?_⟩
 rw [a3,List.map_append,List.append_assoc]
 rfl
theorem isIn_end {U:Nat→List Run} {r n0 n k:Int} {v0 v:List Int} {c0 c:List Span} (hU:sepR (U r.toNat)) (r0:0≤r) (r1:r < 16) (hs:isSz U r n0) (hv:isVec U r v0) (hc:isCloud U r c0) (h0:0≤k) (he:2*(k / 2)=k) (hk:¬ k+1 < 2*(U r.toNat).length) (hl:k≤2*(U r.toNat).length)
  (h:isIn U r n0 v0 c0 k n v c):isSz U (r+1) n∧isVec U (r+1) v∧isCloud U (r+1) c:=by
 unfold isIn at h
 rw [List.take_of_length_le (by omega)] at h
 obtain ⟨a1,a2,a3⟩:=h
 have g1:=sz_next r0 hs
 have g2:=vec_next r0 r1 hv
 rw [nrm_id hU] at g1 g2
 rw [a1,a2]
 refine ⟨g1,g2,?_⟩
 unfold isCloud at *
 rw [show (r+1).toNat=r.toNat+1 by omega,cloudT,restT,nrm_id hU,a3,hc,show ((r.toNat:Nat):Int)=r by omega]
theorem tn_at {U:Nat→List Run} {r k:Int} (h0:0≤k) (he:2*(k / 2)=k) (hk:k+1 < 2*(U r.toNat).length):(tnS U r.toNat)[k.toNat]! = (U r.toNat)[(k / 2).toNat]!.lo∧(tnS U r.toNat)[(k+1).toNat]! = (U r.toNat)[(k / 2).toNat]!.hi+1:=by
 have:=turns_at (l:=U r.toNat) (j:=(k / 2).toNat) (by omega)
 unfold tnS
 rw [show k.toNat=2*(k / 2).toNat by omega,show (k+1).toNat=2*(k / 2).toNat+1 by omega]
 exact this
theorem isIn_len {U:Nat→List Run} {r n0 n k:Int} {v0 v:List Int} {c0 c:List Span} (hU:sepR (U r.toNat)) (r0:0≤r) (r1:r < 16) (hc:isCloud U r c0) (h:isIn U r n0 v0 c0 k n v c):c.length≤8000000000:=by
 obtain ⟨_,_,a3⟩:=h
 have h1:=cloud_len U r.toNat
 have h2:=lead_len ((U r.toNat).take (k / 2).toNat)
 have h3:=sepR_len hU
 unfold isCloud at hc
 rw [List.length_take] at h2
 rw [a3,List.length_append,List.length_map,hc]
 omega
theorem con109 (U : Nat → List Run) (hU : ∀ r : Nat, r < 16 → sepR (U r)) : Con Tryz.prog 109 [.agg (c122 (tnS U))] (.agg (c26 (tabP U))) :=
  by
  refine st_con tab_ok (by kernel_rfl) [.cell 2 26] 73 Go.Proofs.Tryz.func109 (by kernel_rfl) (by kernel_rfl) ?_
  intro e0 cx
  refine sq<|rG cx [1, 2] [1, 2] z0<|sn<|sq<|rG cx [1, 2, 3] [1, 2, 3] z0<|sn<|sq<|rG cx [1, 2, 3, 4] [1, 2, 3, 8] (fR (↑(16:Nat):Int) (fR (↑(16:Nat):Int) (fO ((8:Nat) * (16:Nat) ≤ (281474976710656:Nat)) (fP ((16:Nat) ≤ maxLen) (by (simp only [Go.maxLen]; omega)) (fR (1:Nat) (fP (ZLe [AV.i .i64 (0:Int)] [AV.i .i64 (0:Int)]) (by (with_reducible exact ZLe.refl _)) (fP (List.replicate (16:Nat) [AV.i .i64 (0:Int)] = List.map c3 (List.replicate (16:Nat) (0:Int))) (by (with_reducible refine rep_map ?_; kernel_rfl)) (oV 0 { row := [.i .i64 ((0:Int))], rows := some (List.map c3 (List.replicate (16:Nat) (0:Int))), n := (16:Nat) } z0)))))))) ?_
  refine sn<|sq<|rG cx [1, 2, 3, 4, 5] [1, 2, 3, 8] z0<|sn<|sq<|sq<|rG cx [1, 2, 3, 4, 5, 6] [1, 2, 3, 8] z0<|sn<|bL 0<|awp_cellIn 3 104 3 1 5301 (σ' := ⟨[(1, .ptr (1) (0) (0) (0)), (2, .ptr (2) (0) (0) (0)), (3, .ptr (3) (0) (0) (0)), (4, .own 8 0), (5, .i .i64 ((0:Int))), (6, .i .i64 ((0:Int)))], [(1, ⟨0, 122, .var [.sl (List.map c3 (tnS U (0))), .sl (List.map c3 (tnS U (1))), .sl (List.map c3 (tnS U (2))), .sl (List.map c3 (tnS U (3))), .sl (List.map c3 (tnS U (4))), .sl (List.map c3 (tnS U (5))), .sl (List.map c3 (tnS U (6))), .sl (List.map c3 (tnS U (7))), .sl (List.map c3 (tnS U (8))), .sl (List.map c3 (tnS U (9))), .sl (List.map c3 (tnS U (10))), .sl (List.map c3 (tnS U (11))), .sl (List.map c3 (tnS U (12))), .sl (List.map c3 (tnS U (13))), .sl (List.map c3 (tnS U (14))), .sl (List.map c3 (tnS U (15)))]⟩), (2, ⟨0, 26, .var [.nl, .nl]⟩), (3, ⟨0, 26, .var [.nl, .own 5301 0]⟩), (8, ⟨0, 3, .row 1 (List.map c3 (List.replicate (16:Nat) (0:Int)))⟩), (5301, ⟨0, 104, .row 3 (List.map c104 [])⟩)]⟩) (by kernel_rfl)<|awp_varArr 1 ⟨0, 122, .var [.sl (List.map c3 (tnS U (0))), .sl (List.map c3 (tnS U (1))), .sl (List.map c3 (tnS U (2))), .sl (List.map c3 (tnS U (3))), .sl (List.map c3 (tnS U (4))), .sl (List.map c3 (tnS U (5))), .sl (List.map c3 (tnS U (6))), .sl (List.map c3 (tnS U (7))), .sl (List.map c3 (tnS U (8))), .sl (List.map c3 (tnS U (9))), .sl (List.map c3 (tnS U (10))), .sl (List.map c3 (tnS U (11))), .sl (List.map c3 (tnS U (12))), .sl (List.map c3 (tnS U (13))), .sl (List.map c3 (tnS U (14))), .sl (List.map c3 (tnS U (15)))]⟩ [.sl (List.map c3 (tnS U (0))), .sl (List.map c3 (tnS U (1))), .sl (List.map c3 (tnS U (2))), .sl (List.map c3 (tnS U (3))), .sl (List.map c3 (tnS U (4))), .sl (List.map c3 (tnS U (5))), .sl (List.map c3 (tnS U (6))), .sl (List.map c3 (tnS U (7))), .sl (List.map c3 (tnS U (8))), .sl (List.map c3 (tnS U (9))), .sl (List.map c3 (tnS U (10))), .sl (List.map c3 (tnS U (11))), .sl (List.map c3 (tnS U (12))), .sl (List.map c3 (tnS U (13))), .sl (List.map c3 (tnS U (14))), .sl (List.map c3 (tnS U (15)))] (tabC c3 (16:Nat) (tnS U)) (σ' := ⟨[(1, .ptr (1) (0) (0) (0)), (2, .ptr (2) (0) (0) (0)), (3, .ptr (3) (0) (0) (0)), (4, .own 8 0), (5, .i .i64 ((0:Int))), (6, .i .i64 ((0:Int)))], [(1, ⟨0, 122, .arr (tabC c3 (16:Nat) (tnS U))⟩), (2, ⟨0, 26, .var [.nl, .nl]⟩), (3, ⟨0, 26, .var [.nl, .own 5301 0]⟩), (8, ⟨0, 3, .row 1 (List.map c3 (List.replicate (16:Nat) (0:Int)))⟩), (5301, ⟨0, 104, .row 3 (List.map c104 [])⟩)]⟩) (by kernel_rfl) (by kernel_rfl) (by kernel_rfl) (by kernel_rfl) (ZLe.of_eq (by kernel_rfl)) (by kernel_rfl)<|st_loop (X := Int × Int × (Nat → List Int) × List Int × List Span) (fun x => ⟨[(1, .ptr (1) (0) (0) (0)), (2, .ptr (2) (0) (0) (0)), (3, .ptr (3) (0) (0) (0)), (4, .own 8 0), (5, .i .i64 (x.1)), (6, .i .i64 (x.2.1))], [(1, ⟨0, 122, .arr (tabC c3 (16:Nat) x.2.2.1)⟩), (2, ⟨0, 26, .var [.nl, .nl]⟩), (3, ⟨0, 26, .var [.nl, .own 5301 0]⟩), (8, ⟨0, 3, .row 1 (List.map c3 x.2.2.2.1)⟩), (5301, ⟨0, 104, .row 3 (List.map c104 x.2.2.2.2)⟩)]⟩) (fun x ↦ decFa x.1 x.2.1 x.2.2.1 x.2.2.2.1 x.2.2.2.2) (fun x ↦ invFa U x.1 x.2.1 x.2.2.1 x.2.2.2.1 x.2.2.2.2) [1, 2, 3, 4, 5, 6] [1, 2, 3, 8, 5301] (((0:Int), (0:Int), tnS U, List.replicate (16:Nat) (0:Int), [])) (by kernel_rfl) (by kernel_rfl) (show invFa U (0:Int) (0:Int) (tnS U) (List.replicate (16:Nat) (0:Int)) [] from ?g0) ?_; rotate_left
  rintro ⟨n0, r1, S2, v3, c4⟩ h_5
  obtain ⟨hh6, hh7, hh8, hh9, h10, h11, h12, h13, h14⟩ : S2 = tnS U ∧ (0:Int) ≤ r1 ∧ r1 ≤ (16:Int) ∧ (0:Int) ≤ n0 ∧ n0 ≤ r1 ∧ v3.length = (16:Nat) ∧ isSz U r1 n0 ∧ isVec U r1 v3 ∧ isCloud U r1 c4 := h_5
  refine sq<|sq<|rG cx [1, 2, 3, 4, 5, 6, 10] [1, 2, 3, 8, 5301] (tB 1 (r1 < (16:Int)) z0)<|sn<|dC (r1 < (16:Int)) (fun h15 => ?_) fun h15 => ?_
  refine sK<|sn<|sq<|bL 1<|sq<|rG cx [1, 2, 3, 4, 5, 6, 7] [1, 2, 3, 8, 5301] z0<|sn<|bL 2<|st_loop (X := Int × Int × (Nat → List Int) × List Int × List Span) (fun x => ⟨[(1, .ptr (1) (0) (0) (0)), (2, .ptr (2) (0) (0) (0)), (3, .ptr (3) (0) (0) (0)), (4, .own 8 0), (5, .i .i64 (x.1)), (6, .i .i64 (r1)), (7, .i .i64 (x.2.1))], [(1, ⟨0, 122, .arr (tabC c3 (16:Nat) x.2.2.1)⟩), (2, ⟨0, 26, .var [.nl, .nl]⟩), (3, ⟨0, 26, .var [.nl, .own 5301 0]⟩), (8, ⟨0, 3, .row 1 (List.map c3 x.2.2.2.1)⟩), (5301, ⟨0, 104, .row 3 (List.map c104 x.2.2.2.2)⟩)]⟩) (fun x ↦ decFb U r1 x.1 x.2.1 x.2.2.1 x.2.2.2.1 x.2.2.2.2) (fun x ↦ invFb U r1 n0 v3 c4 x.1 x.2.1 x.2.2.1 x.2.2.2.1 x.2.2.2.2) [1, 2, 3, 4, 5, 6, 7] [1, 2, 3, 8, 5301] ((n0, (0:Int), S2, v3, c4)) (by kernel_rfl) (by kernel_rfl) (show invFb U r1 n0 v3 c4 n0 (0:Int) S2 v3 c4 from ?g1) ?_; rotate_left
  rintro ⟨n16, k17, S18, v19, c20⟩ h_21
  obtain ⟨h22, h23, h24, h25, h26, h27, h28, h29⟩ : S18 = tnS U ∧ (0:Int) ≤ k17 ∧ k17 ≤ (2:Int) * (↑(U r1.toNat).length:Int) ∧ (2:Int) * (k17 / (2:Int)) = k17 ∧ v19.length = (16:Nat) ∧ (0:Int) ≤ n16 ∧ n16 ≤ r1 + (1:Int) ∧ isIn U r1 n0 v3 c4 k17 n16 v19 c20 := h_21
  refine sq<|sq<|rG cx [1, 2, 3, 4, 5, 6, 7, 20] [1, 2, 3, 8, 5301] (tT 1 (told_i64 (by omega) ?g2 : AV.i .i64 (IntKind.i64.wrap (k17 + (1:Int))) = AV.i .i64 (k17 + (1:Int))) (fA ((0:Int) ≤ r1) (fO (r1 < (↑(16:Nat):Int)) (fP ((tabC c3 (16:Nat) S18)[r1.toNat * (1:Nat) + 0]? = some (AV.sl (List.map c3 (S18 r1.toNat)))) (by ((try simp only [Nat.mul_one, Nat.add_zero, Nat.zero_add]); with_reducible refine get_tabC ?_; omega)) (tL 6 c3 (S18 r1.toNat) (tB 7 (k17 + (1:Int) < (↑(S18 r1.toNat).length:Int)) (oR 5 [.sl (List.map c3 (S18 r1.toNat))] z0))))))) ?_; rotate_left
  refine sn<|dC (k17 + (1:Int) < (↑(S18 r1.toNat).length:Int)) (fun h30 => ?_) fun h30 => ?_
  refine sK<|sn<|sq<|bL 3<|sq<|rG cx [1, 2, 3, 4, 5, 6, 7, 30] [1, 2, 3, 8, 5301] (fA ((0:Int) ≤ r1) (fO (r1 < (↑(16:Nat):Int)) (fP ((tabC c3 (16:Nat) S18)[r1.toNat * (1:Nat) + 0]? = some (AV.sl (List.map c3 (S18 r1.toNat)))) (by ((try simp only [Nat.mul_one, Nat.add_zero, Nat.zero_add]); with_reducible refine get_tabC ?_; omega)) (fA ((0:Int) ≤ k17) (fG c3 (S18 r1.toNat) k17.toNat (fR (1:Nat) (tB 7 ((S18 r1.toNat)[k17.toNat]! = (1:Int)) (oR 3 [.sl (List.map c3 (S18 r1.toNat))] (oR 5 (c3 (S18 r1.toNat)[k17.toNat]!) z0))))))))) ?_
  refine sn<|dC ((S18 r1.toNat)[k17.toNat]! = (1:Int)) (fun h31 => ?_) fun h31 => ?_
  refine sq<|rG cx [1, 2, 3, 4, 6, 7] [1, 2, 3, 8, 5301] (fA ((0:Int) ≤ r1) (fO (r1 < (↑(16:Nat):Int)) (fP ((tabC c3 (16:Nat) S18)[r1.toNat * (1:Nat) + 0]? = some (AV.sl (List.map c3 (S18 r1.toNat)))) (by ((try simp only [Nat.mul_one, Nat.add_zero, Nat.zero_add]); with_reducible refine get_tabC ?_; omega)) (tT 7 (told_i64 (by omega) ?g3 : AV.i .i64 (IntKind.i64.wrap (k17 + (1:Int))) = AV.i .i64 (k17 + (1:Int))) (fO ((0:Int) ≤ k17 + (1:Int)) (fG c3 (S18 r1.toNat) ((k17 + (1:Int)).toNat) (fR (1:Nat) (tT 10 (told_i64 ?g4 ?g5 : AV.i .i64 (IntKind.i64.wrap ((S18 r1.toNat)[(k17 + (1:Int)).toNat]! - (1:Int))) = AV.i .i64 ((S18 r1.toNat)[(k17 + (1:Int)).toNat]! - (1:Int))) (fA ((0:Int) ≤ r1) (fP (r1.toNat < (List.map c3 v19).length) (by (first | omega | (simp only [List.length_map]; omega))) (fR 1 (fG c3 v19 r1.toNat (fR (1:Nat) (fP (0 + (1:Nat) ≤ 1) (by (first | omega | (simp only [List.length_map]; omega))) (fP ((List.map c3 v19).set r1.toNat (List.take (0) (c3 v19[r1.toNat]!) ++ cellsA (AV.i .i64 ((S18 r1.toNat)[(k17 + (1:Int)).toNat]! - (1:Int))) ++ List.drop (0 + (1:Nat)) (c3 v19[r1.toNat]!)) = List.map c3 (v19.set r1.toNat ((S18 r1.toNat)[(k17 + (1:Int)).toNat]! - (1:Int)))) (by (with_reducible refine set_map ?_; kernel_rfl)) (oR 5 [.sl (List.map c3 (S18 r1.toNat))] (oR 8 (c3 (S18 r1.toNat)[(k17 + (1:Int)).toNat]!) (oV 12 { row := (c3 v19[r1.toNat]!), rows := some (List.map c3 (v19.set r1.toNat ((S18 r1.toNat)[(k17 + (1:Int)).toNat]! - (1:Int)))) } z0)))))))))))))))))) ?_; rotate_left 3
  refine sn<|rG cx [1, 2, 3, 4, 6, 7, 5] [1, 2, 3, 8, 5301] (tW 1 (r1 + (1:Int)) z0)<|bN<|sn<|rG cx [1, 2, 3, 4, 6, 7, 5] [1, 2, 3, 8, 5301] (tT 1 (told_i64 (by omega) ?g6 : AV.i .i64 (IntKind.i64.wrap (k17 + (2:Int))) = AV.i .i64 (k17 + (2:Int))) z0) ?_; rotate_left
  refine sn<|loop_next ((r1 + (1:Int), k17 + (2:Int), S18, v19.set r1.toNat ((S18 r1.toNat)[(k17 + (1:Int)).toNat]! - (1:Int)), c20)) (by kernel_rfl) (show ((2:Int) * (↑(U r1.toNat).length:Int) - (k17 + (2:Int))).toNat < ((2:Int) * (↑(U r1.toNat).length:Int) - k17).toNat from ?g7) (show invFb U r1 n0 v3 c4 (r1 + (1:Int)) (k17 + (2:Int)) S18 (v19.set r1.toNat ((S18 r1.toNat)[(k17 + (1:Int)).toNat]! - (1:Int))) c20 from ?g8); rotate_left 2
  refine rA cx [1, 2, 3, 4, 5, 6, 7] [1, 2, 3, 8, 5301] (fA ((0:Int) ≤ r1) (fO (r1 < (↑(16:Nat):Int)) (fP ((tabC c3 (16:Nat) S18)[r1.toNat * (1:Nat) + 0]? = some (AV.sl (List.map c3 (S18 r1.toNat)))) (by ((try simp only [Nat.mul_one, Nat.add_zero, Nat.zero_add]); with_reducible refine get_tabC ?_; omega)) (fA ((0:Int) ≤ k17) (fG c3 (S18 r1.toNat) k17.toNat (fR (1:Nat) (fA ((0:Int) ≤ r1) (fO (r1 < (↑(16:Nat):Int)) (fP ((tabC c3 (16:Nat) S18)[r1.toNat * (1:Nat) + 0]? = some (AV.sl (List.map c3 (S18 r1.toNat)))) (by ((try simp only [Nat.mul_one, Nat.add_zero, Nat.zero_add]); with_reducible refine get_tabC ?_; omega)) (tT 15 (told_i64 (by omega) ?g9 : AV.i .i64 (IntKind.i64.wrap (k17 + (1:Int))) = AV.i .i64 (k17 + (1:Int))) (fO ((0:Int) ≤ k17 + (1:Int)) (fG c3 (S18 r1.toNat) ((k17 + (1:Int)).toNat) (fR (1:Nat) (tT 18 (told_i64 ?g10 ?g11 : AV.i .i64 (IntKind.i64.wrap ((S18 r1.toNat)[(k17 + (1:Int)).toNat]! - (1:Int))) = AV.i .i64 ((S18 r1.toNat)[(k17 + (1:Int)).toNat]! - (1:Int))) (fR (104:Nat) (fR 3 (fR (3:Nat) (fX c104 [{ rep := r1, lo := (S18 r1.toNat)[k17.toNat]!, hi := (S18 r1.toNat)[(k17 + (1:Int)).toNat]! - (1:Int) : Span }] 3 (fP ((List.map c104 c20).length + (List.map c104 [{ rep := r1, lo := (S18 r1.toNat)[k17.toNat]!, hi := (S18 r1.toNat)[(k17 + (1:Int)).toNat]! - (1:Int) : Span }]).length ≤ maxLen) ?g12 (fP (((List.map c104 c20).length + (List.map c104 [{ rep := r1, lo := (S18 r1.toNat)[k17.toNat]!, hi := (S18 r1.toNat)[(k17 + (1:Int)).toNat]! - (1:Int) : Span }]).length) * (24:Nat) ≤ (140737488355328:Nat)) ?g13 (fM c104 c20 [{ rep := r1, lo := (S18 r1.toNat)[k17.toNat]!, hi := (S18 r1.toNat)[(k17 + (1:Int)).toNat]! - (1:Int) : Span }] (oR 6 [.sl (List.map c3 (S18 r1.toNat))] (oR 8 (c3 (S18 r1.toNat)[k17.toNat]!) (oR 13 [.sl (List.map c3 (S18 r1.toNat))] (oR 16 (c3 (S18 r1.toNat)[(k17 + (1:Int)).toNat]!) (oV 21 { rows := some (List.map c104 (c20 ++ [{ rep := r1, lo := (S18 r1.toNat)[k17.toNat]!, hi := (S18 r1.toNat)[(k17 + (1:Int)).toNat]! - (1:Int) : Span }])) } z0)))))))))))))))))))))))))) ?_; rotate_left 5
  refine bN<|sn<|rG cx [1, 2, 3, 4, 5, 6, 7] [1, 2, 3, 8, 5301] (tT 1 (told_i64 (by omega) ?g14 : AV.i .i64 (IntKind.i64.wrap (k17 + (2:Int))) = AV.i .i64 (k17 + (2:Int))) z0) ?_; rotate_left
  refine sn<|loop_next ((n16, k17 + (2:Int), S18, v19, c20 ++ [{ rep := r1, lo := (S18 r1.toNat)[k17.toNat]!, hi := (S18 r1.toNat)[(k17 + (1:Int)).toNat]! - (1:Int) : Span }])) (by kernel_rfl) (show ((2:Int) * (↑(U r1.toNat).length:Int) - (k17 + (2:Int))).toNat < ((2:Int) * (↑(U r1.toNat).length:Int) - k17).toNat from ?g15) (show invFb U r1 n0 v3 c4 n16 (k17 + (2:Int)) S18 v19 (c20 ++ [{ rep := r1, lo := (S18 r1.toNat)[k17.toNat]!, hi := (S18 r1.toNat)[(k17 + (1:Int)).toNat]! - (1:Int) : Span }]) from ?g16); rotate_left 2
  refine eX 2<|nE<|nE<|bH<|bN<|sn<|rG cx [1, 2, 3, 4, 5, 6] [1, 2, 3, 8, 5301] (tW 1 (r1 + (1:Int)) z0)<|sn<|loop_next ((n16, r1 + (1:Int), S18, v19, c20)) (by kernel_rfl) (show ((16:Int) - (r1 + (1:Int))).toNat < ((16:Int) - r1).toNat from (by omega)) (show invFa U n16 (r1 + (1:Int)) S18 v19 c20 from ?g17); rotate_left
  refine eX 0<|nE<|nE<|bH<|sn<|sq<|rG cx [2, 3] [2, 3, 8, 5301] (fO ((0:Int) ≤ (0:Int)) (fA ((0:Int) ≤ n0) (fP (n0 ≤ (↑(List.map c3 v3).length:Int)) (by (first | omega | (simp only [List.length_map]; omega))) (fP ((0:Int) < (↑(List.map c3 v3).length:Int)) (by (first | omega | (simp only [List.length_map]; omega))) (fR (some (1)) z0))))) ?_
  refine sn<|sq<|awp_norm [8, 5301] [2, 3] [2, 3] (σ' := ⟨[(2, .ptr (2) (0) (0) (0)), (3, .ptr (3) (0) (0) (0))], [(2, ⟨0, 26, .var [.nl, .nl]⟩), (3, ⟨0, 26, .var [.sl (List.take (n0 - (0:Int)).toNat (List.drop (0) (List.map c3 v3))), .sl (List.map c104 c4)]⟩)]⟩) (by kernel_rfl)<|rG cx [2] [2] z0<|sn<|rT<|qR (.agg [.sl (List.take (n0 - (0:Int)).toNat (List.drop (0) (List.map c3 v3))), .sl (List.map c104 c4)]) (.eq ?g18); rotate_left
  rotate_left
  revert n0 r1 S2 v3 c4 hh6 hh7 hh8 hh9 h10 h11 h12 h13 h14 h15; rotate_left
  revert n0 r1 S2 v3 c4 hh6 hh7 hh8 hh9 h10 h11 h12 h13 h14 h15 n16 k17 S18 v19 c20 h22 h23 h24 h25 h26 h27 h28 h29; rotate_left
  revert n0 r1 S2 v3 c4 hh6 hh7 hh8 hh9 h10 h11 h12 h13 h14 h15 n16 k17 S18 v19 c20 h22 h23 h24 h25 h26 h27 h28 h29 h30 h31; rotate_left
  revert n0 r1 S2 v3 c4 hh6 hh7 hh8 hh9 h10 h11 h12 h13 h14 h15 n16 k17 S18 v19 c20 h22 h23 h24 h25 h26 h27 h28 h29 h30 h31; rotate_left
  revert n0 r1 S2 v3 c4 hh6 hh7 hh8 hh9 h10 h11 h12 h13 h14 h15 n16 k17 S18 v19 c20 h22 h23 h24 h25 h26 h27 h28 h29 h30 h31; rotate_left
  revert n0 r1 S2 v3 c4 hh6 hh7 hh8 hh9 h10 h11 h12 h13 h14 h15 n16 k17 S18 v19 c20 h22 h23 h24 h25 h26 h27 h28 h29 h30 h31; rotate_left
  revert n0 r1 S2 v3 c4 hh6 hh7 hh8 hh9 h10 h11 h12 h13 h14 h15 n16 k17 S18 v19 c20 h22 h23 h24 h25 h26 h27 h28 h29 h30 h31; rotate_left
  revert n0 r1 S2 v3 c4 hh6 hh7 hh8 hh9 h10 h11 h12 h13 h14 h15 n16 k17 S18 v19 c20 h22 h23 h24 h25 h26 h27 h28 h29 h30 h31; rotate_left
  revert n0 r1 S2 v3 c4 hh6 hh7 hh8 hh9 h10 h11 h12 h13 h14 h15 n16 k17 S18 v19 c20 h22 h23 h24 h25 h26 h27 h28 h29 h30 h31; rotate_left
  revert n0 r1 S2 v3 c4 hh6 hh7 hh8 hh9 h10 h11 h12 h13 h14 h15 n16 k17 S18 v19 c20 h22 h23 h24 h25 h26 h27 h28 h29 h30 h31; rotate_left
  revert n0 r1 S2 v3 c4 hh6 hh7 hh8 hh9 h10 h11 h12 h13 h14 h15 n16 k17 S18 v19 c20 h22 h23 h24 h25 h26 h27 h28 h29 h30 h31; rotate_left
  revert n0 r1 S2 v3 c4 hh6 hh7 hh8 hh9 h10 h11 h12 h13 h14 h15 n16 k17 S18 v19 c20 h22 h23 h24 h25 h26 h27 h28 h29 h30 h31; rotate_left
  revert n0 r1 S2 v3 c4 hh6 hh7 hh8 hh9 h10 h11 h12 h13 h14 h15 n16 k17 S18 v19 c20 h22 h23 h24 h25 h26 h27 h28 h29 h30 h31; rotate_left
  revert n0 r1 S2 v3 c4 hh6 hh7 hh8 hh9 h10 h11 h12 h13 h14 h15 n16 k17 S18 v19 c20 h22 h23 h24 h25 h26 h27 h28 h29 h30 h31; rotate_left
  revert n0 r1 S2 v3 c4 hh6 hh7 hh8 hh9 h10 h11 h12 h13 h14 h15 n16 k17 S18 v19 c20 h22 h23 h24 h25 h26 h27 h28 h29 h30 h31; rotate_left
  revert n0 r1 S2 v3 c4 hh6 hh7 hh8 hh9 h10 h11 h12 h13 h14 h15 n16 k17 S18 v19 c20 h22 h23 h24 h25 h26 h27 h28 h29 h30 h31; rotate_left
  revert n0 r1 S2 v3 c4 hh6 hh7 hh8 hh9 h10 h11 h12 h13 h14 h15 n16 k17 S18 v19 c20 h22 h23 h24 h25 h26 h27 h28 h29 h30; rotate_left
  revert n0 r1 S2 v3 c4 hh6 hh7 hh8 hh9 h10 h11 h12 h13 h14 h15; rotate_left
  case g0 => exact ⟨rfl, by omega, by omega, by omega, by omega, by simp, rfl, by simp [isVec, vecT], rfl⟩
  case g1 => intro n r S v c h0 h1 h2 h3 h4 h5 h6 h7 h8 h9; exact ⟨h0, by omega, by omega, by omega, by omega, by omega, by omega, isIn_start h1 h9 h7⟩
  case g18 =>
    intro n r S v c h0 h1 h2 h3 h4 h5 h6 h7 h8 h9
    rw [tab_end h2 h9 h6 h7 h8]
    show AV.agg [AV.sl (List.take (n - 0).toNat (List.drop 0 (List.map c3 v))), AV.sl (List.map c104 c)] = _
    rw [List.drop_zero, Int.sub_zero, ← List.map_take]
    rfl
  all_goals
    intro n r S v c h0 h1 h2 h3 h4 h5 h6 h7 h8 h9 m k X w d k0 k1 k2 k3 k4 k5 k6 k7
    have hs := hU r.toNat (by omega)
    have hl := sepR_len hs
    have hd := isIn_len hs h1 h9 h8 k7
    have ht : (tnS U r.toNat).length = 2 * (U r.toNat).length := turns_len _
    subst k0
  case g17 =>
    intro k8
    rw [ht] at k8
    obtain ⟨a, b, e⟩ := isIn_end hs h1 h9 h6 h7 h8 k1 k3 (by omega) k2 k7
    exact ⟨rfl, by omega, by omega, by omega, by omega, k4, a, b, e⟩
  case g8 =>
    intro k8 k9
    rw [ht] at k8
    obtain ⟨e1, e2⟩ := tn_at (U := U) (r := r) k1 k3 (by omega)
    rw [e1] at k9
    rw [e2, Int.add_sub_cancel]
    exact ⟨rfl, by omega, by omega, by omega, by rw [List.length_set]; exact k4, by omega, by omega, isIn_one hs k1 k3 (by omega) k9 k7⟩
  case g16 =>
    intro k8 k9
    rw [ht] at k8
    obtain ⟨e1, e2⟩ := tn_at (U := U) (r := r) k1 k3 (by omega)
    rw [e1] at k9
    rw [e1, e2, Int.add_sub_cancel]
    exact ⟨rfl, by omega, by omega, by omega, k4, by omega, by omega, isIn_snoc k1 k3 (by omega) k9 k7⟩
  all_goals
    first
    | omega
    | (intro k8 k9
       rw [ht] at k8
       obtain ⟨e1, e2⟩ := tn_at (U := U) (r := r) k1 k3 (by omega)
       have hb := hs.2 _ (bang_in (l := U r.toNat) (i := (k / 2).toNat) (by omega))
       simp only [e2, List.length_map, List.length_cons, List.length_nil, Go.maxLen]
       omega)
end Go.Proofs.YtaiepnaokhpmcaaGreat
namespace Go.Proofs.YtaiepnaokhpmcaaGreat
open Go.E
set_option maxRecDepth 100000
set_option maxHeartbeats 4000000
theorem con100 (p:Past) (hb:p.cloud.length*16≤140737488350000):Con Tryz.prog 100 [.agg (c26 p)] (.agg (c122 (tnS (nrmT (openT [p]))))) :=
 by
 refine st_con tab_ok (by kernel_rfl) [.cell 2 122] 6 Go.Proofs.Tryz.func100 (by kernel_rfl) (by kernel_rfl) ?_
 intro e0 cx
 refine sq<|rG cx [1,2] [1,2] z0<|sn<|sq<|rG cx [2] [2] (fT (con129 ([p]) ?g0) (oA 2 (.agg (tabC c3 (16:Nat) (tnS (nrmT (openT [p]))))) z0)) ?_;rotate_left
 refine sn<|rT<|qR (.agg [.sl (List.map c3 (tnS (nrmT (openT [p])) (0))),.sl (List.map c3 (tnS (nrmT (openT [p])) (1))),.sl (List.map c3 (tnS (nrmT (openT [p])) (2))),.sl (List.map c3 (tnS (nrmT (openT [p])) (3))),.sl (List.map c3 (tnS (nrmT (openT [p])) (4))),.sl (List.map c3 (tnS (nrmT (openT [p])) (5))),.sl (List.map c3 (tnS (nrmT (openT [p])) (6))),.sl (List.map c3 (tnS (nrmT (openT [p])) (7))),.sl (List.map c3 (tnS (nrmT (openT [p])) (8))),.sl (List.map c3 (tnS (nrmT (openT [p])) (9))),.sl (List.map c3 (tnS (nrmT (openT [p])) (10))),.sl (List.map c3 (tnS (nrmT (openT [p])) (11))),.sl (List.map c3 (tnS (nrmT (openT [p])) (12))),.sl (List.map c3 (tnS (nrmT (openT [p])) (13))),.sl (List.map c3 (tnS (nrmT (openT [p])) (14))),.sl (List.map c3 (tnS (nrmT (openT [p])) (15)))]) (.eq ?g1);rotate_left
 case g0=>exact (by rw [tot_one];omega)
 case g1=>exact rfl
theorem con95 (p:Past) (hb:p.cloud.length*16≤140737488350000):Con Tryz.prog 95 [.agg (c26 p)] (.agg (c26 (normP p))) :=
 by
 refine st_con tab_ok (by kernel_rfl) [.cell 2 26] 6 Go.Proofs.Tryz.func95 (by kernel_rfl) (by kernel_rfl) ?_
 intro e0 cx
 refine sq<|rG cx [1,2] [1,2] z0<|sn<|sq<|rG cx [2] [2] (fT (con100 (p) (by (with_reducible assumption))) (fT (con109 (nrmT (openT [p])) ?g0) (oA 1 (.agg (tabC c3 (16:Nat) (tnS (nrmT (openT [p]))))) (oA 2 (.agg [.sl (List.map c3 (tabP (nrmT (openT [p]))).vec),.sl (List.map c104 (tabP (nrmT (openT [p]))).cloud)]) z0)))) ?_;rotate_left
 refine sn<|rT<|qR (.agg [.sl (List.map c3 (tabP (nrmT (openT [p]))).vec),.sl (List.map c104 (tabP (nrmT (openT [p]))).cloud)]) (.eq ?g1);rotate_left
 case g0=>exact (nrmT_sep _)
 case g1=>exact (by rw [tabP_nrm];rfl)
theorem con84 (p:Past) (hb:p.cloud.length*16≤140737488350000) (hv:p.vec.length≤9223372036854775807):Con Tryz.prog 84 [.agg (c26 p)] (.b (decide (p=normP p))) :=
 by
 refine st_con tab_ok (by kernel_rfl) [.tmp 2] 7 Go.Proofs.Tryz.func84 (by kernel_rfl) (by kernel_rfl) ?_
 intro e0 cx
 refine sq<|rG cx [1] [1] z0<|sn<|sq<|rA cx [2] [] (fT (con95 (p) (by (with_reducible assumption))) (fT (con46 (p) (normP p) (by (with_reducible assumption)) (by omega)) (oA 2 (.agg [.sl (List.map c3 (normP p).vec),.sl (List.map c104 (normP p).cloud)]) (oA 3 (.b (decide (p=normP p))) z0))))<|sn<|rT ?_
 exact q_ret (r:=.b (decide (p=normP p))) (obl:=[]) (by kernel_rfl) trivial (AVle.refl _)
end Go.Proofs.YtaiepnaokhpmcaaGreat
namespace Go.Proofs.YtaiepnaokhpmcaaGreat
open Go.E
set_option maxRecDepth 100000
set_option maxHeartbeats 4000000
def isMe (x y:List Run) (i j:Int) (o:List Run):Prop:=o++meetL (x.drop i.toNat) (y.drop j.toNat)=meetL x y
def invMe (x y:List Run) (i j:Int) (o:List Run):Prop:=0≤i∧i≤x.length∧0≤j∧j≤y.length∧(o.length:Int)≤i+j∧isMe x y i j o
def decMe (x y:List Run) (i j:Int) (o:List Run):Nat:=(x.length-i+(y.length-j)).toNat
theorem dropR {a:List Run} {i:Int} (h0:0≤i) (h:i < a.length):a.drop i.toNat=a[i.toNat]! :: a.drop (i+1).toNat:=by
 rw [show (i+1).toNat=i.toNat+1 by omega,getElem!_pos a i.toNat (by omega)]
 exact List.drop_eq_getElem_cons (by omega)
theorem dropRn {a:List Run} {i:Int} (h:¬ i < a.length):a.drop i.toNat=[]:=List.drop_of_length_le (by omega)
theorem me_step {x y o:List Run} {i j:Int} (h0:0≤i) (hi:i < x.length) (j0:0≤j) (hj:j < y.length) (h:isMe x y i j o) :
  (o++if max x[i.toNat]!.lo y[j.toNat]!.lo≤min x[i.toNat]!.hi y[j.toNat]!.hi then [⟨max x[i.toNat]!.lo y[j.toNat]!.lo,min x[i.toNat]!.hi y[j.toNat]!.hi⟩] else []) ++
   (if x[i.toNat]!.hi < y[j.toNat]!.hi then meetL (x.drop (i+1).toNat) (y.drop j.toNat) else meetL (x.drop i.toNat) (y.drop (j+1).toNat))=meetL x y:=by
 unfold isMe at h
 rw [← h,dropR h0 hi,dropR j0 hj,meetL_cons,List.append_assoc]
theorem me_in1 {x y o:List Run} {i j:Int} (h0:0≤i) (hi:i < x.length) (j0:0≤j) (hj:j < y.length) (h:isMe x y i j o) (c:max x[i.toNat]!.lo y[j.toNat]!.lo≤min x[i.toNat]!.hi y[j.toNat]!.hi) (d:x[i.toNat]!.hi < y[j.toNat]!.hi) :
  isMe x y (i+1) j (o++[⟨max x[i.toNat]!.lo y[j.toNat]!.lo,min x[i.toNat]!.hi y[j.toNat]!.hi⟩]):=by
 have:=me_step h0 hi j0 hj h
 rw [if_pos c,if_pos d] at this
 exact this
theorem me_in2 {x y o:List Run} {i j:Int} (h0:0≤i) (hi:i < x.length) (j0:0≤j) (hj:j < y.length) (h:isMe x y i j o) (c:max x[i.toNat]!.lo y[j.toNat]!.lo≤min x[i.toNat]!.hi y[j.toNat]!.hi) (d:¬ x[i.toNat]!.hi < y[j.toNat]!.hi) :
  isMe x y i (j+1) (o++[⟨max x[i.toNat]!.lo y[j.toNat]!.lo,min x[i.toNat]!.hi y[j.toNat]!.hi⟩]):=by
 have:=me_step h0 hi j0 hj h
 rw [if_pos c,if_neg d] at this
 exact this
theorem me_out1 {x y o:List Run} {i j:Int} (h0:0≤i) (hi:i < x.length) (j0:0≤j) (hj:j < y.length) (h:isMe x y i j o) (c:¬ max x[i.toNat]!.lo y[j.toNat]!.lo≤min x[i.toNat]!.hi y[j.toNat]!.hi) (d:x[i.toNat]!.hi < y[j.toNat]!.hi):isMe x y (i+1) j o:=by
 have:=me_step h0 hi j0 hj h
 rw [if_neg c,if_pos d,List.append_nil] at this
 exact this
theorem me_out2 {x y o:List Run} {i j:Int} (h0:0≤i) (hi:i < x.length) (j0:0≤j) (hj:j < y.length) (h:isMe x y i j o) (c:¬ max x[i.toNat]!.lo y[j.toNat]!.lo≤min x[i.toNat]!.hi y[j.toNat]!.hi) (d:¬ x[i.toNat]!.hi < y[j.toNat]!.hi):isMe x y i (j+1) o:=by
 have:=me_step h0 hi j0 hj h
 rw [if_neg c,if_neg d,List.append_nil] at this
 exact this
theorem me_end {x y o:List Run} {i j:Int} (hn:¬ (i < x.length∧j < y.length)) (h:isMe x y i j o):o=meetL x y:=by
 unfold isMe at h
 by_cases hi:i < x.length
 ·rw [dropRn (a:=y) (i:=j) (fun k=>hn ⟨hi,k⟩),meetL_nil2,List.append_nil] at h
  exact h
 ·rw [dropRn hi,meetL_nil,List.append_nil] at h
  exact h
theorem me_start (x y:List Run):isMe x y 0 0 []:=rfl
def isOt (n:List Run) (x i:Int) (o:List Run):Prop:=o++othL x (n.drop i.toNat)=othL 1 n
def invOt (n:List Run) (x i:Int) (o:List Run):Prop:=0≤i∧i≤n.length∧(o.length:Int)≤i∧1≤x∧x≤1000000001∧isOt n x i o
def decOt (n:List Run) (x i:Int) (o:List Run):Nat:=(n.length-i).toNat
theorem ot_in {n o:List Run} {x i:Int} (h0:0≤i) (hi:i < n.length) (h:isOt n x i o) (c:x < n[i.toNat]!.lo):isOt n (n[i.toNat]!.hi+1) (i+1) (o++[⟨x,n[i.toNat]!.lo-1⟩]):=by
 unfold isOt at *
 rw [dropR h0 hi,othL,if_pos c,← List.append_assoc] at h
 exact h
theorem ot_out {n o:List Run} {x i:Int} (h0:0≤i) (hi:i < n.length) (h:isOt n x i o) (c:¬ x < n[i.toNat]!.lo):isOt n (n[i.toNat]!.hi+1) (i+1) o:=by
 unfold isOt at *
 rw [dropR h0 hi,othL,if_neg c,List.nil_append] at h
 exact h
theorem ot_end1 {n o:List Run} {x i:Int} (hi:¬ i < n.length) (h:isOt n x i o) (c:x≤1000000000):o++[⟨x,1000000000⟩]=othL 1 n:=by
 unfold isOt at h
 rw [dropRn hi,othL,if_pos c] at h
 exact h
theorem ot_end2 {n o:List Run} {x i:Int} (hi:¬ i < n.length) (h:isOt n x i o) (c:¬ x≤1000000000):o=othL 1 n:=by
 unfold isOt at h
 rw [dropRn hi,othL,if_neg c,List.append_nil] at h
 exact h
def isEa (A B:Nat→List Run) (r:Int) (T:Nat→List Run):Prop:=∀ k:Nat,k < 16→T k=if (k:Int) < r then minR (A k) (B k) else A k
def invEa (A B:Nat→List Run) (r:Int) (T U:Nat→List Run):Prop:=U=B∧0≤r∧r≤16∧isEa A B r T
def decEa (r:Int) (T U:Nat→List Run):Nat:=(16-r).toNat
theorem ea_start (A B:Nat→List Run):isEa A B 0 A:=fun k _=>by rw [if_neg (by omega)]
theorem ea_at {A B T:Nat→List Run} {r:Int} (h0:0≤r) (h1:r < 16) (h:isEa A B r T):T r.toNat=A r.toNat:=by
 rw [h r.toNat (by omega),if_neg (by omega)]
theorem ea_next {A B T:Nat→List Run} {r:Int} (h0:0≤r) (h1:r < 16) (h:isEa A B r T):isEa A B (r+1) (updF T r.toNat (minR (T r.toNat) (B r.toNat))):=by
 intro k hk
 unfold updF
 by_cases e:k=r.toNat
 ·subst e
  rw [if_pos rfl,if_pos (by omega),ea_at h0 h1 h]
 ·rw [if_neg e,h k hk]
  by_cases c:(k:Int) < r
  ·rw [if_pos c,if_pos (by omega)]
  ·rw [if_neg c,if_neg (by omega)]
theorem ea_end {A B T:Nat→List Run} {r:Int} (hr:r≤16) (h1:¬ r < 16) (h:isEa A B r T):tabP T=tabP fun k=>minR (A k) (B k):=tabP_congr fun k hk=>by
 rw [h k hk,if_pos (by omega)]
theorem con184 (a b:List Run) (ha:a.length*16≤140737488351232) (hb:b.length*16≤140737488351232):Con Tryz.prog 184 [.sl (a.map c154),.sl (b.map c154)] (.sl ((metR a b).map c154)) :=
 by
 have h1:=sepR_len (nrm_sep a)
 have h2:=sepR_len (nrm_sep b)
 refine con_lens 0 (c154) (a) (by kernel_rfl) Go.Proofs.Tryz.func184 (by kernel_rfl) fun hl_0=>con_lens 1 (c154) (b) (by kernel_rfl) Go.Proofs.Tryz.func184 (by kernel_rfl) fun hl_1=>st_con tab_ok (by kernel_rfl) [.tmp 4] 73 Go.Proofs.Tryz.func184 (by kernel_rfl) (by kernel_rfl) ?_
 intro e0 cx
 refine sq<|rG cx [0,1] [] z0<|sn<|sq ?_
 have hl_0:=(rng_nrm a)
 have hl_1:=(rng_nrm b)
 refine rG cx [5,6] [] (fT (con182 (a) (by (with_reducible assumption))) (fT (con182 (b) (by (with_reducible assumption))) (oA 1 (.sl (List.map c154 (nrm a))) (oA 3 (.sl (List.map c154 (nrm b))) z0))))<|sn<|sq<|rG cx [5,6,7] [] z0<|sn<|sq<|sq<|rG cx [5,6,7,8,9] [] z0<|sn<|bL 0<|awp_adopt 7 1007 154 2 (σ':=⟨[(5,.sl (List.map c154 (nrm a))),(6,.sl (List.map c154 (nrm b))),(7,.own 1007 0),(8,.i .i64 ((0:Int))),(9,.i .i64 ((0:Int)))],[(1007,⟨0,154,.row 2 (List.map c154 [])⟩)]⟩) (by kernel_rfl)<|st_loop (X:=Int×Int×List Run) (fun x=>⟨[(5,.sl (List.map c154 (nrm a))),(6,.sl (List.map c154 (nrm b))),(7,.own 1007 0),(8,.i .i64 (x.1)),(9,.i .i64 (x.2.1))],[(1007,⟨0,154,.row 2 (List.map c154 x.2.2)⟩)]⟩) (fun x ↦ decMe (nrm a) (nrm b) x.1 x.2.1 x.2.2) (fun x ↦ invMe (nrm a) (nrm b) x.1 x.2.1 x.2.2) [5,6,7,8,9] [1007] (((0:Int),(0:Int),[])) (by kernel_rfl) (by kernel_rfl) (show invMe (nrm a) (nrm b) (0:Int) (0:Int) [] from ?g0) ?_;rotate_left
 rintro ⟨i2,j3,o4⟩ h_5
 obtain ⟨h6,h7,h8,h9,h10,h11⟩:(0:Int)≤i2∧i2≤(↑(nrm a).length:Int)∧(0:Int)≤j3∧j3≤(↑(nrm b).length:Int)∧(↑o4.length:Int)≤i2+j3∧isMe (nrm a) (nrm b) i2 j3 o4:=h_5
 refine sq<|sq<|st_join (σ':=⟨[(5,.sl (List.map c154 (nrm a))),(6,.sl (List.map c154 (nrm b))),(7,.own 1007 0),(8,.i .i64 (i2)),(9,.i .i64 (j3)),(24,.b (decide (i2 < (↑(nrm a).length:Int)∧j3 < (↑(nrm b).length:Int))))],[(1007,⟨0,154,.row 2 (List.map c154 o4)⟩)]⟩) ?_ ?_
 refine st_split (i2 < (↑(nrm a).length:Int)) (fun h_13=>?_) (fun h_13=>?_)
 refine rG cx [5,6,7,8,9,24] [1007] (tL 2 c154 (nrm a) (tT 3 (told_true h_13) (tL 7 c154 (nrm b) (tB 8 (j3 < (↑(nrm b).length:Int)) (tD 9 (decide (j3 < (↑(nrm b).length:Int))) (i2 < (↑(nrm a).length:Int)∧j3 < (↑(nrm b).length:Int)) (by simp only [eq_true h_13,tsl]) z0))))) ?_
 exact ⟨rfl,by kernel_rfl⟩
 refine rG cx [5,6,7,8,9,24] [1007] (tL 2 c154 (nrm a) (tT 3 (told_false h_13) (tD 9 false (i2 < (↑(nrm a).length:Int)∧j3 < (↑(nrm b).length:Int)) (by simp only [eq_false h_13,tsl]) z0))) ?_
 exact ⟨rfl,by kernel_rfl⟩
 refine sn<|dC (i2 < (↑(nrm a).length:Int)∧j3 < (↑(nrm b).length:Int)) (fun h14=>?_) fun h14=>?_
 refine sK<|sn<|bL 1<|sq<|rA cx [5,6,7,8,9,10] [1007,10] (fA ((0:Int)≤i2) (fG c154 (nrm a) i2.toNat (fR (2:Nat) (fA ((0:Int)≤j3) (fG c154 (nrm b) j3.toNat (fR (2:Nat) (tT 10 (told_max:AV.i .i64 (if (nrm b)[j3.toNat]!.lo > (nrm a)[i2.toNat]!.lo then (nrm b)[j3.toNat]!.lo else (nrm a)[i2.toNat]!.lo)=AV.i .i64 (max (nrm a)[i2.toNat]!.lo (nrm b)[j3.toNat]!.lo)) (fA ((0:Int)≤i2) (fG c154 (nrm a) i2.toNat (fR (2:Nat) (fA ((0:Int)≤j3) (fG c154 (nrm b) j3.toNat (fR (2:Nat) (tT 21 (told_min:AV.i .i64 (if (nrm b)[j3.toNat]!.hi < (nrm a)[i2.toNat]!.hi then (nrm b)[j3.toNat]!.hi else (nrm a)[i2.toNat]!.hi)=AV.i .i64 (min (nrm a)[i2.toNat]!.hi (nrm b)[j3.toNat]!.hi)) (oR 2 (c154 (nrm a)[i2.toNat]!) (oR 7 (c154 (nrm b)[j3.toNat]!) (oR 13 (c154 (nrm a)[i2.toNat]!) (oR 18 (c154 (nrm b)[j3.toNat]!) z0))))))))))))))))))<|sn<|sq<|sq<|rG cx [5,6,7,8,9,10,52] [1007,10] (tB 4 (max (nrm a)[i2.toNat]!.lo (nrm b)[j3.toNat]!.lo≤min (nrm a)[i2.toNat]!.hi (nrm b)[j3.toNat]!.hi) z0)<|sn<|dC (max (nrm a)[i2.toNat]!.lo (nrm b)[j3.toNat]!.lo≤min (nrm a)[i2.toNat]!.hi (nrm b)[j3.toNat]!.hi) (fun h15=>?_) fun h15=>?_
 refine rG cx [5,6,7,8,9] [1007] (fR (154:Nat) (fR 2 (fR (2:Nat) (fX c154 [{ lo:=max (nrm a)[i2.toNat]!.lo (nrm b)[j3.toNat]!.lo,hi:=min (nrm a)[i2.toNat]!.hi (nrm b)[j3.toNat]!.hi:Run }] 2 (fS c154 o4 c154 [{ lo:=max (nrm a)[i2.toNat]!.lo (nrm b)[j3.toNat]!.lo,hi:=min (nrm a)[i2.toNat]!.hi (nrm b)[j3.toNat]!.hi:Run }] (fP (((List.map c154 o4).length+(List.map c154 [{ lo:=max (nrm a)[i2.toNat]!.lo (nrm b)[j3.toNat]!.lo,hi:=min (nrm a)[i2.toNat]!.hi (nrm b)[j3.toNat]!.hi:Run }]).length)*(16:Nat)≤(140737488355328:Nat)) ?g1 (fM c154 o4 [{ lo:=max (nrm a)[i2.toNat]!.lo (nrm b)[j3.toNat]!.lo,hi:=min (nrm a)[i2.toNat]!.hi (nrm b)[j3.toNat]!.hi:Run }] (oV 3 { rows:=some (List.map c154 (o4++[{ lo:=max (nrm a)[i2.toNat]!.lo (nrm b)[j3.toNat]!.lo,hi:=min (nrm a)[i2.toNat]!.hi (nrm b)[j3.toNat]!.hi:Run }])) } z0)))))))) ?_;rotate_left
 refine sn<|sq<|rA cx [5,6,7,8,9,67] [1007] (fA ((0:Int)≤i2) (fG c154 (nrm a) i2.toNat (fR (2:Nat) (fA ((0:Int)≤j3) (fG c154 (nrm b) j3.toNat (fR (2:Nat) (tB 10 ((nrm a)[i2.toNat]!.hi < (nrm b)[j3.toNat]!.hi) (oR 2 (c154 (nrm a)[i2.toNat]!) (oR 7 (c154 (nrm b)[j3.toNat]!) z0)))))))))<|sn<|dC ((nrm a)[i2.toNat]!.hi < (nrm b)[j3.toNat]!.hi) (fun h16=>?_) fun h16=>?_
 refine rG cx [5,6,7,8,9] [1007] (tW 1 (i2+(1:Int)) z0)<|bN<|sn<|loop_next ((i2+(1:Int),j3,o4++[{ lo:=max (nrm a)[i2.toNat]!.lo (nrm b)[j3.toNat]!.lo,hi:=min (nrm a)[i2.toNat]!.hi (nrm b)[j3.toNat]!.hi:Run }])) (by kernel_rfl) (show ((↑(nrm a).length:Int)-(i2+(1:Int))+((↑(nrm b).length:Int)-j3)).toNat < ((↑(nrm a).length:Int)-i2+((↑(nrm b).length:Int)-j3)).toNat from (by omega)) (show invMe (nrm a) (nrm b) (i2+(1:Int)) j3 (o4++[{ lo:=max (nrm a)[i2.toNat]!.lo (nrm b)[j3.toNat]!.lo,hi:=min (nrm a)[i2.toNat]!.hi (nrm b)[j3.toNat]!.hi:Run }]) from ?g2);rotate_left
 refine rG cx [5,6,7,8,9] [1007] (tW 1 (j3+(1:Int)) z0)<|bN<|sn<|loop_next ((i2,j3+(1:Int),o4++[{ lo:=max (nrm a)[i2.toNat]!.lo (nrm b)[j3.toNat]!.lo,hi:=min (nrm a)[i2.toNat]!.hi (nrm b)[j3.toNat]!.hi:Run }])) (by kernel_rfl) (show ((↑(nrm a).length:Int)-i2+((↑(nrm b).length:Int)-(j3+(1:Int)))).toNat < ((↑(nrm a).length:Int)-i2+((↑(nrm b).length:Int)-j3)).toNat from (by omega)) (show invMe (nrm a) (nrm b) i2 (j3+(1:Int)) (o4++[{ lo:=max (nrm a)[i2.toNat]!.lo (nrm b)[j3.toNat]!.lo,hi:=min (nrm a)[i2.toNat]!.hi (nrm b)[j3.toNat]!.hi:Run }]) from ?g3);rotate_left
 refine sK<|sn<|sq<|rA cx [5,6,7,8,9,67] [1007] (fA ((0:Int)≤i2) (fG c154 (nrm a) i2.toNat (fR (2:Nat) (fA ((0:Int)≤j3) (fG c154 (nrm b) j3.toNat (fR (2:Nat) (tB 10 ((nrm a)[i2.toNat]!.hi < (nrm b)[j3.toNat]!.hi) (oR 2 (c154 (nrm a)[i2.toNat]!) (oR 7 (c154 (nrm b)[j3.toNat]!) z0)))))))))<|sn<|dC ((nrm a)[i2.toNat]!.hi < (nrm b)[j3.toNat]!.hi) (fun h17=>?_) fun h17=>?_
 refine rG cx [5,6,7,8,9] [1007] (tW 1 (i2+(1:Int)) z0)<|bN<|sn<|loop_next ((i2+(1:Int),j3,o4)) (by kernel_rfl) (show ((↑(nrm a).length:Int)-(i2+(1:Int))+((↑(nrm b).length:Int)-j3)).toNat < ((↑(nrm a).length:Int)-i2+((↑(nrm b).length:Int)-j3)).toNat from (by omega)) (show invMe (nrm a) (nrm b) (i2+(1:Int)) j3 o4 from ?g4);rotate_left
 refine rG cx [5,6,7,8,9] [1007] (tW 1 (j3+(1:Int)) z0)<|bN<|sn<|loop_next ((i2,j3+(1:Int),o4)) (by kernel_rfl) (show ((↑(nrm a).length:Int)-i2+((↑(nrm b).length:Int)-(j3+(1:Int)))).toNat < ((↑(nrm a).length:Int)-i2+((↑(nrm b).length:Int)-j3)).toNat from (by omega)) (show invMe (nrm a) (nrm b) i2 (j3+(1:Int)) o4 from ?g5);rotate_left
 refine eX 0<|nE<|nE<|bH<|sn<|sq<|rG cx [4] [1007] z0<|sn<|rT<|qR (.sl (List.map c154 o4)) (.eq ?g6);rotate_left
 rotate_left
 revert i2 j3 o4 h6 h7 h8 h9 h10 h11 h14 h15;rotate_left
 revert i2 j3 o4 h6 h7 h8 h9 h10 h11 h14 h15 h16;rotate_left
 revert i2 j3 o4 h6 h7 h8 h9 h10 h11 h14 h15 h16;rotate_left
 revert i2 j3 o4 h6 h7 h8 h9 h10 h11 h14 h15 h17;rotate_left
 revert i2 j3 o4 h6 h7 h8 h9 h10 h11 h14 h15 h17;rotate_left
 revert i2 j3 o4 h6 h7 h8 h9 h10 h11 h14;rotate_left
 case g0=>exact ⟨by omega,by omega,by omega,by omega,by simp,me_start _ _⟩
 case g1=>intro i j o k0 k1 k2 k3 k4 k5 k6 k7;simp only [List.length_map,List.length_cons,List.length_nil];omega
 case g2=>intro i j o k0 k1 k2 k3 k4 k5 k6 k7 k8;exact ⟨by omega,by omega,by omega,by omega,by simp only [List.length_append,List.length_cons,List.length_nil];omega,me_in1 k0 k6.1 k2 k6.2 k5 k7 k8⟩
 case g3=>intro i j o k0 k1 k2 k3 k4 k5 k6 k7 k8;exact ⟨by omega,by omega,by omega,by omega,by simp only [List.length_append,List.length_cons,List.length_nil];omega,me_in2 k0 k6.1 k2 k6.2 k5 k7 k8⟩
 case g4=>intro i j o k0 k1 k2 k3 k4 k5 k6 k7 k8;exact ⟨by omega,by omega,by omega,by omega,by omega,me_out1 k0 k6.1 k2 k6.2 k5 k7 k8⟩
 case g5=>intro i j o k0 k1 k2 k3 k4 k5 k6 k7 k8;exact ⟨by omega,by omega,by omega,by omega,by omega,me_out2 k0 k6.1 k2 k6.2 k5 k7 k8⟩
 case g6=>intro i j o k0 k1 k2 k3 k4 k5 k6;rw [me_end k6 k5];rfl
theorem con185 (n:List Run) (hn:sepR n):Con Tryz.prog 185 [.sl (n.map c154)] (.sl ((othL 1 n).map c154)) :=
 by
 have h1:=sepR_len hn
 have hr:∀ i:Int,0≤i→i < n.length→1≤n[i.toNat]!.lo∧n[i.toNat]!.lo≤n[i.toNat]!.hi∧n[i.toNat]!.hi≤1000000000:=fun i h0 h1=>hn.2 _ (bang_in (by omega))
 refine con_lens 0 (c154) (n) (by kernel_rfl) Go.Proofs.Tryz.func185 (by kernel_rfl) fun hl_0=>st_con tab_ok (by kernel_rfl) [.tmp 2] 37 Go.Proofs.Tryz.func185 (by kernel_rfl) (by kernel_rfl) ?_
 intro e0 cx
 refine sq<|rG cx [0] [] z0<|sn<|sq<|rG cx [0,3] [] z0<|sn<|sq<|rG cx [0,3,4] [] z0<|sn<|sq<|sq<|rG cx [3,4,7,8,9] [] (tL 1 c154 n z0)<|sn<|bL 0<|awp_adopt 3 1003 154 2 (σ':=⟨[(3,.own 1003 0),(4,.i .i64 ((1:Int))),(7,.sl (List.map c154 n)),(8,.i .i64 ((↑n.length:Int))),(9,.i .i64 ((0:Int)))],[(1003,⟨0,154,.row 2 (List.map c154 [])⟩)]⟩) (by kernel_rfl)<|st_loop (X:=Int×Int×List Run) (fun x=>⟨[(3,.own 1003 0),(4,.i .i64 (x.1)),(7,.sl (List.map c154 n)),(8,.i .i64 ((↑n.length:Int))),(9,.i .i64 (x.2.1))],[(1003,⟨0,154,.row 2 (List.map c154 x.2.2)⟩)]⟩) (fun x ↦ decOt n x.1 x.2.1 x.2.2) (fun x ↦ invOt n x.1 x.2.1 x.2.2) [3,4,7,8,9] [1003] (((1:Int),(0:Int),[])) (by kernel_rfl) (by kernel_rfl) (show invOt n (1:Int) (0:Int) [] from ?g0) ?_;rotate_left
 rintro ⟨x0,i1,o2⟩ h_3
 obtain ⟨h4,h5,h6,h7,h8,h9⟩:(0:Int)≤i1∧i1≤(↑n.length:Int)∧(↑o2.length:Int)≤i1∧(1:Int)≤x0∧x0≤(1000000001:Int)∧isOt n x0 i1 o2:=h_3
 refine sq<|rG cx [3,4,7,8,9,10] [1003] (tB 0 (i1 < (↑n.length:Int)) z0)<|sn<|sq<|dC (i1 < (↑n.length:Int)) (fun h10=>?_) fun h10=>?_
 refine sK<|sn<|sq<|bL 1<|sq<|rG cx [3,4,7,8,9,6] [1003,6] (fA ((0:Int)≤i1) (fG c154 n i1.toNat (fR (2:Nat) (fN 2 2 (oR 0 (c154 n[i1.toNat]!) z0)))))<|sn<|sq<|sq<|rG cx [3,4,7,8,9,6,16] [1003,6] (tB 3 (x0 < n[i1.toNat]!.lo) z0)<|sn<|dC (x0 < n[i1.toNat]!.lo) (fun h11=>?_) fun h11=>?_
 refine rG cx [3,7,8,9,6] [1003,6] (tT 4 (told_i64 (by omega) ?g1:AV.i .i64 (IntKind.i64.wrap (n[i1.toNat]!.lo-(1:Int)))=AV.i .i64 (n[i1.toNat]!.lo-(1:Int))) (fR (154:Nat) (fR 2 (fR (2:Nat) (fX c154 [{ lo:=x0,hi:=n[i1.toNat]!.lo-(1:Int):Run }] 2 (fS c154 o2 c154 [{ lo:=x0,hi:=n[i1.toNat]!.lo-(1:Int):Run }] (fP (((List.map c154 o2).length+(List.map c154 [{ lo:=x0,hi:=n[i1.toNat]!.lo-(1:Int):Run }]).length)*(16:Nat)≤(140737488355328:Nat)) ?g2 (fM c154 o2 [{ lo:=x0,hi:=n[i1.toNat]!.lo-(1:Int):Run }] (oV 7 { rows:=some (List.map c154 (o2++[{ lo:=x0,hi:=n[i1.toNat]!.lo-(1:Int):Run }])) } z0))))))))) ?_;rotate_left 2
 refine sn<|rG cx [3,7,8,9,4] [1003] (tT 2 (told_i64 ?g3 ?g4:AV.i .i64 (IntKind.i64.wrap (n[i1.toNat]!.hi+(1:Int)))=AV.i .i64 (n[i1.toNat]!.hi+(1:Int))) z0) ?_;rotate_left 2
 refine bN<|sn<|rG cx [3,7,8,9,4] [1003] (tW 0 (i1+(1:Int)) z0)<|sn<|loop_next ((n[i1.toNat]!.hi+(1:Int),i1+(1:Int),o2++[{ lo:=x0,hi:=n[i1.toNat]!.lo-(1:Int):Run }])) (by kernel_rfl) (show ((↑n.length:Int)-(i1+(1:Int))).toNat < ((↑n.length:Int)-i1).toNat from (by omega)) (show invOt n (n[i1.toNat]!.hi+(1:Int)) (i1+(1:Int)) (o2++[{ lo:=x0,hi:=n[i1.toNat]!.lo-(1:Int):Run }]) from ?g5);rotate_left
 refine sK<|sn<|rG cx [3,4,7,8,9] [1003] (tT 2 (told_i64 ?g6 ?g7:AV.i .i64 (IntKind.i64.wrap (n[i1.toNat]!.hi+(1:Int)))=AV.i .i64 (n[i1.toNat]!.hi+(1:Int))) z0) ?_;rotate_left 2
 refine bN<|sn<|rG cx [3,4,7,8,9] [1003] (tW 0 (i1+(1:Int)) z0)<|sn<|loop_next ((n[i1.toNat]!.hi+(1:Int),i1+(1:Int),o2)) (by kernel_rfl) (show ((↑n.length:Int)-(i1+(1:Int))).toNat < ((↑n.length:Int)-i1).toNat from (by omega)) (show invOt n (n[i1.toNat]!.hi+(1:Int)) (i1+(1:Int)) o2 from ?g8);rotate_left
 refine eX 0<|nE<|nE<|bH<|sn<|sq<|sq<|rG cx [3,4,30] [1003] (tB 1 (x0≤(1000000000:Int)) z0)<|sn<|dC (x0≤(1000000000:Int)) (fun h12=>?_) fun h12=>?_
 refine rG cx [3] [1003] (fR (154:Nat) (fR 2 (fR (2:Nat) (fX c154 [{ lo:=x0,hi:=(1000000000:Int):Run }] 2 (fP ((List.map c154 o2).length+(List.map c154 [{ lo:=x0,hi:=(1000000000:Int):Run }]).length≤maxLen) ?g9 (fP (((List.map c154 o2).length+(List.map c154 [{ lo:=x0,hi:=(1000000000:Int):Run }]).length)*(16:Nat)≤(140737488355328:Nat)) ?g10 (fM c154 o2 [{ lo:=x0,hi:=(1000000000:Int):Run }] (oV 4 { rows:=some (List.map c154 (o2++[{ lo:=x0,hi:=(1000000000:Int):Run }])) } z0)))))))) ?_;rotate_left 2
 refine sn<|sq<|rG cx [2] [1003] z0<|sn<|rT<|qR (.sl (List.map c154 (o2++[{ lo:=x0,hi:=(1000000000:Int):Run }]))) (.eq ?g11);rotate_left
 refine sK<|sn<|sq<|rG cx [2] [1003] z0<|sn<|rT<|qR (.sl (List.map c154 o2)) (.eq ?g12);rotate_left
 rotate_left
 revert x0 i1 o2 h4 h5 h6 h7 h8 h9 h10 h11;rotate_left
 revert x0 i1 o2 h4 h5 h6 h7 h8 h9 h10 h11;rotate_left
 revert x0 i1 o2 h4 h5 h6 h7 h8 h9 h10 h11;rotate_left
 revert x0 i1 o2 h4 h5 h6 h7 h8 h9 h10 h11;rotate_left
 revert x0 i1 o2 h4 h5 h6 h7 h8 h9 h10 h11;rotate_left
 revert x0 i1 o2 h4 h5 h6 h7 h8 h9 h10 h11;rotate_left
 revert x0 i1 o2 h4 h5 h6 h7 h8 h9 h10 h11;rotate_left
 revert x0 i1 o2 h4 h5 h6 h7 h8 h9 h10 h11;rotate_left
 revert x0 i1 o2 h4 h5 h6 h7 h8 h9 h10 h12;rotate_left
 revert x0 i1 o2 h4 h5 h6 h7 h8 h9 h10 h12;rotate_left
 revert x0 i1 o2 h4 h5 h6 h7 h8 h9 h10 h12;rotate_left
 revert x0 i1 o2 h4 h5 h6 h7 h8 h9 h10 h12;rotate_left
 case g0=>exact ⟨by omega,by omega,by simp,by omega,by omega,rfl⟩
 case g5=>intro x i o k0 k1 k2 k3 k4 k5 k6 k7;have:=hr i k0 k6;exact ⟨by omega,by omega,by simp only [List.length_append,List.length_cons,List.length_nil];omega,by omega,by omega,ot_in k0 k6 k5 k7⟩
 case g8=>intro x i o k0 k1 k2 k3 k4 k5 k6 k7;have:=hr i k0 k6;exact ⟨by omega,by omega,by omega,by omega,by omega,ot_out k0 k6 k5 k7⟩
 case g2=>intro x i o k0 k1 k2 k3 k4 k5 k6 k7;simp only [List.length_map,List.length_cons,List.length_nil];omega
 case g9=>intro x i o k0 k1 k2 k3 k4 k5 k6 k7;simp only [List.length_map,List.length_cons,List.length_nil,Go.maxLen];omega
 case g10=>intro x i o k0 k1 k2 k3 k4 k5 k6 k7;simp only [List.length_map,List.length_cons,List.length_nil];omega
 case g11=>intro x i o k0 k1 k2 k3 k4 k5 k6 k7;rw [ot_end1 k6 k5 k7]
 case g12=>intro x i o k0 k1 k2 k3 k4 k5 k6 k7;rw [ot_end2 k6 k5 k7]
 all_goals (intro x i o k0 k1 k2 k3 k4 k5 k6 k7;have:=hr i k0 k6;omega)
theorem con150 (a b:List Run) (ha:a.length*16≤140737488351232) (hb:b.length*16≤140737488351232):Con Tryz.prog 150 [.sl (a.map c154),.sl (b.map c154)] (.sl ((minR a b).map c154)) :=
 by
 have h2:=sepR_len (oth_sep b)
 refine con_lens 0 (c154) (a) (by kernel_rfl) Go.Proofs.Tryz.func150 (by kernel_rfl) fun hl_0=>con_lens 1 (c154) (b) (by kernel_rfl) Go.Proofs.Tryz.func150 (by kernel_rfl) fun hl_1=>st_con tab_ok (by kernel_rfl) [.tmp 4] 10 Go.Proofs.Tryz.func150 (by kernel_rfl) (by kernel_rfl) ?_
 intro e0 cx
 refine sq<|rG cx [0,1] [] z0<|sn<|sq ?_
 have hl_0:=(rng_nrm b)
 refine rG cx [4] [] (fT (con182 (b) (by (with_reducible assumption))) (fT (con185 (nrm b) ?g0) (fT (con184 (a) (othL (1:Int) (nrm b)) (by (with_reducible assumption)) ?g1) (oA 2 (.sl (List.map c154 (nrm b))) (oA 3 (.sl (List.map c154 (othL (1:Int) (nrm b)))) (oA 4 (.sl (List.map c154 (metR a (othL (1:Int) (nrm b))))) z0)))))) ?_;rotate_left 2
 refine sn<|rT<|qR (.sl (List.map c154 (metR a (othL (1:Int) (nrm b))))) (.eq ?g2);rotate_left
 case g0=>exact nrm_sep b
 case g1=>omega
 case g2=>rfl
theorem con149 (a b:Past) (ha:a.cloud.length*16≤140737488350000) (hb:b.cloud.length*16≤140737488350000):Con Tryz.prog 149 [.agg (c26 a),.agg (c26 b),.fn (.func 150) [] []] (.agg (c26 (minusP a b))) :=
 by
 refine st_con tab_ok (by kernel_rfl) [.cell 6 26] 38 Go.Proofs.Tryz.func149 (by kernel_rfl) (by kernel_rfl) ?_
 intro e0 cx
 refine sq<|rG cx [2,3,4,6] [3,4,6] z0<|sn<|sq<|rA cx [2,6,7,8] [6,12,15] (fT (con102 ([a]) ?g0) (fT (con102 ([b]) ?g1) (oV 2 { val:=some (.ptr ((152:Nat)) (0) (0) (0)),row:=(tabC c154 (16:Nat) (openT [a])) } (oV 5 { val:=some (.ptr ((152:Nat)) (0) (0) (0)),row:=(tabC c154 (16:Nat) (openT [b])) } z0)))) ?_;rotate_left 2
 refine sn<|sq<|sq<|rG cx [2,6,7,8,16] [6,12,15] z0<|sn<|bL 0<|st_loop (X:=Int×(Nat→List Run)×(Nat→List Run)) (fun x=>⟨[(2,.fn (Fn.func (150:FuncId)) [] []),(6,.ptr (6) (0) (0) (0)),(7,.ptr (12) (0) (0) (0)),(8,.ptr (15) (0) (0) (0)),(16,.i .i64 (x.1))],[(6,⟨0,26,.var [.nl,.nl]⟩),(12,⟨0,152,.arr (tabC c154 (16:Nat) x.2.1)⟩),(15,⟨0,152,.arr (tabC c154 (16:Nat) x.2.2)⟩)]⟩) (fun x ↦ decEa x.1 x.2.1 x.2.2) (fun x ↦ invEa (openT [a]) (openT [b]) x.1 x.2.1 x.2.2) [2,6,7,8,16] [6,12,15] (((0:Int),openT [a],openT [b])) (by kernel_rfl) (by kernel_rfl) (show invEa (openT [a]) (openT [b]) (0:Int) (openT [a]) (openT [b]) from ?g2) ?_;rotate_left
 rintro ⟨r0,T1,U2⟩ h_3
 obtain ⟨h4,h5,h6,h7⟩:U2=openT [b]∧(0:Int)≤r0∧r0≤(16:Int)∧isEa (openT [a]) (openT [b]) r0 T1:=h_3
 refine sq<|rG cx [2,6,7,8,16,17] [6,12,15] (tB 0 (r0 < (16:Int)) z0)<|sn<|sq<|dC (r0 < (16:Int)) (fun h8=>?_) fun h8=>?_
 refine sK<|sn<|sq<|bL 1<|sq<|rG cx [2,6,7,8,16,9] [6,12,15] z0<|sn<|rA cx [2,6,7,8,16] [6,12,15] (fA ((0:Int)≤r0) (fO (r0 < (↑(16:Nat):Int)) (fP ((tabC c154 (16:Nat) T1)[r0.toNat*(1:Nat)+0]?=some (AV.sl (List.map c154 (T1 r0.toNat)))) (by ((try simp only [Nat.mul_one,Nat.add_zero,Nat.zero_add]);with_reducible refine get_tabC ?_;omega)) (fA ((0:Int)≤r0) (fO (r0 < (↑(16:Nat):Int)) (fP ((tabC c154 (16:Nat) U2)[r0.toNat*(1:Nat)+0]?=some (AV.sl (List.map c154 (U2 r0.toNat)))) (by ((try simp only [Nat.mul_one,Nat.add_zero,Nat.zero_add]);with_reducible refine get_tabC ?_;omega)) (fT (con150 (T1 r0.toNat) (U2 r0.toNat) ?g3 ?g4) (fA ((0:Int)≤r0) (fO (r0 < (↑(16:Nat):Int)) (fP (r0.toNat*(1:Nat)+0 < (tabC c154 (16:Nat) T1).length) ?g5 (fR [(cellsA (AV.sl (List.map c154 (minR (T1 r0.toNat) (U2 r0.toNat))))).headD AV.dead] (fP ((tabC c154 (16:Nat) T1).set (r0.toNat*(1:Nat)+0) ((cellsA (AV.sl (List.map c154 (minR (T1 r0.toNat) (U2 r0.toNat))))).headD AV.dead)=tabC c154 (16:Nat) (updF T1 r0.toNat (minR (T1 r0.toNat) (U2 r0.toNat)))) (by ((try simp only [Nat.mul_one,Nat.add_zero,Nat.zero_add]);(with_reducible refine set_tabC' ?_);exact Eq.refl _)) (oR 7 [.sl (List.map c154 (T1 r0.toNat))] (oR 12 [.sl (List.map c154 (U2 r0.toNat))] (oA 13 (.sl (List.map c154 (minR (T1 r0.toNat) (U2 r0.toNat)))) (oV 16 { rows:=some [(tabC c154 (16:Nat) (updF T1 r0.toNat (minR (T1 r0.toNat) (U2 r0.toNat))))] } z0)))))))))))))))) ?_;rotate_left 3
 refine bN<|sn<|rG cx [2,6,7,8,16] [6,12,15] (tW 0 (r0+(1:Int)) z0)<|sn<|loop_next ((r0+(1:Int),updF T1 r0.toNat (minR (T1 r0.toNat) (U2 r0.toNat)),U2)) (by kernel_rfl) (show ((16:Int)-(r0+(1:Int))).toNat < ((16:Int)-r0).toNat from (by omega)) (show invEa (openT [a]) (openT [b]) (r0+(1:Int)) (updF T1 r0.toNat (minR (T1 r0.toNat) (U2 r0.toNat))) U2 from ?g6);rotate_left
 refine eX 0<|nE<|nE<|bH<|sn<|sq<|rG cx [6] [6] (fT (con103 (T1) ?g7) (oA 1 (.agg [.sl (List.map c3 (tabP T1).vec),.sl (List.map c104 (tabP T1).cloud)]) z0)) ?_;rotate_left
 refine sn<|rT<|qR (.agg [.sl (List.map c3 (tabP T1).vec),.sl (List.map c104 (tabP T1).cloud)]) (.eq ?g8);rotate_left
 rotate_left
 rotate_left
 rotate_left
 revert r0 T1 U2 h4 h5 h6 h7 h8;rotate_left
 revert r0 T1 U2 h4 h5 h6 h7 h8;rotate_left
 revert r0 T1 U2 h4 h5 h6 h7 h8;rotate_left
 revert r0 T1 U2 h4 h5 h6 h7 h8;rotate_left
 revert r0 T1 U2 h4 h5 h6 h7 h8;rotate_left
 revert r0 T1 U2 h4 h5 h6 h7 h8;rotate_left
 case g0=>exact tot_le ha
 case g1=>exact tot_le hb
 case g2=>exact ⟨rfl,by omega,by omega,ea_start _ _⟩
 case g3=>intro r T U k0 k1 k2 k3 k4;rw [ea_at k1 k4 k3];exact open_le ha _
 case g4=>intro r T U k0 k1 k2 k3 k4;subst k0;exact open_le hb _
 case g5=>intro r T U k0 k1 k2 k3 k4;rw [tabC_len];omega
 case g6=>intro r T U k0 k1 k2 k3 k4;subst k0;exact ⟨rfl,by omega,by omega,ea_next k1 k4 k3⟩
 case g7=>intro r T U k0 k1 k2 k3 k4 q hq;rw [k3 q hq,if_pos (by omega)];have:=minR_len (openT [a] q) (openT [b] q);omega
 case g8=>intro r T U k0 k1 k2 k3 k4;rw [ea_end k2 k4 k3];rfl
theorem con104 (a b:Past) (ha:a.cloud.length*16≤140737488350000) (hb:b.cloud.length*16≤140737488350000):Con Tryz.prog 104 [.agg (c26 a),.agg (c26 b)] (.agg (c26 (minusP a b))) :=
 by
 refine st_con tab_ok (by kernel_rfl) [.cell 4 26] 8 Go.Proofs.Tryz.func104 (by kernel_rfl) (by kernel_rfl) ?_
 intro e0 cx
 refine sq<|rG cx [2,3,4] [2,3,4] z0<|sn<|sq<|rG cx [4] [4] (fT (con149 (a) (b) (by (with_reducible assumption)) (by (with_reducible assumption))) (oA 2 (.agg [.sl (List.map c3 (minusP a b).vec),.sl (List.map c104 (minusP a b).cloud)]) z0))<|sn<|rT<|qR (.agg [.sl (List.map c3 (minusP a b).vec),.sl (List.map c104 (minusP a b).cloud)]) (.eq ?g0);rotate_left
 case g0=>exact rfl
theorem con55 (ps:List Past) (hb:totP ps*16≤140737488350000):Con Tryz.prog 55 [.sl (ps.map c26)] (.agg (c26 (joinP ps))) :=
 by
 have h2:=fun r=>openT_len r ps
 refine con_lens 0 (c26) (ps) (by kernel_rfl) Go.Proofs.Tryz.func55 (by kernel_rfl) fun hl_0=>st_con tab_ok (by kernel_rfl) [.cell 2 26] 6 Go.Proofs.Tryz.func55 (by kernel_rfl) (by kernel_rfl) ?_
 intro e0 cx
 refine sq<|rG cx [0,2] [2] z0<|sn<|sq<|rG cx [2] [2] (fT (con102 (ps) (by omega)) (fT (con103 (openT ps) ?g0) (oV 1 { val:=some (.ptr ((152:Nat)) (0) (0) (0)),row:=(tabC c154 (16:Nat) (openT ps)) } (oA 2 (.agg [.sl (List.map c3 (tabP (openT ps)).vec),.sl (List.map c104 (tabP (openT ps)).cloud)]) z0)))) ?_;rotate_left
 refine sn<|rT<|qR (.agg [.sl (List.map c3 (tabP (openT ps)).vec),.sl (List.map c104 (tabP (openT ps)).cloud)]) (.eq ?g1);rotate_left
 case g0=>intro r hr;have:=h2 r;omega
 case g1=>rfl
end Go.Proofs.YtaiepnaokhpmcaaGreat
namespace Go.Proofs.YtaiepnaokhpmcaaGreat
open Go.E
set_option maxRecDepth 100000
set_option maxHeartbeats 4000000
def invRs (U:Nat→List Run) (n r:Int) (S:Nat→List Int):Prop:=S=tnS U∧0≤r∧r≤16∧n=sizeT U r.toNat
def decRs (n r:Int) (S:Nat→List Int):Nat:=(16-r).toNat
def invRt (U:Nat→List Run) (r n0 n k:Int) (S:Nat→List Int):Prop:=S=tnS U∧0≤k∧k≤2*(U r.toNat).length∧2*(k / 2)=k∧n=n0+sizeR ((U r.toNat).take (k / 2).toNat)
def decRt (U:Nat→List Run) (r n k:Int) (S:Nat→List Int):Nat:=(2*(U r.toNat).length-k).toNat
theorem nrmT_U {T:Nat→List Run} (r:Nat):nrm (nrmT T r)=nrmT T r:=nrm_nrm _
theorem sizeT_nrm (T:Nat→List Run):∀ n:Nat,sizeT (nrmT T) n=sizeT T n
 | 0=>rfl
 | n+1=>by rw [sizeT,sizeT,sizeT_nrm T n,nrmT_U];rfl
theorem sizeR_two {l:List Run} {k:Int} (h0:0≤k) (he:2*(k / 2)=k) (h:k+1 < 2*l.length):sizeR (l.take ((k+2) / 2).toNat)=sizeR (l.take (k / 2).toNat)+(l[(k / 2).toNat]!.hi-l[(k / 2).toNat]!.lo+1):=by
 rw [show (k+2) / 2=k / 2+1 by omega]
 exact sizeR_next (by omega) (by omega)
theorem con108 (p:Past) (hb:p.cloud.length*16≤140737488350000):Con Tryz.prog 108 [.agg (c26 p)] (.i .i64 (sizeP p)) :=
 by
 have hl:∀ r,(nrmT (openT [p]) r).length≤500000000:=fun r=>sepR_len (nrm_sep _)
 have hz:∀ n,0≤sizeT (nrmT (openT [p])) n∧sizeT (nrmT (openT [p])) n≤n*1000000000:=sizeT_rng _
 have hk:∀ r n,0≤sizeR ((nrmT (openT [p]) r).take n)∧sizeR ((nrmT (openT [p]) r).take n)≤1000000000:=fun r n=>sizeR_rng (sepR_take (nrm_sep _) n)
 have hr:∀ (r:Nat) (k:Int),0≤k→k+1 < 2*(nrmT (openT [p]) r).length→1≤(nrmT (openT [p]) r)[(k / 2).toNat]!.lo∧(nrmT (openT [p]) r)[(k / 2).toNat]!.lo≤(nrmT (openT [p]) r)[(k / 2).toNat]!.hi∧(nrmT (openT [p]) r)[(k / 2).toNat]!.hi≤1000000000 :=
  fun r k h0 h1=>(nrm_sep _).2 _ (bang_in (by have h2:k+1 < 2*(nrm (openT [p] r)).length:=h1;omega))
 have ht:∀ r,(tnS (nrmT (openT [p])) r).length=2*(nrmT (openT [p]) r).length:=fun r=>turns_len _
 have hs:=sizeT_nrm (openT [p])
 have hU:∀ r,nrm (nrmT (openT [p]) r)=nrmT (openT [p]) r:=nrmT_U
 have hP:sizeP p=sizeT (nrmT (openT [p])) 16:=(sizeP_eq p).trans (hs 16).symm
 clear hs
 refine st_con tab_ok (by kernel_rfl) [.tmp 2] 42 Go.Proofs.Tryz.func108 (by kernel_rfl) (by kernel_rfl) ?_
 intro e0 cx
 refine sq<|rG cx [1] [1] z0<|sn<|sq<|rG cx [3] [3] (fT (con100 (p) (by (with_reducible assumption))) (oA 1 (.agg (tabC c3 (16:Nat) (tnS (nrmT (openT [p]))))) z0))<|sn<|sq<|rG cx [3,4] [3] z0<|sn<|sq<|sq<|rG cx [3,4,5] [3] z0<|sn<|bL 0<|awp_varArr 3 ⟨0,122,.var [.sl (List.map c3 (tnS (nrmT (openT [p])) (0))),.sl (List.map c3 (tnS (nrmT (openT [p])) (1))),.sl (List.map c3 (tnS (nrmT (openT [p])) (2))),.sl (List.map c3 (tnS (nrmT (openT [p])) (3))),.sl (List.map c3 (tnS (nrmT (openT [p])) (4))),.sl (List.map c3 (tnS (nrmT (openT [p])) (5))),.sl (List.map c3 (tnS (nrmT (openT [p])) (6))),.sl (List.map c3 (tnS (nrmT (openT [p])) (7))),.sl (List.map c3 (tnS (nrmT (openT [p])) (8))),.sl (List.map c3 (tnS (nrmT (openT [p])) (9))),.sl (List.map c3 (tnS (nrmT (openT [p])) (10))),.sl (List.map c3 (tnS (nrmT (openT [p])) (11))),.sl (List.map c3 (tnS (nrmT (openT [p])) (12))),.sl (List.map c3 (tnS (nrmT (openT [p])) (13))),.sl (List.map c3 (tnS (nrmT (openT [p])) (14))),.sl (List.map c3 (tnS (nrmT (openT [p])) (15)))]⟩ [.sl (List.map c3 (tnS (nrmT (openT [p])) (0))),.sl (List.map c3 (tnS (nrmT (openT [p])) (1))),.sl (List.map c3 (tnS (nrmT (openT [p])) (2))),.sl (List.map c3 (tnS (nrmT (openT [p])) (3))),.sl (List.map c3 (tnS (nrmT (openT [p])) (4))),.sl (List.map c3 (tnS (nrmT (openT [p])) (5))),.sl (List.map c3 (tnS (nrmT (openT [p])) (6))),.sl (List.map c3 (tnS (nrmT (openT [p])) (7))),.sl (List.map c3 (tnS (nrmT (openT [p])) (8))),.sl (List.map c3 (tnS (nrmT (openT [p])) (9))),.sl (List.map c3 (tnS (nrmT (openT [p])) (10))),.sl (List.map c3 (tnS (nrmT (openT [p])) (11))),.sl (List.map c3 (tnS (nrmT (openT [p])) (12))),.sl (List.map c3 (tnS (nrmT (openT [p])) (13))),.sl (List.map c3 (tnS (nrmT (openT [p])) (14))),.sl (List.map c3 (tnS (nrmT (openT [p])) (15)))] (tabC c3 (16:Nat) (tnS (nrmT (openT [p])))) (σ':=⟨[(3,.ptr (3) (0) (0) (0)),(4,.i .i64 ((0:Int))),(5,.i .i64 ((0:Int)))],[(3,⟨0,122,.arr (tabC c3 (16:Nat) (tnS (nrmT (openT [p]))))⟩)]⟩) (by kernel_rfl) (by kernel_rfl) (by kernel_rfl) (by kernel_rfl) (ZLe.of_eq (by kernel_rfl)) (by kernel_rfl)<|st_loop (X:=Int×Int×(Nat→List Int)) (fun x=>⟨[(3,.ptr (3) (0) (0) (0)),(4,.i .i64 (x.1)),(5,.i .i64 (x.2.1))],[(3,⟨0,122,.arr (tabC c3 (16:Nat) x.2.2)⟩)]⟩) (fun x ↦ decRs x.1 x.2.1 x.2.2) (fun x ↦ invRs (nrmT (openT [p])) x.1 x.2.1 x.2.2) [3,4,5] [3] (((0:Int),(0:Int),tnS (nrmT (openT [p])))) (by kernel_rfl) (by kernel_rfl) (show invRs (nrmT (openT [p])) (0:Int) (0:Int) (tnS (nrmT (openT [p]))) from ?g0) ?_;rotate_left
 rintro ⟨n0,r1,S2⟩ h_3
 obtain ⟨hh4,h5,hh6,h7⟩:S2=tnS (nrmT (openT [p]))∧(0:Int)≤r1∧r1≤(16:Int)∧n0=sizeT (nrmT (openT [p])) r1.toNat:=h_3
 refine sq<|sq<|rG cx [3,4,5,10] [3] (tB 1 (r1 < (16:Int)) z0)<|sn<|dC (r1 < (16:Int)) (fun h8=>?_) fun h8=>?_
 refine sK<|sn<|sq<|bL 1<|sq<|rG cx [3,4,5,6] [3] z0<|sn<|bL 2<|st_loop (X:=Int×Int×(Nat→List Int)) (fun x=>⟨[(3,.ptr (3) (0) (0) (0)),(4,.i .i64 (x.1)),(5,.i .i64 (r1)),(6,.i .i64 (x.2.1))],[(3,⟨0,122,.arr (tabC c3 (16:Nat) x.2.2)⟩)]⟩) (fun x ↦ decRt (nrmT (openT [p])) r1 x.1 x.2.1 x.2.2) (fun x ↦ invRt (nrmT (openT [p])) r1 n0 x.1 x.2.1 x.2.2) [3,4,5,6] [3] ((n0,(0:Int),S2)) (by kernel_rfl) (by kernel_rfl) (show invRt (nrmT (openT [p])) r1 n0 n0 (0:Int) S2 from ?g1) ?_;rotate_left
 rintro ⟨n9,k10,S11⟩ h_12
 obtain ⟨h13,h14,h15,h16,h17⟩:S11=tnS (nrmT (openT [p]))∧(0:Int)≤k10∧k10≤(2:Int)*(↑(nrmT (openT [p]) r1.toNat).length:Int)∧(2:Int)*(k10 / (2:Int))=k10∧n9=n0+sizeR (List.take (k10 / (2:Int)).toNat (nrmT (openT [p]) r1.toNat)):=h_12
 refine sq<|sq<|rG cx [3,4,5,6,20] [3] (tT 1 (told_i64 (by omega) ?g2:AV.i .i64 (IntKind.i64.wrap (k10+(1:Int)))=AV.i .i64 (k10+(1:Int))) (fA ((0:Int)≤r1) (fO (r1 < (↑(16:Nat):Int)) (fP ((tabC c3 (16:Nat) S11)[r1.toNat*(1:Nat)+0]?=some (AV.sl (List.map c3 (S11 r1.toNat)))) (by ((try simp only [Nat.mul_one,Nat.add_zero,Nat.zero_add]);with_reducible refine get_tabC ?_;omega)) (tL 6 c3 (S11 r1.toNat) (tB 7 (k10+(1:Int) < (↑(S11 r1.toNat).length:Int)) (oR 5 [.sl (List.map c3 (S11 r1.toNat))] z0))))))) ?_;rotate_left
 refine sn<|dC (k10+(1:Int) < (↑(S11 r1.toNat).length:Int)) (fun h18=>?_) fun h18=>?_
 refine sK<|sn<|sq<|bL 3<|rA cx [3,4,5,6] [3] (fA ((0:Int)≤r1) (fO (r1 < (↑(16:Nat):Int)) (fP ((tabC c3 (16:Nat) S11)[r1.toNat*(1:Nat)+0]?=some (AV.sl (List.map c3 (S11 r1.toNat)))) (by ((try simp only [Nat.mul_one,Nat.add_zero,Nat.zero_add]);with_reducible refine get_tabC ?_;omega)) (tT 6 (told_i64 (by omega) ?g3:AV.i .i64 (IntKind.i64.wrap (k10+(1:Int)))=AV.i .i64 (k10+(1:Int))) (fO ((0:Int)≤k10+(1:Int)) (fG c3 (S11 r1.toNat) ((k10+(1:Int)).toNat) (fR (1:Nat) (fA ((0:Int)≤r1) (fO (r1 < (↑(16:Nat):Int)) (fP ((tabC c3 (16:Nat) S11)[r1.toNat*(1:Nat)+0]?=some (AV.sl (List.map c3 (S11 r1.toNat)))) (by ((try simp only [Nat.mul_one,Nat.add_zero,Nat.zero_add]);with_reducible refine get_tabC ?_;omega)) (fA ((0:Int)≤k10) (fG c3 (S11 r1.toNat) k10.toNat (fR (1:Nat) (tT 16 (told_i64 ?g4 ?g5:AV.i .i64 (IntKind.i64.wrap ((S11 r1.toNat)[(k10+(1:Int)).toNat]!-(S11 r1.toNat)[k10.toNat]!))=AV.i .i64 ((S11 r1.toNat)[(k10+(1:Int)).toNat]!-(S11 r1.toNat)[k10.toNat]!)) (tT 17 (told_i64 ?g6 ?g7:AV.i .i64 (IntKind.i64.wrap (n9+((S11 r1.toNat)[(k10+(1:Int)).toNat]!-(S11 r1.toNat)[k10.toNat]!)))=AV.i .i64 (n9+((S11 r1.toNat)[(k10+(1:Int)).toNat]!-(S11 r1.toNat)[k10.toNat]!))) (oR 4 [.sl (List.map c3 (S11 r1.toNat))] (oR 7 (c3 (S11 r1.toNat)[(k10+(1:Int)).toNat]!) (oR 12 [.sl (List.map c3 (S11 r1.toNat))] (oR 14 (c3 (S11 r1.toNat)[k10.toNat]!) z0))))))))))))))))))) ?_;rotate_left 5
 refine bN<|sn<|rG cx [3,4,5,6] [3] (tT 1 (told_i64 (by omega) ?g8:AV.i .i64 (IntKind.i64.wrap (k10+(2:Int)))=AV.i .i64 (k10+(2:Int))) z0) ?_;rotate_left
 refine sn<|loop_next ((n9+((S11 r1.toNat)[(k10+(1:Int)).toNat]!-(S11 r1.toNat)[k10.toNat]!),k10+(2:Int),S11)) (by kernel_rfl) (show ((2:Int)*(↑(nrmT (openT [p]) r1.toNat).length:Int)-(k10+(2:Int))).toNat < ((2:Int)*(↑(nrmT (openT [p]) r1.toNat).length:Int)-k10).toNat from ?g9) (show invRt (nrmT (openT [p])) r1 n0 (n9+((S11 r1.toNat)[(k10+(1:Int)).toNat]!-(S11 r1.toNat)[k10.toNat]!)) (k10+(2:Int)) S11 from ?g10);rotate_left 2
 refine eX 2<|nE<|nE<|bH<|bN<|sn<|rG cx [3,4,5] [3] (tW 1 (r1+(1:Int)) z0)<|sn<|loop_next ((n9,r1+(1:Int),S11)) (by kernel_rfl) (show ((16:Int)-(r1+(1:Int))).toNat < ((16:Int)-r1).toNat from (by omega)) (show invRs (nrmT (openT [p])) n9 (r1+(1:Int)) S11 from ?g11);rotate_left
 refine eX 0<|nE<|nE<|bH<|sn<|sq<|rG cx [2] [] z0<|sn<|rT<|qR (.i .i64 (n0)) (.eq ?g12);rotate_left
 rotate_left
 revert n0 r1 S2 hh4 h5 hh6 h7 h8;rotate_left
 revert n0 r1 S2 hh4 h5 hh6 h7 h8 n9 k10 S11 h13 h14 h15 h16 h17;rotate_left
 revert n0 r1 S2 hh4 h5 hh6 h7 h8 n9 k10 S11 h13 h14 h15 h16 h17 h18;rotate_left
 revert n0 r1 S2 hh4 h5 hh6 h7 h8 n9 k10 S11 h13 h14 h15 h16 h17 h18;rotate_left
 revert n0 r1 S2 hh4 h5 hh6 h7 h8 n9 k10 S11 h13 h14 h15 h16 h17 h18;rotate_left
 revert n0 r1 S2 hh4 h5 hh6 h7 h8 n9 k10 S11 h13 h14 h15 h16 h17 h18;rotate_left
 revert n0 r1 S2 hh4 h5 hh6 h7 h8 n9 k10 S11 h13 h14 h15 h16 h17 h18;rotate_left
 revert n0 r1 S2 hh4 h5 hh6 h7 h8 n9 k10 S11 h13 h14 h15 h16 h17 h18;rotate_left
 revert n0 r1 S2 hh4 h5 hh6 h7 h8 n9 k10 S11 h13 h14 h15 h16 h17 h18;rotate_left
 revert n0 r1 S2 hh4 h5 hh6 h7 h8 n9 k10 S11 h13 h14 h15 h16 h17 h18;rotate_left
 revert n0 r1 S2 hh4 h5 hh6 h7 h8 n9 k10 S11 h13 h14 h15 h16 h17 h18;rotate_left
 revert n0 r1 S2 hh4 h5 hh6 h7 h8;rotate_left
 all_goals generalize nrmT (openT [p])=U at *
 case g0=>exact ⟨rfl,by omega,by omega,rfl⟩
 case g1=>intro n r S h0 h1 h2 h3 h4;exact ⟨h0,by omega,by omega,by omega,by simp [sizeR]⟩
 case g2=>intro n r S h0 h1 h2 h3 h4 m k R k0 k1 k2 k3 k4;have:=hl r.toNat;omega
 case g3=>intro n r S h0 h1 h2 h3 h4 m k R k0 k1 k2 k3 k4 k5;have:=hl r.toNat;omega
 case g4 =>
  intro n r S h0 h1 h2 h3 h4 m k R k0 k1 k2 k3 k4 k5
  subst k0;rw [ht] at k5
  have:=tn_at (U:=U) (r:=r) k1 k3 (by omega);have:=hr r.toNat k k1 (by omega);omega
 case g5 =>
  intro n r S h0 h1 h2 h3 h4 m k R k0 k1 k2 k3 k4 k5
  subst k0;rw [ht] at k5
  have:=tn_at (U:=U) (r:=r) k1 k3 (by omega);have:=hr r.toNat k k1 (by omega);omega
 case g6 =>
  intro n r S h0 h1 h2 h3 h4 m k R k0 k1 k2 k3 k4 k5
  subst k0;rw [ht] at k5
  have:=tn_at (U:=U) (r:=r) k1 k3 (by omega);have:=hr r.toNat k k1 (by omega)
  have:=hz r.toNat;have:=hk r.toNat (k / 2).toNat;omega
 case g7 =>
  intro n r S h0 h1 h2 h3 h4 m k R k0 k1 k2 k3 k4 k5
  subst k0;rw [ht] at k5
  have:=tn_at (U:=U) (r:=r) k1 k3 (by omega);have:=hr r.toNat k k1 (by omega)
  have:=hz r.toNat;have:=hk r.toNat (k / 2).toNat;omega
 case g8=>intro n r S h0 h1 h2 h3 h4 m k R k0 k1 k2 k3 k4 k5;have:=hl r.toNat;omega
 case g9=>intro n r S h0 h1 h2 h3 h4 m k R k0 k1 k2 k3 k4 k5;subst k0;rw [ht] at k5;omega
 case g10 =>
  intro n r S h0 h1 h2 h3 h4 m k R k0 k1 k2 k3 k4 k5
  subst k0;rw [ht] at k5
  have h6:=tn_at (U:=U) (r:=r) k1 k3 (by omega)
  refine ⟨rfl,by omega,by omega,by omega,?_⟩
  rw [sizeR_two k1 k3 (by omega)]
  omega
 case g11 =>
  intro n r S h0 h1 h2 h3 h4 m k R k0 k1 k2 k3 k4 k5
  subst k0;rw [ht] at k5
  refine ⟨rfl,by omega,by omega,?_⟩
  rw [show (r+1).toNat=r.toNat+1 by omega,sizeT,hU,k4,h3,List.take_of_length_le (by omega)]
 case g12=>intro n r S h0 h1 h2 h3 h4;rw [h3,hP,show r.toNat=16 by omega]
theorem con59 (p:Past) (hb:p.cloud.length*16≤140737488350000):Con Tryz.prog 59 [.agg (c26 p)] (.b (decide (sizeP p=0))) :=
 by
 refine st_con tab_ok (by kernel_rfl) [.tmp 2] 6 Go.Proofs.Tryz.func59 (by kernel_rfl) (by kernel_rfl) ?_
 intro e0 cx
 refine sq<|rG cx [1] [1] z0<|sn<|sq<|rG cx [2] [] (fT (con108 (p) (by (with_reducible assumption))) (tB 2 (sizeP p=(0:Int)) (oA 1 (.i .i64 (sizeP p)) z0)))<|sn<|rT ?_
 exact q_ret (r:=.b (decide (sizeP p=(0:Int)))) (obl:=[]) (by kernel_rfl) trivial (AVle.refl _)
theorem con101 (p:Past) (rep:Int) (hb:p.cloud.length*16≤140737488350000):Con Tryz.prog 101 [.agg (c26 p),.i .i64 rep] (.i .i64 (lastP p rep)) :=
 by
 have hn:∀ r,maxR (nrmT (openT [p]) r)=maxR (openT [p] r):=fun r=>maxR_nrm _
 have hs:∀ r,sepR (nrmT (openT [p]) r):=fun r=>nrm_sep _
 have ht:(tnS (nrmT (openT [p])) rep.toNat).length=2*(nrmT (openT [p]) rep.toNat).length:=turns_len _
 have hl:=sepR_len (hs rep.toNat)
 have hx:¬ ((tnS (nrmT (openT [p])) rep.toNat).length:Int)=0→(tnS (nrmT (openT [p])) rep.toNat)[(((tnS (nrmT (openT [p])) rep.toNat).length:Int)-1).toNat]!-1=maxR (openT [p] rep.toNat)∧0≤maxR (openT [p] rep.toNat)∧maxR (openT [p] rep.toNat)≤1000000000:=by
  intro h
  have hm:=maxR_last (hs rep.toNat) (by omega)
  have hr:=(hs rep.toNat).2 _ (bang_in (l:=nrmT (openT [p]) rep.toNat) (i:=(nrmT (openT [p]) rep.toNat).length-1) (by omega))
  have e:=(turns_at (l:=nrmT (openT [p]) rep.toNat) (j:=(nrmT (openT [p]) rep.toNat).length-1) (by omega)).2
  rw [← hn,ht,hm]
  have e2:(((2*(nrmT (openT [p]) rep.toNat).length:Nat):Int)-1).toNat=2*((nrmT (openT [p]) rep.toNat).length-1)+1:=by omega
  rw [e2]
  have e3:(tnS (nrmT (openT [p])) rep.toNat)[2*((nrmT (openT [p]) rep.toNat).length-1)+1]! = _:=e
  rw [e3]
  omega
 refine st_con tab_ok (by kernel_rfl) [.tmp 4] 31 Go.Proofs.Tryz.func101 (by kernel_rfl) (by kernel_rfl) ?_
 intro e0 cx
 refine sq<|rG cx [1,2] [2] z0<|sn<|sq<|sq<|st_join (σ':=⟨[(1,.i .i64 (rep)),(2,.ptr (2) (0) (0) (0)),(12,.b (decide (rep < (0:Int)∨(16:Int)≤rep)))],[(2,⟨0,26,.var [.sl (List.map c3 p.vec),.sl (List.map c104 p.cloud)]⟩)]⟩) ?_ ?_
 refine st_split (rep < (0:Int)) (fun h_1=>?_) (fun h_1=>?_)
 refine rG cx [1,2,12] [2] (tT 1 (told_true h_1) (tD 5 true (rep < (0:Int)∨(16:Int)≤rep) (by simp only [eq_true h_1,tsl]) z0)) ?_
 exact ⟨rfl,by kernel_rfl⟩
 refine rG cx [1,2,12] [2] (tT 1 (told_false h_1) (tB 4 ((16:Int)≤rep) (tD 5 (decide ((16:Int)≤rep)) (rep < (0:Int)∨(16:Int)≤rep) (by simp only [eq_false h_1,tsl]) z0))) ?_
 exact ⟨rfl,by kernel_rfl⟩
 refine sn<|dC (rep < (0:Int)∨(16:Int)≤rep) (fun h2=>?_) fun h2=>?_
 refine sq<|rG cx [4] [] z0<|sn<|rT<|nR<|qR (.i .i64 ((0:Int))) (.eq ?g0);rotate_left
 refine sK<|sn<|sq<|rG cx [1,5] [5] (fT (con100 (p) (by (with_reducible assumption))) (oA 1 (.agg (tabC c3 (16:Nat) (tnS (nrmT (openT [p]))))) z0))<|sn<|sq<|st_reg16 (F:=fun kx=>⟨[(1,.i .i64 (kx)),(5,.ptr (5) (0) (0) (0))],[(5,⟨0,122,.var [.sl (List.map c3 (tnS (nrmT (openT [p])) (0))),.sl (List.map c3 (tnS (nrmT (openT [p])) (1))),.sl (List.map c3 (tnS (nrmT (openT [p])) (2))),.sl (List.map c3 (tnS (nrmT (openT [p])) (3))),.sl (List.map c3 (tnS (nrmT (openT [p])) (4))),.sl (List.map c3 (tnS (nrmT (openT [p])) (5))),.sl (List.map c3 (tnS (nrmT (openT [p])) (6))),.sl (List.map c3 (tnS (nrmT (openT [p])) (7))),.sl (List.map c3 (tnS (nrmT (openT [p])) (8))),.sl (List.map c3 (tnS (nrmT (openT [p])) (9))),.sl (List.map c3 (tnS (nrmT (openT [p])) (10))),.sl (List.map c3 (tnS (nrmT (openT [p])) (11))),.sl (List.map c3 (tnS (nrmT (openT [p])) (12))),.sl (List.map c3 (tnS (nrmT (openT [p])) (13))),.sl (List.map c3 (tnS (nrmT (openT [p])) (14))),.sl (List.map c3 (tnS (nrmT (openT [p])) (15)))]⟩)]⟩) (G:=fun kx=>⟨[(1,.i .i64 (kx)),(5,.ptr (5) (0) (0) (0)),(6,.i .i64 ((↑(tnS (nrmT (openT [p])) kx.toNat).length:Int)))],[(5,⟨0,122,.var [.sl (List.map c3 (tnS (nrmT (openT [p])) (0))),.sl (List.map c3 (tnS (nrmT (openT [p])) (1))),.sl (List.map c3 (tnS (nrmT (openT [p])) (2))),.sl (List.map c3 (tnS (nrmT (openT [p])) (3))),.sl (List.map c3 (tnS (nrmT (openT [p])) (4))),.sl (List.map c3 (tnS (nrmT (openT [p])) (5))),.sl (List.map c3 (tnS (nrmT (openT [p])) (6))),.sl (List.map c3 (tnS (nrmT (openT [p])) (7))),.sl (List.map c3 (tnS (nrmT (openT [p])) (8))),.sl (List.map c3 (tnS (nrmT (openT [p])) (9))),.sl (List.map c3 (tnS (nrmT (openT [p])) (10))),.sl (List.map c3 (tnS (nrmT (openT [p])) (11))),.sl (List.map c3 (tnS (nrmT (openT [p])) (12))),.sl (List.map c3 (tnS (nrmT (openT [p])) (13))),.sl (List.map c3 (tnS (nrmT (openT [p])) (14))),.sl (List.map c3 (tnS (nrmT (openT [p])) (15)))]⟩)]⟩) (A:=fun kx=>((0:Int)≤kx)∧(kx < (↑(16:Nat):Int))∧(AV.i .i64 (↑(List.map c3 (tnS (nrmT (openT [p])) kx.toNat)).length:Int)=AV.i .i64 (↑(tnS (nrmT (openT [p])) kx.toNat).length:Int))) cx (fun kx=>[(4,{ tell:=some (.i .i64 ((↑(tnS (nrmT (openT [p])) kx.toNat).length:Int))) })]) [1,5,6] [5] (rep) (by omega) (by omega) (by kernel_rfl) (by kernel_rfl) ⟨(by show _=_;kernel_rfl),(by show _=_;kernel_rfl),(by show _=_;kernel_rfl),(by show _=_;kernel_rfl),(by show _=_;kernel_rfl),(by show _=_;kernel_rfl),(by show _=_;kernel_rfl),(by show _=_;kernel_rfl),(by show _=_;kernel_rfl),(by show _=_;kernel_rfl),(by show _=_;kernel_rfl),(by show _=_;kernel_rfl),(by show _=_;kernel_rfl),(by show _=_;kernel_rfl),(by show _=_;kernel_rfl),(by show _=_;kernel_rfl)⟩ ⟨(by omega),(by omega),?g1⟩ ?_;rotate_left
 refine sn<|sq<|sq<|rG cx [1,5,6,21] [5] (tB 1 ((↑(tnS (nrmT (openT [p])) rep.toNat).length:Int)=(0:Int)) z0)<|sn<|dC ((↑(tnS (nrmT (openT [p])) rep.toNat).length:Int)=(0:Int)) (fun h3=>?_) fun h3=>?_
 refine sq<|rG cx [4] [] z0<|sn<|rT<|nR<|qR (.i .i64 ((0:Int))) (.eq ?g2);rotate_left
 refine sK<|sn<|sq<|st_reg16 (F:=fun kx=>⟨[(1,.i .i64 (kx)),(5,.ptr (5) (0) (0) (0)),(6,.i .i64 ((↑(tnS (nrmT (openT [p])) kx.toNat).length:Int))),(21,.b (decide ((↑(tnS (nrmT (openT [p])) kx.toNat).length:Int)=(0:Int))))],[(5,⟨0,122,.var [.sl (List.map c3 (tnS (nrmT (openT [p])) (0))),.sl (List.map c3 (tnS (nrmT (openT [p])) (1))),.sl (List.map c3 (tnS (nrmT (openT [p])) (2))),.sl (List.map c3 (tnS (nrmT (openT [p])) (3))),.sl (List.map c3 (tnS (nrmT (openT [p])) (4))),.sl (List.map c3 (tnS (nrmT (openT [p])) (5))),.sl (List.map c3 (tnS (nrmT (openT [p])) (6))),.sl (List.map c3 (tnS (nrmT (openT [p])) (7))),.sl (List.map c3 (tnS (nrmT (openT [p])) (8))),.sl (List.map c3 (tnS (nrmT (openT [p])) (9))),.sl (List.map c3 (tnS (nrmT (openT [p])) (10))),.sl (List.map c3 (tnS (nrmT (openT [p])) (11))),.sl (List.map c3 (tnS (nrmT (openT [p])) (12))),.sl (List.map c3 (tnS (nrmT (openT [p])) (13))),.sl (List.map c3 (tnS (nrmT (openT [p])) (14))),.sl (List.map c3 (tnS (nrmT (openT [p])) (15)))]⟩)]⟩) (G:=fun kx=>⟨[(4,.i .i64 ((tnS (nrmT (openT [p])) kx.toNat)[((↑(tnS (nrmT (openT [p])) kx.toNat).length:Int)-(1:Int)).toNat]!-(1:Int)))],[]⟩) (A:=fun kx=>((0:Int)≤kx)∧(kx < (↑(16:Nat):Int))∧(AV.i .i64 (IntKind.i64.wrap ((↑(tnS (nrmT (openT [p])) kx.toNat).length:Int)-(1:Int)))=AV.i .i64 ((↑(tnS (nrmT (openT [p])) kx.toNat).length:Int)-(1:Int)))∧((0:Int)≤(↑(tnS (nrmT (openT [p])) kx.toNat).length:Int)-(1:Int))∧((List.map c3 (tnS (nrmT (openT [p])) kx.toNat))[((↑(tnS (nrmT (openT [p])) kx.toNat).length:Int)-(1:Int)).toNat]?=some (c3 (tnS (nrmT (openT [p])) kx.toNat)[((↑(tnS (nrmT (openT [p])) kx.toNat).length:Int)-(1:Int)).toNat]!))∧((c3 (tnS (nrmT (openT [p])) kx.toNat)[((↑(tnS (nrmT (openT [p])) kx.toNat).length:Int)-(1:Int)).toNat]!).length=(1:Nat))∧(AV.i .i64 (IntKind.i64.wrap ((tnS (nrmT (openT [p])) kx.toNat)[((↑(tnS (nrmT (openT [p])) kx.toNat).length:Int)-(1:Int)).toNat]!-(1:Int)))=AV.i .i64 ((tnS (nrmT (openT [p])) kx.toNat)[((↑(tnS (nrmT (openT [p])) kx.toNat).length:Int)-(1:Int)).toNat]!-(1:Int)))) cx (fun kx=>[(5,{ tell:=some (.i .i64 ((↑(tnS (nrmT (openT [p])) kx.toNat).length:Int)-(1:Int))) }),(6,{ row:=(c3 (tnS (nrmT (openT [p])) kx.toNat)[((↑(tnS (nrmT (openT [p])) kx.toNat).length:Int)-(1:Int)).toNat]!) }),(8,{ tell:=some (.i .i64 ((tnS (nrmT (openT [p])) kx.toNat)[((↑(tnS (nrmT (openT [p])) kx.toNat).length:Int)-(1:Int)).toNat]!-(1:Int))) })]) [4] [] (rep) (by omega) (by omega) (by kernel_rfl) (by kernel_rfl) ⟨(by show _=_;kernel_rfl),(by show _=_;kernel_rfl),(by show _=_;kernel_rfl),(by show _=_;kernel_rfl),(by show _=_;kernel_rfl),(by show _=_;kernel_rfl),(by show _=_;kernel_rfl),(by show _=_;kernel_rfl),(by show _=_;kernel_rfl),(by show _=_;kernel_rfl),(by show _=_;kernel_rfl),(by show _=_;kernel_rfl),(by show _=_;kernel_rfl),(by show _=_;kernel_rfl),(by show _=_;kernel_rfl),(by show _=_;kernel_rfl)⟩ ⟨(by omega),(by omega),(told_i64 (by omega) ?g3),(by omega),(by (with_reducible refine get_map ?_;omega)),(by kernel_rfl),(told_i64 ?g4 ?g5)⟩ ?_;rotate_left 3
 refine sn<|rT<|qR (.i .i64 ((tnS (nrmT (openT [p])) rep.toNat)[((↑(tnS (nrmT (openT [p])) rep.toNat).length:Int)-(1:Int)).toNat]!-(1:Int))) (.eq ?g6);rotate_left
 revert h2;rotate_left
 revert h2;rotate_left
 revert h2 h3;rotate_left
 revert h2 h3;rotate_left
 revert h2 h3;rotate_left
 revert h2 h3;rotate_left
 revert h2 h3;rotate_left
 case g0=>intro h;unfold lastP;rw [if_pos h]
 case g1=>intro h;rw [List.length_map]
 case g2 =>
  intro h k
  have e:nrmT (openT [p]) rep.toNat=[]:=List.eq_nil_of_length_eq_zero (by omega)
  unfold lastP
  rw [if_neg h,← hn,e]
  rfl
 case g3=>intro h k;omega
 case g4=>intro h k;have:=hx k;omega
 case g5=>intro h k;have:=hx k;omega
 case g6=>intro h k;unfold lastP;rw [if_neg h,(hx k).1]
end Go.Proofs.YtaiepnaokhpmcaaGreat
namespace Go.Proofs.YtaiepnaokhpmcaaGreat
open Go.E
set_option maxRecDepth 100000
set_option maxHeartbeats 4000000
def invRc (x y:Past) (r:Int) (u:List Int) (c:List Span) (v:List Int) (d:List Span):Prop:=u=x.vec∧c=x.cloud∧v=y.vec∧d=y.cloud∧0≤r∧r≤16∧isCF x.vec y.vec r
def decRc (r:Int) (u:List Int) (c:List Span) (v:List Int) (d:List Span):Nat:=(16-r).toNat
def invRd (x y:Past) (i:Int) (u:List Int) (c:List Span) (v:List Int) (d:List Span):Prop:=c=x.cloud∧d=y.cloud∧0≤i∧i≤x.cloud.length∧i≤y.cloud.length∧cmpC x.cloud y.cloud=cmpC (x.cloud.drop i.toNat) (y.cloud.drop i.toNat)
def decRd2 (x:Past) (i:Int) (u:List Int) (c:List Span) (v:List Int) (d:List Span):Nat:=(x.cloud.length-i).toNat
theorem con196 (a b:Int):Con Tryz.prog 196 [.i .i64 a,.i .i64 b] (.i .i64 (cmpI a b)) :=
 by
 refine st_con tab_ok (by kernel_rfl) [.tmp 4] 11 Go.Proofs.Tryz.func196 (by kernel_rfl) (by kernel_rfl) ?_
 intro e0 cx
 refine sq<|rG cx [0,1] [] z0<|sn<|sq<|sq<|rG cx [0,1,7] [] (tB 2 (a < b) z0)<|sn<|dC (a < b) (fun h0=>?_) fun h0=>?_
 refine sq<|rG cx [4] [] z0<|sn<|rT<|nR<|qR (.i .i64 ((-1:Int))) (.eq ?g0);rotate_left
 refine sK<|sn<|sq<|sq<|rG cx [10] [] (tB 2 (b < a) z0)<|sn<|dC (b < a) (fun h1=>?_) fun h1=>?_
 refine sq<|rG cx [4] [] z0<|sn<|rT<|nR<|qR (.i .i64 ((1:Int))) (.eq ?g1);rotate_left
 refine sK<|sn<|sq<|rG cx [4] [] z0<|sn<|rT<|qR (.i .i64 ((0:Int))) (.eq ?g2);rotate_left
 revert h0;rotate_left
 revert h0 h1;rotate_left
 revert h0 h1;rotate_left
 case g0=>intro h;unfold cmpI;rw [if_pos h]
 case g1=>intro h k;unfold cmpI;rw [if_neg h,if_pos k]
 case g2=>intro h k;unfold cmpI;rw [if_neg h,if_neg k]
theorem con164 (p q:Past) (hb:p.cloud.length*16≤140737488350000) (hq:q.cloud.length*16≤140737488350000):Con Tryz.prog 164 [.agg (c26 p),.agg (c26 q)] (.i .i64 (cmpP p q)) :=
 by
 have D:∀ {r:Int} {u v:List Int},u=(normP p).vec→v=(normP q).vec→0≤r→r < 16→∀ {a b:Int},u[r.toNat]! = a→v[r.toNat]! = b→¬ a=b→isCF (normP p).vec (normP q).vec r→cmpI a b=cmpP p q:=by
  intro r u v e1 e3 h0 h1 a b ha hb hn h
  rw [e1] at ha
  rw [e3] at hb
  have e:=cf_diff h0 h1 (by rw [ha,hb];exact hn) h
  rw [ha,hb] at e
  exact (cp_vec e (cmpI_ne hn)).symm
 have N:∀ {r:Int} {u v:List Int} {c d:List Span},u=(normP p).vec→c=(normP p).cloud→v=(normP q).vec→d=(normP q).cloud→0≤r→r < 16→∀ {a b:Int},u[r.toNat]! = a→v[r.toNat]! = b→¬ ¬ a=b→isCF (normP p).vec (normP q).vec r→invRc (normP p) (normP q) (r+1) u c v d:=by
  intro r u v c d e1 e2 e3 e4 h0 h1 a b ha hb hn h
  have e:=cf_next h0 h1 (by rw [← e1,← e3,ha,hb];exact Classical.not_not.1 hn) h
  exact ⟨e1,e2,e3,e4,e.1,e.2.1,e.2.2⟩
 have S1:∀ {s t:Span},¬ s.rep=t.rep→cmpI s.rep t.rep=cmpS s t:=fun {s t} h=>by unfold cmpS;rw [if_pos (cmpI_ne h)]
 have S2:∀ {s t:Span},s.rep=t.rep→¬ s.lo=t.lo→cmpI s.lo t.lo=cmpS s t:=fun {s t} h0 h=>by unfold cmpS;rw [if_neg (fun k=>k (cmpI_zero.2 h0)),if_pos (cmpI_ne h)]
 have S3:∀ {s t:Span},s.rep=t.rep→s.lo=t.lo→cmpI s.hi t.hi=cmpS s t:=fun {s t} h0 h=>by unfold cmpS;rw [if_neg (fun k=>k (cmpI_zero.2 h0)),if_neg (fun k=>k (cmpI_zero.2 h))]
 have E:∀ {i z:Int} {c d:List Span},c=(normP p).cloud→d=(normP q).cloud→0≤i→(i < c.length∧i < d.length)→cmpC (normP p).cloud (normP q).cloud=cmpC ((normP p).cloud.drop i.toNat) ((normP q).cloud.drop i.toNat)→cmpF (normP p).vec (normP q).vec 0 16=0→¬ z=0→z=cmpS c[i.toNat]! d[i.toNat]!→z=cmpP p q:=by
  intro i z c d e1 e2 h0 hl h hf hz e
  rw [e1,e2] at hl e
  rw [cp_cloud hf,cc_diff h0 hl.1 hl.2 (by rw [← e];exact hz) h]
  exact e
 refine st_con tab_ok (by kernel_rfl) [.tmp 4] 106 Go.Proofs.Tryz.func164 (by kernel_rfl) (by kernel_rfl) ?_
 intro e0 cx
 refine sq<|rG cx [2,3] [2,3] z0<|sn<|sq<|rG cx [2,3] [2,3] (fT (con95 (p) (by (with_reducible assumption))) (oA 1 (.agg [.sl (List.map c3 (normP p).vec),.sl (List.map c104 (normP p).cloud)]) z0))<|sn<|sq<|rG cx [2,3] [2,3] (fT (con95 (q) (by (with_reducible assumption))) (oA 1 (.agg [.sl (List.map c3 (normP q).vec),.sl (List.map c104 (normP q).cloud)]) z0))<|sn<|sq<|sq<|rG cx [2,3,5] [2,3] z0<|sn<|bL 0<|st_loop (X:=Int×List Int×List Span×List Int×List Span) (fun x=>⟨[(2,.ptr (2) (0) (0) (0)),(3,.ptr (3) (0) (0) (0)),(5,.i .i64 (x.1))],[(2,⟨0,26,.var [.sl (List.map c3 x.2.1),.sl (List.map c104 x.2.2.1)]⟩),(3,⟨0,26,.var [.sl (List.map c3 x.2.2.2.1),.sl (List.map c104 x.2.2.2.2)]⟩)]⟩) (fun x ↦ decRc x.1 x.2.1 x.2.2.1 x.2.2.2.1 x.2.2.2.2) (fun x ↦ invRc (normP p) (normP q) x.1 x.2.1 x.2.2.1 x.2.2.2.1 x.2.2.2.2) [2,3,5] [2,3] (((0:Int),(normP p).vec,(normP p).cloud,(normP q).vec,(normP q).cloud)) (by kernel_rfl) (by kernel_rfl) (show invRc (normP p) (normP q) (0:Int) (normP p).vec (normP p).cloud (normP q).vec (normP q).cloud from ?g0) ?_;rotate_left
 rintro ⟨r0,u1,c2,v3,d4⟩ h_5
 obtain ⟨h6,h7,h8,h9,h10,h11,h12⟩:u1=(normP p).vec∧c2=(normP p).cloud∧v3=(normP q).vec∧d4=(normP q).cloud∧(0:Int)≤r0∧r0≤(16:Int)∧isCF (normP p).vec (normP q).vec r0:=h_5
 refine sq<|sq<|rG cx [2,3,5,16] [2,3] (tB 1 (r0 < (16:Int)) z0)<|sn<|dC (r0 < (16:Int)) (fun h13=>?_) fun h13=>?_
 refine sK<|sn<|sq<|bL 1<|sq<|rG cx [2,3,5,6,7] [2,3] z0<|sn<|sq<|sq<|rG cx [2,3,5,6,7,23] [2,3] (tL 3 c3 u1 (tB 4 (r0 < (↑u1.length:Int)) z0))<|sn<|dC (r0 < (↑u1.length:Int)) (fun h14=>?_) fun h14=>?_
 refine rG cx [2,3,5,6,7] [2,3] (fA ((0:Int)≤r0) (fG c3 u1 r0.toNat (fR (1:Nat) (oR 3 (c3 u1[r0.toNat]!) z0))))<|sn<|sq<|sq<|rG cx [2,3,5,6,7,33] [2,3] (tL 3 c3 v3 (tB 4 (r0 < (↑v3.length:Int)) z0))<|sn<|dC (r0 < (↑v3.length:Int)) (fun h15=>?_) fun h15=>?_
 refine rG cx [2,3,5,6,7] [2,3] (fA ((0:Int)≤r0) (fG c3 v3 r0.toNat (fR (1:Nat) (oR 3 (c3 v3[r0.toNat]!) z0))))<|sn<|sq<|rG cx [2,3,5,6,7,41] [2,3] (tN 2 u1[r0.toNat]! v3[r0.toNat]! z0)<|sn<|dC (¬u1[r0.toNat]! = v3[r0.toNat]!) (fun h16=>?_) fun h16=>?_
 refine sq<|rG cx [4] [] (fT (con196 (u1[r0.toNat]!) (v3[r0.toNat]!)) (oA 2 (.i .i64 (cmpI u1[r0.toNat]! v3[r0.toNat]!)) z0))<|sn<|rT<|bR<|nR<|nR<|bR<|nR<|qR (.i .i64 (cmpI u1[r0.toNat]! v3[r0.toNat]!)) (.eq ?g1);rotate_left
 refine sK<|bN<|sn<|rG cx [2,3,5] [2,3] (tW 1 (r0+(1:Int)) z0)<|sn<|loop_next ((r0+(1:Int),u1,c2,v3,d4)) (by kernel_rfl) (show ((16:Int)-(r0+(1:Int))).toNat < ((16:Int)-r0).toNat from (by omega)) (show invRc (normP p) (normP q) (r0+(1:Int)) u1 c2 v3 d4 from ?g2);rotate_left
 refine sK<|sn<|sq<|rG cx [2,3,5,6,7,41] [2,3] (tN 2 u1[r0.toNat]! (0:Int) z0)<|sn<|dC (¬u1[r0.toNat]! = (0:Int)) (fun h17=>?_) fun h17=>?_
 refine sq<|rG cx [4] [] (fT (con196 (u1[r0.toNat]!) ((0:Int))) (oA 2 (.i .i64 (cmpI u1[r0.toNat]! (0:Int))) z0))<|sn<|rT<|bR<|nR<|nR<|bR<|nR<|qR (.i .i64 (cmpI u1[r0.toNat]! (0:Int))) (.eq ?g3);rotate_left
 refine sK<|bN<|sn<|rG cx [2,3,5] [2,3] (tW 1 (r0+(1:Int)) z0)<|sn<|loop_next ((r0+(1:Int),u1,c2,v3,d4)) (by kernel_rfl) (show ((16:Int)-(r0+(1:Int))).toNat < ((16:Int)-r0).toNat from (by omega)) (show invRc (normP p) (normP q) (r0+(1:Int)) u1 c2 v3 d4 from ?g4);rotate_left
 refine sK<|sn<|sq<|sq<|rG cx [2,3,5,6,7,33] [2,3] (tL 3 c3 v3 (tB 4 (r0 < (↑v3.length:Int)) z0))<|sn<|dC (r0 < (↑v3.length:Int)) (fun h18=>?_) fun h18=>?_
 refine rG cx [2,3,5,6,7] [2,3] (fA ((0:Int)≤r0) (fG c3 v3 r0.toNat (fR (1:Nat) (oR 3 (c3 v3[r0.toNat]!) z0))))<|sn<|sq<|rG cx [2,3,5,6,7,41] [2,3] (tN 2 (0:Int) v3[r0.toNat]! z0)<|sn<|dC (¬(0:Int)=v3[r0.toNat]!) (fun h19=>?_) fun h19=>?_
 refine sq<|rG cx [4] [] (fT (con196 ((0:Int)) (v3[r0.toNat]!)) (oA 2 (.i .i64 (cmpI (0:Int) v3[r0.toNat]!)) z0))<|sn<|rT<|bR<|nR<|nR<|bR<|nR<|qR (.i .i64 (cmpI (0:Int) v3[r0.toNat]!)) (.eq ?g5);rotate_left
 refine sK<|bN<|sn<|rG cx [2,3,5] [2,3] (tW 1 (r0+(1:Int)) z0)<|sn<|loop_next ((r0+(1:Int),u1,c2,v3,d4)) (by kernel_rfl) (show ((16:Int)-(r0+(1:Int))).toNat < ((16:Int)-r0).toNat from (by omega)) (show invRc (normP p) (normP q) (r0+(1:Int)) u1 c2 v3 d4 from ?g6);rotate_left
 refine sK<|sn<|sq<|rG cx [2,3,5,6,7,41] [2,3] z0<|sn<|st_false (by kernel_rfl) (by kernel_rfl)<|sK<|bN<|sn<|rG cx [2,3,5] [2,3] (tW 1 (r0+(1:Int)) z0)<|sn<|loop_next ((r0+(1:Int),u1,c2,v3,d4)) (by kernel_rfl) (show ((16:Int)-(r0+(1:Int))).toNat < ((16:Int)-r0).toNat from (by omega)) (show invRc (normP p) (normP q) (r0+(1:Int)) u1 c2 v3 d4 from ?g7);rotate_left
 refine eX 0<|nE<|nE<|bH<|sn<|sq<|sq<|rG cx [2,3,8] [2,3] z0<|sn<|bL 2<|st_loop (X:=Int×List Int×List Span×List Int×List Span) (fun x=>⟨[(2,.ptr (2) (0) (0) (0)),(3,.ptr (3) (0) (0) (0)),(8,.i .i64 (x.1))],[(2,⟨0,26,.var [.sl (List.map c3 x.2.1),.sl (List.map c104 x.2.2.1)]⟩),(3,⟨0,26,.var [.sl (List.map c3 x.2.2.2.1),.sl (List.map c104 x.2.2.2.2)]⟩)]⟩) (fun x ↦ decRd2 (normP p) x.1 x.2.1 x.2.2.1 x.2.2.2.1 x.2.2.2.2) (fun x ↦ invRd (normP p) (normP q) x.1 x.2.1 x.2.2.1 x.2.2.2.1 x.2.2.2.2) [2,3,8] [2,3] (((0:Int),u1,c2,v3,d4)) (by kernel_rfl) (by kernel_rfl) (show invRd (normP p) (normP q) (0:Int) u1 c2 v3 d4 from ?g8) ?_;rotate_left
 rintro ⟨i20,u21,c22,v23,d24⟩ h_25
 obtain ⟨h26,h27,h28,h29,h30,h31⟩:c22=(normP p).cloud∧d24=(normP q).cloud∧(0:Int)≤i20∧i20≤(↑(normP p).cloud.length:Int)∧i20≤(↑(normP q).cloud.length:Int)∧cmpC (normP p).cloud (normP q).cloud=cmpC (List.drop i20.toNat (normP p).cloud) (List.drop i20.toNat (normP q).cloud):=h_25
 refine sq<|sq<|st_join (σ':=⟨[(2,.ptr (2) (0) (0) (0)),(3,.ptr (3) (0) (0) (0)),(8,.i .i64 (i20)),(56,.b (decide (i20 < (↑c22.length:Int)∧i20 < (↑d24.length:Int))))],[(2,⟨0,26,.var [.sl (List.map c3 u21),.sl (List.map c104 c22)]⟩),(3,⟨0,26,.var [.sl (List.map c3 v23),.sl (List.map c104 d24)]⟩)]⟩) ?_ ?_
 refine st_split (i20 < (↑c22.length:Int)) (fun h_33=>?_) (fun h_33=>?_)
 refine rG cx [2,3,8,56] [2,3] (tL 3 c104 c22 (tT 4 (told_true h_33) (tL 9 c104 d24 (tB 10 (i20 < (↑d24.length:Int)) (tD 11 (decide (i20 < (↑d24.length:Int))) (i20 < (↑c22.length:Int)∧i20 < (↑d24.length:Int)) (by simp only [eq_true h_33,tsl]) z0))))) ?_
 exact ⟨rfl,by kernel_rfl⟩
 refine rG cx [2,3,8,56] [2,3] (tL 3 c104 c22 (tT 4 (told_false h_33) (tD 11 false (i20 < (↑c22.length:Int)∧i20 < (↑d24.length:Int)) (by simp only [eq_false h_33,tsl]) z0))) ?_
 exact ⟨rfl,by kernel_rfl⟩
 refine sn<|dC (i20 < (↑c22.length:Int)∧i20 < (↑d24.length:Int)) (fun h34=>?_) fun h34=>?_
 refine sK<|sn<|sq<|bL 3<|sq<|rA cx [2,3,8,9,10] [2,3,9,10] (fA ((0:Int)≤i20) (fG c104 c22 i20.toNat (fR (3:Nat) (fN 3 3 (fA ((0:Int)≤i20) (fG c104 d24 i20.toNat (fR (3:Nat) (fN 3 3 (oR 3 (c104 c22[i20.toNat]!) (oR 8 (c104 d24[i20.toNat]!) z0))))))))))<|sn<|sq<|sq<|rG cx [2,3,8,9,10,73] [2,3,9,10] (tN 4 c22[i20.toNat]!.rep d24[i20.toNat]!.rep z0)<|sn<|dC (¬c22[i20.toNat]!.rep=d24[i20.toNat]!.rep) (fun h35=>?_) fun h35=>?_
 refine sq<|rG cx [4] [] (fT (con196 (c22[i20.toNat]!.rep) (d24[i20.toNat]!.rep)) (oA 4 (.i .i64 (cmpI c22[i20.toNat]!.rep d24[i20.toNat]!.rep)) z0))<|sn<|rT<|nR<|bR<|nR<|nR<|bR<|nR<|qR (.i .i64 (cmpI c22[i20.toNat]!.rep d24[i20.toNat]!.rep)) (.eq ?g9);rotate_left
 refine sK<|sn<|sq<|sq<|rG cx [2,3,8,9,10,83] [2,3,9,10] (tN 4 c22[i20.toNat]!.lo d24[i20.toNat]!.lo z0)<|sn<|dC (¬c22[i20.toNat]!.lo=d24[i20.toNat]!.lo) (fun h36=>?_) fun h36=>?_
 refine sq<|rG cx [4] [] (fT (con196 (c22[i20.toNat]!.lo) (d24[i20.toNat]!.lo)) (oA 4 (.i .i64 (cmpI c22[i20.toNat]!.lo d24[i20.toNat]!.lo)) z0))<|sn<|rT<|nR<|bR<|nR<|nR<|bR<|nR<|qR (.i .i64 (cmpI c22[i20.toNat]!.lo d24[i20.toNat]!.lo)) (.eq ?g10);rotate_left
 refine sK<|sn<|sq<|rG cx [2,3,8,9,10,93] [2,3,9,10] (tN 4 c22[i20.toNat]!.hi d24[i20.toNat]!.hi z0)<|sn<|dC (¬c22[i20.toNat]!.hi=d24[i20.toNat]!.hi) (fun h37=>?_) fun h37=>?_
 refine sq<|rG cx [4] [] (fT (con196 (c22[i20.toNat]!.hi) (d24[i20.toNat]!.hi)) (oA 4 (.i .i64 (cmpI c22[i20.toNat]!.hi d24[i20.toNat]!.hi)) z0))<|sn<|rT<|bR<|nR<|nR<|bR<|nR<|qR (.i .i64 (cmpI c22[i20.toNat]!.hi d24[i20.toNat]!.hi)) (.eq ?g11);rotate_left
 refine sK<|bN<|sn<|rG cx [2,3,8] [2,3] (tT 1 (told_i64 (by omega) ?g12:AV.i .i64 (IntKind.i64.wrap (i20+(1:Int)))=AV.i .i64 (i20+(1:Int))) z0) ?_;rotate_left
 refine sn<|loop_next ((i20+(1:Int),u21,c22,v23,d24)) (by kernel_rfl) (show ((↑(normP p).cloud.length:Int)-(i20+(1:Int))).toNat < ((↑(normP p).cloud.length:Int)-i20).toNat from ?g13) (show invRd (normP p) (normP q) (i20+(1:Int)) u21 c22 v23 d24 from ?g14);rotate_left 2
 refine eX 2<|nE<|nE<|bH<|sn<|sq<|rG cx [4] [] (tL 2 c104 c22 (tL 5 c104 d24 (fT (con196 ((↑c22.length:Int)) ((↑d24.length:Int))) (oA 6 (.i .i64 (cmpI (↑c22.length:Int) (↑d24.length:Int))) z0))))<|sn<|rT<|qR (.i .i64 (cmpI (↑c22.length:Int) (↑d24.length:Int))) (.eq ?g15);rotate_left
 rotate_left
 revert r0 u1 c2 v3 d4 h6 h7 h8 h9 h10 h11 h12 h13 h14 h15 h16;rotate_left
 revert r0 u1 c2 v3 d4 h6 h7 h8 h9 h10 h11 h12 h13 h14 h15 h16;rotate_left
 revert r0 u1 c2 v3 d4 h6 h7 h8 h9 h10 h11 h12 h13 h14 h15 h17;rotate_left
 revert r0 u1 c2 v3 d4 h6 h7 h8 h9 h10 h11 h12 h13 h14 h15 h17;rotate_left
 revert r0 u1 c2 v3 d4 h6 h7 h8 h9 h10 h11 h12 h13 h14 h18 h19;rotate_left
 revert r0 u1 c2 v3 d4 h6 h7 h8 h9 h10 h11 h12 h13 h14 h18 h19;rotate_left
 revert r0 u1 c2 v3 d4 h6 h7 h8 h9 h10 h11 h12 h13 h14 h18;rotate_left
 revert r0 u1 c2 v3 d4 h6 h7 h8 h9 h10 h11 h12 h13;rotate_left
 revert r0 u1 c2 v3 d4 h6 h7 h8 h9 h10 h11 h12 h13 i20 u21 c22 v23 d24 h26 h27 h28 h29 h30 h31 h34 h35;rotate_left
 revert r0 u1 c2 v3 d4 h6 h7 h8 h9 h10 h11 h12 h13 i20 u21 c22 v23 d24 h26 h27 h28 h29 h30 h31 h34 h35 h36;rotate_left
 revert r0 u1 c2 v3 d4 h6 h7 h8 h9 h10 h11 h12 h13 i20 u21 c22 v23 d24 h26 h27 h28 h29 h30 h31 h34 h35 h36 h37;rotate_left
 revert r0 u1 c2 v3 d4 h6 h7 h8 h9 h10 h11 h12 h13 i20 u21 c22 v23 d24 h26 h27 h28 h29 h30 h31 h34 h35 h36 h37;rotate_left
 revert r0 u1 c2 v3 d4 h6 h7 h8 h9 h10 h11 h12 h13 i20 u21 c22 v23 d24 h26 h27 h28 h29 h30 h31 h34 h35 h36 h37;rotate_left
 revert r0 u1 c2 v3 d4 h6 h7 h8 h9 h10 h11 h12 h13 i20 u21 c22 v23 d24 h26 h27 h28 h29 h30 h31 h34 h35 h36 h37;rotate_left
 revert r0 u1 c2 v3 d4 h6 h7 h8 h9 h10 h11 h12 h13 i20 u21 c22 v23 d24 h26 h27 h28 h29 h30 h31 h34;rotate_left
 case g0=>exact ⟨Eq.refl _,Eq.refl _,Eq.refl _,Eq.refl _,by omega,by omega,Eq.refl _⟩
 case g1=>intro r u c v d e1 e2 e3 e4 h0 h1 h h2 h3 h4 h5;exact congrArg (AV.i .i64) (D e1 e3 h0 h2 (Eq.refl _) (Eq.refl _) h5 h)
 case g2=>intro r u c v d e1 e2 e3 e4 h0 h1 h h2 h3 h4 h5;exact N e1 e2 e3 e4 h0 h2 (Eq.refl _) (Eq.refl _) h5 h
 case g3=>intro r u c v d e1 e2 e3 e4 h0 h1 h h2 h3 h4 h5;exact congrArg (AV.i .i64) (D e1 e3 h0 h2 (Eq.refl _) (bang_no h0 h4) h5 h)
 case g4=>intro r u c v d e1 e2 e3 e4 h0 h1 h h2 h3 h4 h5;exact N e1 e2 e3 e4 h0 h2 (Eq.refl _) (bang_no h0 h4) h5 h
 case g5=>intro r u c v d e1 e2 e3 e4 h0 h1 h h2 h3 h4 h5;exact congrArg (AV.i .i64) (D e1 e3 h0 h2 (bang_no h0 h3) (Eq.refl _) h5 h)
 case g6=>intro r u c v d e1 e2 e3 e4 h0 h1 h h2 h3 h4 h5;exact N e1 e2 e3 e4 h0 h2 (bang_no h0 h3) (Eq.refl _) h5 h
 case g7=>intro r u c v d e1 e2 e3 e4 h0 h1 h h2 h3 h4;exact N e1 e2 e3 e4 h0 h2 (bang_no h0 h3) (bang_no h0 h4) (fun k=>k (Eq.refl _)) h
 case g8=>intro r u c v d e1 e2 e3 e4 h0 h1 h h2;exact ⟨e2,e4,by omega,by omega,by omega,Eq.refl _⟩
 case g9 =>
  intro r u c v d e1 e2 e3 e4 h0 h1 h h2 i u' c' v' d' k0 k1 k2 k3 k4 k5 k6 k7
  exact congrArg (AV.i .i64) (E k0 k1 k2 k6 k5 (cf_end h1 h2 h) (cmpI_ne k7) (S1 k7))
 case g10 =>
  intro r u c v d e1 e2 e3 e4 h0 h1 h h2 i u' c' v' d' k0 k1 k2 k3 k4 k5 k6 k7 k8
  exact congrArg (AV.i .i64) (E k0 k1 k2 k6 k5 (cf_end h1 h2 h) (cmpI_ne k8) (S2 (Classical.not_not.1 k7) k8))
 case g11 =>
  intro r u c v d e1 e2 e3 e4 h0 h1 h h2 i u' c' v' d' k0 k1 k2 k3 k4 k5 k6 k7 k8 k9
  exact congrArg (AV.i .i64) (E k0 k1 k2 k6 k5 (cf_end h1 h2 h) (cmpI_ne k9) (S3 (Classical.not_not.1 k7) (Classical.not_not.1 k8)))
 case g12=>intro r u c v d e1 e2 e3 e4 h0 h1 h h2 i u' c' v' d' k0 k1 k2 k3 k4 k5 k6 k7 k8 k9;have:=(tabP_len (openT [p])).1;have k3:i≤((tabP (openT [p])).cloud.length:Int):=k3;omega
 case g13 =>
  intro r u c v d e1 e2 e3 e4 h0 h1 h h2 i u' c' v' d' k0 k1 k2 k3 k4 k5 k6 k7 k8 k9
  rw [k0] at k6
  generalize (normP p).cloud.length=L at *
  omega
 case g14 =>
  intro r u c v d e1 e2 e3 e4 h0 h1 h h2 i u' c' v' d' k0 k1 k2 k3 k4 k5 k6 k7 k8 k9
  have k6':=k6
  rw [k0,k1] at k6'
  have e:cmpS c'[i.toNat]! d'[i.toNat]! = 0:=by rw [← S3 (Classical.not_not.1 k7) (Classical.not_not.1 k8)];exact cmpI_zero.2 (Classical.not_not.1 k9)
  rw [k0,k1] at e
  have:=cc_next k2 k6'.1 k6'.2 e k5
  exact ⟨k0,k1,this.1,this.2.1,this.2.2.1,this.2.2.2⟩
 case g15 =>
  intro r u c v d e1 e2 e3 e4 h0 h1 h h2 i u' c' v' d' k0 k1 k2 k3 k4 k5 k6
  rw [k0,k1] at k6 ⊢
  refine congrArg (AV.i .i64) ?_
  rw [cp_cloud (cf_end h1 h2 h)]
  by_cases a:i < ((normP p).cloud.length:Int)
  ·have b:¬ i < ((normP q).cloud.length:Int):=fun b=>k6 ⟨a,b⟩
   rw [cc_more k2 a b k5]
   unfold cmpI
   rw [if_neg (by omega),if_pos (by omega)]
  ·by_cases b:i < ((normP q).cloud.length:Int)
   ·rw [cc_less k2 a b k5]
    unfold cmpI
    rw [if_pos (by omega)]
   ·rw [cc_same a b k5]
    unfold cmpI
    rw [if_neg (by omega),if_neg (by omega)]
end Go.Proofs.YtaiepnaokhpmcaaGreat
namespace Go.Proofs.YtaiepnaokhpmcaaGreat
open Go.E
set_option maxRecDepth 100000
set_option maxHeartbeats 4000000
def dLt (a b:Dot):Bool:=decide (a.rep < b.rep∨a.rep=b.rep∧a.num < b.num)
def entE (e:Entry):Int:=if e.dot.rep < 0∨16≤e.dot.rep then 3 else if e.dot.num < 1∨1000000000 < e.dot.num then 2 else if good e.sku=false then 5 else if e.qty < 1∨1000000 < e.qty then 6 else 0
def okAt (es:List Entry) (i:Nat):Bool:=decide (entE es[i]! = 0) && (decide (i=0) || dLt es[i-1]!.dot es[i]!.dot)
def okL (es:List Entry):Bool:=allUp (okAt es) es.length
def lstE (es:List Entry):Int:=if okL es=true then 0 else 1
def invL (es:List Entry) (i:Int):Prop:=0≤i∧i≤es.length∧∀ j:Nat,(j:Int) < i→okAt es j=true
def decL (es:List Entry) (i:Int):Nat:=(es.length-i).toNat
theorem lstE_bad {es:List Entry} {i:Nat} (hi:i < es.length) (h:okAt es i=false):lstE es=1:=by
 unfold lstE okL
 rw [if_neg]
 intro k
 have:=(allUp_iff _ _).1 k i hi
 rw [h] at this;cases this
theorem lstE_ok {es:List Entry} (h:∀ j:Nat,j < es.length→okAt es j=true):lstE es=0:=by
 unfold lstE okL
 rw [if_pos ((allUp_iff _ _).2 h)]
def dec30i {α:Type} (es:List α) (i:Int):Nat:=(es.length-i).toNat
theorem okAt_iff (es:List Entry) (i:Nat):okAt es i=true↔entE es[i]! = 0∧(i=0∨dLt es[i-1]!.dot es[i]!.dot=true):=by
 unfold okAt
 rw [Bool.and_eq_true,Bool.or_eq_true,decide_eq_true_iff,decide_eq_true_iff]
theorem invL_step {es:List Entry} {i:Int} (h0:0≤i) (h1:i < es.length) (h2:∀ j:Nat,(j:Int) < i→okAt es j=true) (h:okAt es i.toNat=true):invL es (i+1) :=
 ⟨by omega,by omega,fun j hj=>by
  by_cases e:j=i.toNat
  ·rw [e];exact h
  ·exact h2 j (by omega)⟩
theorem not_okAt {es:List Entry} {i:Nat} (h:¬ okAt es i=true):okAt es i=false:=by simpa using h
theorem con111 (e:Entry):Con Tryz.prog 111 [.agg (c45 e)] (.i .i64 (entE e)) :=
 by
 refine st_con tab_ok (by kernel_rfl) [.tmp 2] 39 Go.Proofs.Tryz.func111 (by kernel_rfl) (by kernel_rfl) ?_
 intro e0 cx
 refine sq<|rG cx [1] [1] z0<|sn<|sq<|bL 0<|sq<|st_join (σ':=⟨[(1,.ptr (1) (0) (0) (0)),(3,.b (decide (e.dot.rep < (0:Int)∨(16:Int)≤e.dot.rep)))],[(1,⟨0,45,.var [.i .i64 (e.dot.rep),.i .i64 (e.dot.num),.s (e.sku),.i .i64 (e.qty)]⟩)]⟩) ?_ ?_
 refine st_split (e.dot.rep < (0:Int)) (fun h_1=>?_) (fun h_1=>?_)
 refine rG cx [1,3] [1] (tT 3 (told_true h_1) (tD 10 true (e.dot.rep < (0:Int)∨(16:Int)≤e.dot.rep) (by simp only [eq_true h_1,tsl]) z0)) ?_
 exact ⟨rfl,by kernel_rfl⟩
 refine rG cx [1,3] [1] (tT 3 (told_false h_1) (tB 8 ((16:Int)≤e.dot.rep) (tD 10 (decide ((16:Int)≤e.dot.rep)) (e.dot.rep < (0:Int)∨(16:Int)≤e.dot.rep) (by simp only [eq_false h_1,tsl]) z0))) ?_
 exact ⟨rfl,by kernel_rfl⟩
 refine sn<|dC (e.dot.rep < (0:Int)∨(16:Int)≤e.dot.rep) (fun h2=>?_) fun h2=>?_
 refine sq<|rG cx [2] [] z0<|sn<|rT<|bR<|nR<|qR (.i .i64 ((3:Int))) (.eq ?g0);rotate_left
 refine sq<|st_join (σ':=⟨[(1,.ptr (1) (0) (0) (0)),(14,.b (decide (e.dot.num < (1:Int)∨(1000000000:Int) < e.dot.num)))],[(1,⟨0,45,.var [.i .i64 (e.dot.rep),.i .i64 (e.dot.num),.s (e.sku),.i .i64 (e.qty)]⟩)]⟩) ?_ ?_
 refine st_split (e.dot.num < (1:Int)) (fun h_4=>?_) (fun h_4=>?_)
 refine rG cx [1,14] [1] (tT 3 (told_true h_4) (tD 10 true (e.dot.num < (1:Int)∨(1000000000:Int) < e.dot.num) (by simp only [eq_true h_4,tsl]) z0)) ?_
 exact ⟨rfl,by kernel_rfl⟩
 refine rG cx [1,14] [1] (tT 3 (told_false h_4) (tB 8 ((1000000000:Int) < e.dot.num) (tD 10 (decide ((1000000000:Int) < e.dot.num)) (e.dot.num < (1:Int)∨(1000000000:Int) < e.dot.num) (by simp only [eq_false h_4,tsl]) z0))) ?_
 exact ⟨rfl,by kernel_rfl⟩
 refine sn<|dC (e.dot.num < (1:Int)∨(1000000000:Int) < e.dot.num) (fun h5=>?_) fun h5=>?_
 refine sq<|rG cx [2] [] z0<|sn<|rT<|bR<|nR<|qR (.i .i64 ((2:Int))) (.eq ?g1);rotate_left
 refine sq<|rG cx [1,25] [1] (fT (con138 (e.sku)) (tT 3 (told_not:(AV.b !good e.sku)=AV.b (decide ¬good e.sku=true)) (oA 2 (.b (good e.sku)) z0)))<|sn<|dC (¬good e.sku=true) (fun h6=>?_) fun h6=>?_
 refine sq<|rG cx [2] [] z0<|sn<|rT<|bR<|nR<|qR (.i .i64 ((5:Int))) (.eq ?g2);rotate_left
 refine sq<|st_join (σ':=⟨[(30,.b (decide (e.qty < (1:Int)∨(1000000:Int) < e.qty)))],[]⟩) ?_ ?_
 refine st_split (e.qty < (1:Int)) (fun h_8=>?_) (fun h_8=>?_)
 refine rG cx [30] [] (tT 2 (told_true h_8) (tD 8 true (e.qty < (1:Int)∨(1000000:Int) < e.qty) (by simp only [eq_true h_8,tsl]) z0)) ?_
 exact ⟨rfl,by kernel_rfl⟩
 refine rG cx [30] [] (tT 2 (told_false h_8) (tB 6 ((1000000:Int) < e.qty) (tD 8 (decide ((1000000:Int) < e.qty)) (e.qty < (1:Int)∨(1000000:Int) < e.qty) (by simp only [eq_false h_8,tsl]) z0))) ?_
 exact ⟨rfl,by kernel_rfl⟩
 refine sn<|dC (e.qty < (1:Int)∨(1000000:Int) < e.qty) (fun h9=>?_) fun h9=>?_
 refine sq<|rG cx [2] [] z0<|sn<|rT<|bR<|nR<|qR (.i .i64 ((6:Int))) (.eq ?g3);rotate_left
 refine sK<|bN<|sn<|sq<|rG cx [2] [] z0<|sn<|rT<|qR (.i .i64 ((0:Int))) (.eq ?g4);rotate_left
 revert h2;rotate_left
 revert h2 h5;rotate_left
 revert h2 h5 h6;rotate_left
 revert h2 h5 h6 h9;rotate_left
 revert h2 h5 h6 h9;rotate_left
 case' g4=>refine (fun h k l m=>?_)
 case' g3=>refine (fun h k l m=>?_)
 case' g2=>refine (fun h k l=>?_)
 case' g1=>refine (fun h k=>?_)
 case' g0=>refine (fun h=>?_)
 all_goals (unfold entE)
 ·rw [if_pos h]
 ·rw [if_neg h,if_pos k]
 ·rw [if_neg h,if_neg k,if_pos (by simpa using l)]
 ·rw [if_neg h,if_neg k,if_neg (by simpa using l),if_pos m]
 ·rw [if_neg h,if_neg k,if_neg (by simpa using l),if_neg m]
theorem con112 (a b:Dot):Con Tryz.prog 112 [.agg (c43 a),.agg (c43 b)] (.b (dLt a b)) :=
 by
 refine st_con tab_ok (by kernel_rfl) [.tmp 4] 24 Go.Proofs.Tryz.func112 (by kernel_rfl) (by kernel_rfl) ?_
 intro e0 cx
 refine sq<|rG cx [2,3] [2,3] z0<|sn<|sq<|st_join (σ':=⟨[(4,.b (decide (a.rep < b.rep∨a.rep=b.rep∧a.num < b.num)))],[]⟩) ?_ ?_
 refine st_split (a.rep < b.rep) (fun h_1=>?_) (fun h_1=>?_)
 refine rG cx [4] [] (tT 4 (told_true h_1) (tD 19 true (a.rep < b.rep∨a.rep=b.rep∧a.num < b.num) (by simp only [eq_true h_1,tsl]) z0)) ?_
 exact ⟨rfl,by kernel_rfl⟩
 refine st_split (a.rep=b.rep) (fun h_2=>?_) (fun h_2=>?_)
 refine rG cx [4] [] (tT 4 (told_false h_1) (tT 10 (told_true h_2) (tB 16 (a.num < b.num) (tD 19 (decide (a.num < b.num)) (a.rep < b.rep∨a.rep=b.rep∧a.num < b.num) (by simp only [eq_false h_1,eq_true h_2,tsl]) z0)))) ?_
 exact ⟨rfl,by kernel_rfl⟩
 refine rG cx [4] [] (tT 4 (told_false h_1) (tT 10 (told_false h_2) (tD 19 false (a.rep < b.rep∨a.rep=b.rep∧a.num < b.num) (by simp only [eq_false h_1,eq_false h_2,tsl]) z0))) ?_
 exact ⟨rfl,by kernel_rfl⟩
 refine sn<|rT<|qR (.b (decide (a.rep < b.rep∨a.rep=b.rep∧a.num < b.num))) (.eq ?g0);rotate_left
 case g0=>exact rfl
theorem con65 (es:List Entry):Con Tryz.prog 65 [.sl (es.map c45)] (.i .i64 (lstE es)) :=
 by
 have e:∀ {i:Int},0≤i→(i-1).toNat=i.toNat-1:=fun {i} h=>by omega
 refine con_lens 0 (c45) (es) (by kernel_rfl) Go.Proofs.Tryz.func65 (by kernel_rfl) fun hl_0=>st_con tab_ok (by kernel_rfl) [.tmp 2] 32 Go.Proofs.Tryz.func65 (by kernel_rfl) (by kernel_rfl) ?_
 intro e0 cx
 refine sq<|rG cx [0] [] z0<|sn<|sq<|sq<|rG cx [0,5,6,7] [] (tL 1 c45 es z0)<|sn<|bL 0<|st_loop (X:=Int) (fun x=>⟨[(0,.sl (List.map c45 es)),(5,.sl (List.map c45 es)),(6,.i .i64 ((↑es.length:Int))),(7,.i .i64 (x))],[]⟩) (fun x ↦ decL es x) (fun x ↦ invL es x) [0,5,6,7] [] ((0:Int)) (by kernel_rfl) (by kernel_rfl) (show invL es (0:Int) from ?g0) ?_;rotate_left
 intro i0 h_1
 obtain ⟨hh2,hh3,hh4⟩:(0:Int)≤i0∧i0≤(↑es.length:Int)∧∀ (j:Nat),(↑j:Int) < i0→okAt es j=true:=h_1
 refine sq<|rG cx [0,5,6,7,8] [] (tB 0 (i0 < (↑es.length:Int)) z0)<|sn<|sq<|dC (i0 < (↑es.length:Int)) (fun hh5=>?_) fun hh5=>?_
 refine sK<|sn<|sq<|bL 1<|sq<|rG cx [0,5,6,7,4,3] [4] (fA ((0:Int)≤i0) (fG c45 es i0.toNat (fR (4:Nat) (fN 4 4 (oR 1 (c45 es[i0.toNat]!) z0)))))<|sn<|sq<|st_join (σ':=⟨[(0,.sl (List.map c45 es)),(5,.sl (List.map c45 es)),(6,.i .i64 ((↑es.length:Int))),(7,.i .i64 (i0)),(30,.b (decide (¬entE es[i0.toNat]! = (0:Int)∨(0:Int) < i0∧¬dLt es[(i0-(1:Int)).toNat]!.dot es[i0.toNat]!.dot=true)))],[]⟩) ?_ ?_
 refine st_split (¬entE es[i0.toNat]! = (0:Int)) (fun h_7=>?_) (fun h_7=>?_)
 refine rA cx [0,5,6,7,30] [] (fT (con111 (es[i0.toNat]!)) (tT 2 (told_neqt h_7:AV.b (entE es[i0.toNat]! != (0:Int))=AV.b true) (tD 18 true (¬entE es[i0.toNat]! = (0:Int)∨(0:Int) < i0∧¬dLt es[(i0-(1:Int)).toNat]!.dot es[i0.toNat]!.dot=true) (by simp only [eq_false h_7,tsl]) (oA 1 (.i .i64 (entE es[i0.toNat]!)) z0)))) ?_
 exact ⟨rfl,by kernel_rfl⟩
 refine st_split ((0:Int) < i0) (fun h_8=>?_) (fun h_8=>?_)
 refine rA cx [0,5,6,7,30] [] (fT (con111 (es[i0.toNat]!)) (tN 2 (entE es[i0.toNat]!) (0:Int) (tT 3 (told_false h_7) (tT 5 (told_true h_8) (tW 9 (i0-(1:Int)) (fO ((0:Int)≤i0-(1:Int)) (fG c45 es ((i0-(1:Int)).toNat) (fR (4:Nat) (fN 2 4 (fT (con112 (es[(i0-(1:Int)).toNat]!.dot) (es[i0.toNat]!.dot)) (tT 16 (told_not:(AV.b !dLt es[(i0-(1:Int)).toNat]!.dot es[i0.toNat]!.dot)=AV.b (decide ¬dLt es[(i0-(1:Int)).toNat]!.dot es[i0.toNat]!.dot=true)) (tT 18 (by first | (simp only [eq_false h_7,eq_true h_8,tsl];done) | simp_all:AV.b (decide ¬dLt es[(i0-(1:Int)).toNat]!.dot es[i0.toNat]!.dot=true)=AV.b (decide (¬entE es[i0.toNat]! = (0:Int)∨(0:Int) < i0∧¬dLt es[(i0-(1:Int)).toNat]!.dot es[i0.toNat]!.dot=true))) (oA 1 (.i .i64 (entE es[i0.toNat]!)) (oR 10 (c45 es[(i0-(1:Int)).toNat]!) (oA 15 (.b (dLt es[(i0-(1:Int)).toNat]!.dot es[i0.toNat]!.dot)) z0))))))))))))))) ?_
 exact ⟨rfl,by kernel_rfl⟩
 refine rA cx [0,5,6,7,30] [] (fT (con111 (es[i0.toNat]!)) (tN 2 (entE es[i0.toNat]!) (0:Int) (tT 3 (told_false h_7) (tT 5 (told_false h_8) (tT 18 (by first | (simp only [eq_false h_7,eq_false h_8,tsl];done) | simp_all:AV.b false=AV.b (decide (¬entE es[i0.toNat]! = (0:Int)∨(0:Int) < i0∧¬dLt es[(i0-(1:Int)).toNat]!.dot es[i0.toNat]!.dot=true))) (oA 1 (.i .i64 (entE es[i0.toNat]!)) z0)))))) ?_
 exact ⟨rfl,by kernel_rfl⟩
 refine sn<|dC (¬entE es[i0.toNat]! = (0:Int)∨(0:Int) < i0∧¬dLt es[(i0-(1:Int)).toNat]!.dot es[i0.toNat]!.dot=true) (fun h9=>?_) fun h9=>?_
 refine sq<|rG cx [2] [] z0<|sn<|rT<|bR<|nR<|nR<|bR<|nR<|qR (.i .i64 ((1:Int))) (.eq ?g1);rotate_left
 refine sK<|bN<|sn<|rG cx [0,5,6,7] [] (tW 0 (i0+(1:Int)) z0)<|sn<|loop_next (i0+(1:Int)) (by kernel_rfl) (show ((↑es.length:Int)-(i0+(1:Int))).toNat < ((↑es.length:Int)-i0).toNat from (by omega)) (show invL es (i0+(1:Int)) from ?g2);rotate_left
 refine eX 0<|nE<|nE<|bH<|sn<|sq<|rG cx [2] [] z0<|sn<|rT<|qR (.i .i64 ((0:Int))) (.eq ?g3);rotate_left
 rotate_left
 revert i0 hh2 hh3 hh4 hh5 h9;rotate_left
 revert i0 hh2 hh3 hh4 hh5 h9;rotate_left
 revert i0 hh2 hh3 hh4 hh5;rotate_left
 case g0=>exact ⟨by omega,by omega,fun j hj=>by omega⟩
 case' g3=>refine (fun i h0 h1 h2 h3=>?_)
 case' g2=>refine (fun i h0 h1 h2 h3 h4=>?_)
 case' g1=>refine (fun i h0 h1 h2 h3 h4=>?_)
 ·rw [lstE_bad (i:=i.toNat) (by omega) (not_okAt _)]
  rw [e h0] at h4
  rw [okAt_iff];rintro ⟨a,b⟩
  rcases h4 with h4 | ⟨h4,h5⟩
  ·exact h4 a
  ·rcases b with b | b
   ·omega
   ·exact h5 b
 ·rw [e h0] at h4
  refine invL_step h0 h3 h2 ((okAt_iff _ _).2 ⟨Classical.byContradiction fun a=>h4 (.inl a),?_⟩)
  by_cases c:i.toNat=0
  ·exact .inl c
  ·exact .inr (Classical.byContradiction fun a=>h4 (.inr ⟨by omega,a⟩))
 ·rw [lstE_ok fun j hj=>h2 j (by omega)]
end Go.Proofs.YtaiepnaokhpmcaaGreat
namespace Go.Proofs.YtaiepnaokhpmcaaGreat
open Go.E
set_option maxRecDepth 100000
set_option maxHeartbeats 4000000
def szP (p:Past):Prop:=p.cloud.length*16≤140737488350000∧p.vec.length≤9223372036854775807
def szQ (rs:List Record):Prop:=∀ r∈rs,szP r.past
theorem szQ_s {rs:List Record} (h:szQ rs):szRs rs:=fun r hr=>(h r hr).1
theorem szQ_at {rs:List Record} (h:szQ rs) {i:Int} (h0:0≤i) (hi:i < rs.length):szP rs[i.toNat]!.past:=h _ (bang_in (by omega))
theorem szQ_at' {rs:List Record} (h:szQ rs) {i:Int} (h0:0 < i) (hi:i < rs.length):szP rs[(i-1).toNat]!.past:=h _ (bang_in (by omega))
end Go.Proofs.YtaiepnaokhpmcaaGreat
namespace Go.Proofs.YtaiepnaokhpmcaaGreat
open Go.E
set_option maxRecDepth 100000
set_option maxHeartbeats 4000000
theorem entE_zero {e:Entry}:entE e=0↔dotB e.dot=true∧good e.sku=true∧1≤e.qty∧e.qty≤1000000:=by
 unfold entE dotB
 rw [decide_eq_true_iff]
 by_cases a:e.dot.rep < 0∨16≤e.dot.rep
 ·rw [if_pos a];omega
 ·rw [if_neg a]
  by_cases b:e.dot.num < 1∨1000000000 < e.dot.num
  ·rw [if_pos b];omega
  ·rw [if_neg b]
   cases c:good e.sku with
   | false=>simp
   | true =>
    rw [if_neg (by simp)]
    by_cases d:e.qty < 1∨1000000 < e.qty
    ·rw [if_pos d]
     exact ⟨fun h=>by omega,fun h=>by have:=h.2.2.1;have:=h.2.2.2;omega⟩
    ·rw [if_neg d]
     exact ⟨fun _=>⟨by omega,rfl,by omega,by omega⟩,fun _=>rfl⟩
theorem rec_lt {r s:Record}:cmpRec r s < 0↔sLt r.sku s.sku=true∨r.sku=s.sku∧cmpP r.past s.past < 0:=by
 unfold cmpRec
 by_cases e:cmpSt r.sku s.sku=0
 ·rw [if_neg (by simpa using e)]
  have e2:=cmpSt_zero.1 e
  constructor
  ·exact fun h=>.inr ⟨e2,h⟩
  ·rintro (h | h)
   ·rw [e2] at h;exact absurd h (sLt_irr _)
   ·exact h.2
 ·rw [if_pos e,cmpSt_less]
  by_cases a:sLt r.sku s.sku=true
  ·rw [if_pos a];exact ⟨fun _=>.inl a,fun _=>by omega⟩
  ·rw [if_neg a]
   constructor
   ·intro h
    split at h <;> omega
   ·rintro (h | h)
    ·exact absurd h a
    ·exact absurd (cmpSt_zero.2 h.1) e
theorem okF_is (f:Facts):∃ b:Bool,b=decide (lstE f.adds=0∧f.gone=normP f.gone∧recE f.recs=0):=⟨_,rfl⟩
noncomputable def okF (f:Facts):Bool:=Classical.choose (okF_is f)
theorem okF_eq (f:Facts):okF f=decide (lstE f.adds=0∧f.gone=normP f.gone∧recE f.recs=0):=Classical.choose_spec (okF_is f)
def szF (f:Facts):Prop:=szP f.gone∧szQ f.recs
theorem con120 (e:Entry):Con Tryz.prog 120 [.agg (c45 e)] (.b (decide (entE e=0))) :=
 by
 refine st_con tab_ok (by kernel_rfl) [.tmp 2] 21 Go.Proofs.Tryz.func120 (by kernel_rfl) (by kernel_rfl) ?_
 intro e0 cx
 refine sq<|rG cx [1] [1] z0<|sn<|sq<|st_join (σ':=⟨[(2,.b (decide (dotB e.dot=true∧good e.sku=true∧(1:Int)≤e.qty∧e.qty≤(1000000:Int))))],[]⟩) ?_ ?_
 refine st_split (dotB e.dot=true) (fun h_1=>?_) (fun h_1=>?_)
 refine st_split (good e.sku=true) (fun h_2=>?_) (fun h_2=>?_)
 refine st_split ((1:Int)≤e.qty) (fun h_3=>?_) (fun h_3=>?_)
 refine rg (A:=_∧_∧_∧_∧_∧(AV.b (decide (e.qty≤(1000000:Int)))=AV.b (decide (e.qty≤(1000000:Int))))∧(AV.b (decide (e.qty≤(1000000:Int)))=AV.b (decide (dotB e.dot=true∧good e.sku=true∧(1:Int)≤e.qty∧e.qty≤(1000000:Int))))) cx [(2,{ val:=some (.b (dotB e.dot)),tell:=some (.b (true)) }),(6,{ val:=some (.b (good e.sku)),tell:=some (.b (true)) }),(11,{ tell:=some (.b (true)) }),(16,{ tell:=some (.b (decide (e.qty≤(1000000:Int)))) }),(18,{ tell:=some (.b (decide (dotB e.dot=true∧good e.sku=true∧(1:Int)≤e.qty∧e.qty≤(1000000:Int)))) })] [2] [] ⟨(told_eqt h_1),(con88 (e.dot)),(told_eqt h_2),(con125 (e.sku)),(told_true h_3),(by kernel_rfl),(by simp only [eq_true h_1,eq_true h_2,eq_true h_3,tsl])⟩ ?_
 exact ⟨rfl,by kernel_rfl⟩
 refine rg (A:=_∧_∧_∧_∧_∧(AV.b false=AV.b (decide (dotB e.dot=true∧good e.sku=true∧(1:Int)≤e.qty∧e.qty≤(1000000:Int))))) cx [(2,{ val:=some (.b (dotB e.dot)),tell:=some (.b (true)) }),(6,{ val:=some (.b (good e.sku)),tell:=some (.b (true)) }),(11,{ tell:=some (.b (false)) }),(18,{ tell:=some (.b (decide (dotB e.dot=true∧good e.sku=true∧(1:Int)≤e.qty∧e.qty≤(1000000:Int)))) })] [2] [] ⟨(told_eqt h_1),(con88 (e.dot)),(told_eqt h_2),(con125 (e.sku)),(told_false h_3),(by simp only [eq_true h_1,eq_true h_2,eq_false h_3,tsl])⟩ ?_
 exact ⟨rfl,by kernel_rfl⟩
 refine rg (A:=_∧_∧_∧_∧(AV.b false=AV.b (decide (dotB e.dot=true∧good e.sku=true∧(1:Int)≤e.qty∧e.qty≤(1000000:Int))))) cx [(2,{ val:=some (.b (dotB e.dot)),tell:=some (.b (true)) }),(6,{ val:=some (.b (good e.sku)),tell:=some (.b (false)) }),(18,{ tell:=some (.b (decide (dotB e.dot=true∧good e.sku=true∧(1:Int)≤e.qty∧e.qty≤(1000000:Int)))) })] [2] [] ⟨(told_eqt h_1),(con88 (e.dot)),(told_eqn h_2),(con125 (e.sku)),(by simp only [eq_true h_1,eq_false h_2,tsl])⟩ ?_
 exact ⟨rfl,by kernel_rfl⟩
 refine rg (A:=_∧_∧(AV.b false=AV.b (decide (dotB e.dot=true∧good e.sku=true∧(1:Int)≤e.qty∧e.qty≤(1000000:Int))))) cx [(2,{ val:=some (.b (dotB e.dot)),tell:=some (.b (false)) }),(18,{ tell:=some (.b (decide (dotB e.dot=true∧good e.sku=true∧(1:Int)≤e.qty∧e.qty≤(1000000:Int)))) })] [2] [] ⟨(told_eqn h_1),(con88 (e.dot)),(by simp only [eq_false h_1,tsl])⟩ ?_
 exact ⟨rfl,by kernel_rfl⟩
 refine sn<|rT<|qR (.b (decide (dotB e.dot=true∧good e.sku=true∧(1:Int)≤e.qty∧e.qty≤(1000000:Int)))) (.eq ?g0);rotate_left
 case g0=>rw [decide_eq_decide.2 entE_zero]
theorem con73 (a b:Dot):Con Tryz.prog 73 [.agg (c43 a),.agg (c43 b)] (.b (dLt a b)) :=
 by
 refine st_con tab_ok (by kernel_rfl) [.tmp 4] 24 Go.Proofs.Tryz.func73 (by kernel_rfl) (by kernel_rfl) ?_
 intro e0 cx
 refine sq<|rG cx [2,3] [2,3] z0<|sn<|sq<|st_join (σ':=⟨[(4,.b (decide (a.rep < b.rep∨a.rep=b.rep∧a.num < b.num)))],[]⟩) ?_ ?_
 refine st_split (a.rep < b.rep) (fun h_1=>?_) (fun h_1=>?_)
 refine rG cx [4] [] (tT 4 (told_true h_1) (tD 19 true (a.rep < b.rep∨a.rep=b.rep∧a.num < b.num) (by simp only [eq_true h_1,tsl]) z0)) ?_
 exact ⟨rfl,by kernel_rfl⟩
 refine st_split (a.rep=b.rep) (fun h_2=>?_) (fun h_2=>?_)
 refine rG cx [4] [] (tT 4 (told_false h_1) (tT 10 (told_true h_2) (tB 16 (a.num < b.num) (tD 19 (decide (a.num < b.num)) (a.rep < b.rep∨a.rep=b.rep∧a.num < b.num) (by simp only [eq_false h_1,eq_true h_2,tsl]) z0)))) ?_
 exact ⟨rfl,by kernel_rfl⟩
 refine rG cx [4] [] (tT 4 (told_false h_1) (tT 10 (told_false h_2) (tD 19 false (a.rep < b.rep∨a.rep=b.rep∧a.num < b.num) (by simp only [eq_false h_1,eq_false h_2,tsl]) z0))) ?_
 exact ⟨rfl,by kernel_rfl⟩
 refine sn<|rT<|qR (.b (decide (a.rep < b.rep∨a.rep=b.rep∧a.num < b.num))) (.eq ?g0);rotate_left
 case g0=>exact rfl
theorem con71 (es:List Entry):Con Tryz.prog 71 [.sl (es.map c45)] (.b (decide (lstE es=0))) :=
 by
 have e:∀ {i:Int},0≤i→(i-1).toNat=i.toNat-1:=fun {i} h=>by omega
 refine con_lens 0 (c45) (es) (by kernel_rfl) Go.Proofs.Tryz.func71 (by kernel_rfl) fun hl_0=>st_con tab_ok (by kernel_rfl) [.tmp 2] 35 Go.Proofs.Tryz.func71 (by kernel_rfl) (by kernel_rfl) ?_
 intro e0 cx
 refine sq<|rG cx [0] [] z0<|sn<|sq<|sq<|rG cx [0,3] [] z0<|sn<|bL 0<|st_loop (X:=Int) (fun x=>⟨[(0,.sl (List.map c45 es)),(3,.i .i64 (x))],[]⟩) (fun x ↦ decL es x) (fun x ↦ invL es x) [0,3] [] ((0:Int)) (by kernel_rfl) (by kernel_rfl) (show invL es (0:Int) from ?g0) ?_;rotate_left
 intro i0 h_1
 obtain ⟨hh2,hh3,hh4⟩:(0:Int)≤i0∧i0≤(↑es.length:Int)∧∀ (j:Nat),(↑j:Int) < i0→okAt es j=true:=h_1
 refine sq<|sq<|rG cx [0,3,7] [] (tL 2 c45 es (tB 3 (i0 < (↑es.length:Int)) z0))<|sn<|dC (i0 < (↑es.length:Int)) (fun hh5=>?_) fun hh5=>?_
 refine sK<|sn<|sq<|bL 1<|sq<|st_join (σ':=⟨[(0,.sl (List.map c45 es)),(3,.i .i64 (i0)),(34,.b (decide (¬entE es[i0.toNat]! = (0:Int)∨(0:Int) < i0∧¬dLt es[(i0-(1:Int)).toNat]!.dot es[i0.toNat]!.dot=true)))],[]⟩) ?_ ?_
 refine st_split (¬entE es[i0.toNat]! = (0:Int)) (fun h_7=>?_) (fun h_7=>?_)
 refine ra (A:=((0:Int)≤i0)∧((List.map c45 es)[i0.toNat]?=some (c45 es[i0.toNat]!))∧((c45 es[i0.toNat]!).length=(4:Nat))∧((4:Nat)≤[AV.i .i64 es[i0.toNat]!.dot.rep,AV.i .i64 es[i0.toNat]!.dot.num,AV.s es[i0.toNat]!.sku,AV.i .i64 es[i0.toNat]!.qty].length)∧_∧_∧(AV.b true=AV.b (decide (¬entE es[i0.toNat]! = (0:Int)∨(0:Int) < i0∧¬dLt es[(i0-(1:Int)).toNat]!.dot es[i0.toNat]!.dot=true)))) cx [(2,{ row:=(c45 es[i0.toNat]!) }),(4,{ val:=some (.b (decide (entE es[i0.toNat]! = (0:Int)))),tell:=some (.b (false)) }),(24,{ tell:=some (.b (decide (¬entE es[i0.toNat]! = (0:Int)∨(0:Int) < i0∧¬dLt es[(i0-(1:Int)).toNat]!.dot es[i0.toNat]!.dot=true))) })] [0,3,34] [] ⟨(by (with_reducible assumption)),(by (with_reducible refine get_map ?_;omega)),(by kernel_rfl),(by (simp only [List.length_append,List.length_cons,List.length_nil];omega)),(told_false h_7),(con120 (es[i0.toNat]!)),(by simp only [eq_false h_7,tsl])⟩ ?_
 exact ⟨rfl,by kernel_rfl⟩
 refine st_split ((0:Int) < i0) (fun h_8=>?_) (fun h_8=>?_)
 refine rA cx [0,3,34] [] (fA ((0:Int)≤i0) (fG c45 es i0.toNat (fR (4:Nat) (fN 4 4 (fT (con120 (es[i0.toNat]!)) (tQ 5 (entE es[i0.toNat]! = (0:Int)) (tT 6 (told_false h_7) (tT 8 (told_true h_8) (tW 12 (i0-(1:Int)) (fO ((0:Int)≤i0-(1:Int)) (fG c45 es ((i0-(1:Int)).toNat) (fR (4:Nat) (fN 2 4 (fA ((0:Int)≤i0) (fG c45 es i0.toNat (fR (4:Nat) (fN 2 4 (fT (con73 (es[(i0-(1:Int)).toNat]!.dot) (es[i0.toNat]!.dot)) (tT 22 (told_not:(AV.b !dLt es[(i0-(1:Int)).toNat]!.dot es[i0.toNat]!.dot)=AV.b (decide ¬dLt es[(i0-(1:Int)).toNat]!.dot es[i0.toNat]!.dot=true)) (tT 24 (by first | (simp only [eq_false h_7,eq_true h_8,tsl];done) | simp_all:AV.b (decide ¬dLt es[(i0-(1:Int)).toNat]!.dot es[i0.toNat]!.dot=true)=AV.b (decide (¬entE es[i0.toNat]! = (0:Int)∨(0:Int) < i0∧¬dLt es[(i0-(1:Int)).toNat]!.dot es[i0.toNat]!.dot=true))) (oR 2 (c45 es[i0.toNat]!) (oA 4 (resC (con120 (es[i0.toNat]!))) (oR 13 (c45 es[(i0-(1:Int)).toNat]!) (oR 18 (c45 es[i0.toNat]!) (oA 21 (.b (dLt es[(i0-(1:Int)).toNat]!.dot es[i0.toNat]!.dot)) z0))))))))))))))))))))))))) ?_
 exact ⟨rfl,by kernel_rfl⟩
 refine rA cx [0,3,34] [] (fA ((0:Int)≤i0) (fG c45 es i0.toNat (fR (4:Nat) (fN 4 4 (fT (con120 (es[i0.toNat]!)) (tQ 5 (entE es[i0.toNat]! = (0:Int)) (tT 6 (told_false h_7) (tT 8 (told_false h_8) (tT 24 (by first | (simp only [eq_false h_7,eq_false h_8,tsl];done) | simp_all:AV.b false=AV.b (decide (¬entE es[i0.toNat]! = (0:Int)∨(0:Int) < i0∧¬dLt es[(i0-(1:Int)).toNat]!.dot es[i0.toNat]!.dot=true))) (oR 2 (c45 es[i0.toNat]!) (oA 4 (resC (con120 (es[i0.toNat]!))) z0))))))))))) ?_
 exact ⟨rfl,by kernel_rfl⟩
 refine sn<|dC (¬entE es[i0.toNat]! = (0:Int)∨(0:Int) < i0∧¬dLt es[(i0-(1:Int)).toNat]!.dot es[i0.toNat]!.dot=true) (fun h9=>?_) fun h9=>?_
 refine sq<|rG cx [2] [] z0<|sn<|rT<|bR<|nR<|nR<|bR<|nR<|qR (.b (false)) (.eq ?g1);rotate_left
 refine sK<|bN<|sn<|rG cx [0,3] [] (tW 1 (i0+(1:Int)) z0)<|sn<|loop_next (i0+(1:Int)) (by kernel_rfl) (show ((↑es.length:Int)-(i0+(1:Int))).toNat < ((↑es.length:Int)-i0).toNat from (by omega)) (show invL es (i0+(1:Int)) from ?g2);rotate_left
 refine eX 0<|nE<|nE<|bH<|sn<|sq<|rG cx [2] [] z0<|sn<|rT<|qR (.b (true)) (.eq ?g3);rotate_left
 rotate_left
 revert i0 hh2 hh3 hh4 hh5 h9;rotate_left
 revert i0 hh2 hh3 hh4 hh5 h9;rotate_left
 revert i0 hh2 hh3 hh4 hh5;rotate_left
 case g0=>exact ⟨by omega,by omega,fun j hj=>by omega⟩
 case g1 =>
  intro i h0 h1 h2 h3 h4
  rw [lstE_bad (i:=i.toNat) (by omega) (not_okAt _)]
  ·rfl
  rw [e h0] at h4
  rw [okAt_iff];rintro ⟨a,b⟩
  rcases h4 with h4 | ⟨h4,h5⟩
  ·exact h4 a
  ·rcases b with b | b
   ·omega
   ·exact h5 b
 case g2 =>
  intro i h0 h1 h2 h3 h4
  rw [e h0] at h4
  refine invL_step h0 h3 h2 ((okAt_iff _ _).2 ⟨Classical.byContradiction fun a=>h4 (.inl a),?_⟩)
  by_cases c:i.toNat=0
  ·exact .inl c
  ·exact .inr (Classical.byContradiction fun a=>h4 (.inr ⟨by omega,a⟩))
 case g3=>intro i h0 h1 h2 h3;rw [lstE_ok fun j hj=>h2 j (by omega)];rfl
theorem con163 (r:Record) (hb:szP r.past):Con Tryz.prog 163 [.agg (c81 r)] (.b (decide (ckR r=0))) :=
 by
 refine st_con tab_ok (by kernel_rfl) [.tmp 2] 22 Go.Proofs.Tryz.func163 (by kernel_rfl) (by kernel_rfl) ?_
 intro e0 cx
 refine sq<|rG cx [1] [1] z0<|sn<|sq<|st_join (σ':=⟨[(2,.b (decide (r.sku={ data:=#[]:ByteArray }∧r.past=normP r.past∧¬sizeP r.past=(0:Int)∨¬r.sku={ data:=#[]:ByteArray }∧good r.sku=true∧r.past=normP r.past∧¬sizeP r.past=(0:Int))))],[]⟩) ?_ ?_
 refine st_split (r.sku={ data:=#[]:ByteArray }) (fun h1=>?_) (fun h1=>?_)
 refine st_split (r.past=normP r.past) (fun h2=>?_) (fun h2=>?_)
 refine rg (A:=(AV.b (r.sku.toList == { data:=#[]:ByteArray }.toList)=AV.b true)∧_∧_∧_∧((AV.b !decide (sizeP r.past=(0:Int)))=AV.b (decide ¬sizeP r.past=(0:Int)))∧(AV.b (decide ¬sizeP r.past=(0:Int))=AV.b (decide (r.sku={ data:=#[]:ByteArray }∧r.past=normP r.past∧¬sizeP r.past=(0:Int)∨¬r.sku={ data:=#[]:ByteArray }∧good r.sku=true∧r.past=normP r.past∧¬sizeP r.past=(0:Int))))) cx [(2,{ tell:=some (.b (true)) }),(11,{ val:=some (.b (decide (r.past=normP r.past))),tell:=some (.b (true)) }),(16,{ val:=some (.b (decide (sizeP r.past=(0:Int)))) }),(17,{ tell:=some (.b (decide ¬sizeP r.past=(0:Int))) }),(19,{ tell:=some (.b (decide (r.sku={ data:=#[]:ByteArray }∧r.past=normP r.past∧¬sizeP r.past=(0:Int)∨¬r.sku={ data:=#[]:ByteArray }∧good r.sku=true∧r.past=normP r.past∧¬sizeP r.past=(0:Int)))) })] [2] [] ⟨(told_seqt h1),(told_true h2),(con84 (r.past) ?g0 ?g1),(con59 (r.past) ?g2),(told_notd),(by simp only [eq_true h1,eq_true h2,tsl])⟩ ?_;rotate_left 3
 exact ⟨rfl,by kernel_rfl⟩
 refine rg (A:=(AV.b (r.sku.toList == { data:=#[]:ByteArray }.toList)=AV.b true)∧_∧_∧(AV.b false=AV.b (decide (r.sku={ data:=#[]:ByteArray }∧r.past=normP r.past∧¬sizeP r.past=(0:Int)∨¬r.sku={ data:=#[]:ByteArray }∧good r.sku=true∧r.past=normP r.past∧¬sizeP r.past=(0:Int))))) cx [(2,{ tell:=some (.b (true)) }),(11,{ val:=some (.b (decide (r.past=normP r.past))),tell:=some (.b (false)) }),(19,{ tell:=some (.b (decide (r.sku={ data:=#[]:ByteArray }∧r.past=normP r.past∧¬sizeP r.past=(0:Int)∨¬r.sku={ data:=#[]:ByteArray }∧good r.sku=true∧r.past=normP r.past∧¬sizeP r.past=(0:Int)))) })] [2] [] ⟨(told_seqt h1),(told_false h2),(con84 (r.past) ?g3 ?g4),(by simp only [eq_true h1,eq_false h2,tsl])⟩ ?_;rotate_left 2
 exact ⟨rfl,by kernel_rfl⟩
 refine st_split (good r.sku=true) (fun h3=>?_) (fun h3=>?_)
 refine st_split (r.past=normP r.past) (fun h4=>?_) (fun h4=>?_)
 refine rg (A:=(AV.b (r.sku.toList == { data:=#[]:ByteArray }.toList)=AV.b false)∧_∧_∧_∧_∧_∧((AV.b !decide (sizeP r.past=(0:Int)))=AV.b (decide ¬sizeP r.past=(0:Int)))∧(AV.b (decide ¬sizeP r.past=(0:Int))=AV.b (decide (r.sku={ data:=#[]:ByteArray }∧r.past=normP r.past∧¬sizeP r.past=(0:Int)∨¬r.sku={ data:=#[]:ByteArray }∧good r.sku=true∧r.past=normP r.past∧¬sizeP r.past=(0:Int))))) cx [(2,{ tell:=some (.b (false)) }),(6,{ val:=some (.b (good r.sku)),tell:=some (.b (true)) }),(11,{ val:=some (.b (decide (r.past=normP r.past))),tell:=some (.b (true)) }),(16,{ val:=some (.b (decide (sizeP r.past=(0:Int)))) }),(17,{ tell:=some (.b (decide ¬sizeP r.past=(0:Int))) }),(19,{ tell:=some (.b (decide (r.sku={ data:=#[]:ByteArray }∧r.past=normP r.past∧¬sizeP r.past=(0:Int)∨¬r.sku={ data:=#[]:ByteArray }∧good r.sku=true∧r.past=normP r.past∧¬sizeP r.past=(0:Int)))) })] [2] [] ⟨(told_seqf h1),(told_eqt h3),(con125 (r.sku)),(told_true h4),(con84 (r.past) ?g5 ?g6),(con59 (r.past) ?g7),(told_notd),(by simp only [eq_false h1,eq_true h3,eq_true h4,tsl])⟩ ?_;rotate_left 3
 exact ⟨rfl,by kernel_rfl⟩
 refine rg (A:=(AV.b (r.sku.toList == { data:=#[]:ByteArray }.toList)=AV.b false)∧_∧_∧_∧_∧(AV.b false=AV.b (decide (r.sku={ data:=#[]:ByteArray }∧r.past=normP r.past∧¬sizeP r.past=(0:Int)∨¬r.sku={ data:=#[]:ByteArray }∧good r.sku=true∧r.past=normP r.past∧¬sizeP r.past=(0:Int))))) cx [(2,{ tell:=some (.b (false)) }),(6,{ val:=some (.b (good r.sku)),tell:=some (.b (true)) }),(11,{ val:=some (.b (decide (r.past=normP r.past))),tell:=some (.b (false)) }),(19,{ tell:=some (.b (decide (r.sku={ data:=#[]:ByteArray }∧r.past=normP r.past∧¬sizeP r.past=(0:Int)∨¬r.sku={ data:=#[]:ByteArray }∧good r.sku=true∧r.past=normP r.past∧¬sizeP r.past=(0:Int)))) })] [2] [] ⟨(told_seqf h1),(told_eqt h3),(con125 (r.sku)),(told_false h4),(con84 (r.past) ?g8 ?g9),(by simp only [eq_false h1,eq_true h3,eq_false h4,tsl])⟩ ?_;rotate_left 2
 exact ⟨rfl,by kernel_rfl⟩
 refine rg (A:=(AV.b (r.sku.toList == { data:=#[]:ByteArray }.toList)=AV.b false)∧(AV.b (good r.sku)=AV.b false)∧_∧(AV.b false=AV.b (decide (r.sku={ data:=#[]:ByteArray }∧r.past=normP r.past∧¬sizeP r.past=(0:Int)∨¬r.sku={ data:=#[]:ByteArray }∧good r.sku=true∧r.past=normP r.past∧¬sizeP r.past=(0:Int))))) cx [(2,{ tell:=some (.b (false)) }),(6,{ val:=some (.b (good r.sku)),tell:=some (.b (false)) }),(19,{ tell:=some (.b (decide (r.sku={ data:=#[]:ByteArray }∧r.past=normP r.past∧¬sizeP r.past=(0:Int)∨¬r.sku={ data:=#[]:ByteArray }∧good r.sku=true∧r.past=normP r.past∧¬sizeP r.past=(0:Int)))) })] [2] [] ⟨(told_seqf h1),(told_eqn h3),(con125 (r.sku)),(by simp only [eq_false h1,eq_false h3,tsl])⟩ ?_
 exact ⟨rfl,by kernel_rfl⟩
 refine sn<|rT<|qR (.b (decide (r.sku={ data:=#[]:ByteArray }∧r.past=normP r.past∧¬sizeP r.past=(0:Int)∨¬r.sku={ data:=#[]:ByteArray }∧good r.sku=true∧r.past=normP r.past∧¬sizeP r.past=(0:Int)))) (.eq ?g10);rotate_left
 revert h1 h2;rotate_left
 revert h1 h2;rotate_left
 revert h1 h2;rotate_left
 revert h1 h2;rotate_left
 revert h1 h2;rotate_left
 revert h1 h3 h4;rotate_left
 revert h1 h3 h4;rotate_left
 revert h1 h3 h4;rotate_left
 revert h1 h3 h4;rotate_left
 revert h1 h3 h4;rotate_left
 rotate_left
 case g10 =>
  refine congrArg AV.b (decide_eq_decide.2 (Iff.trans ?_ ck_ok.symm))
  show (r.sku=noneS∧_∨¬ r.sku=noneS∧_)↔_
  by_cases c:r.sku=noneS
  ·simp [c]
  ·simp [c]
 all_goals (intros;first | exact hb.1 | exact hb.2)
theorem con121 (rs:List Record) (hb:szQ rs):Con Tryz.prog 121 [.sl (rs.map c81)] (.b (decide (recE rs=0))) :=
 by
 have e:∀ {i:Int},0≤i→(i-1).toNat=i.toNat-1:=fun {i} h=>by omega
 have L:∀ {r s:Record},(¬ (sLt r.sku s.sku=true∨r.sku=s.sku)∨r.sku=s.sku∧0≤cmpP r.past s.past)↔¬ cmpRec r s < 0:=by
  intro r s
  rw [rec_lt]
  constructor
  ·rintro (h | ⟨h1,h2⟩) (k | ⟨k1,k2⟩)
   ·exact h (.inl k)
   ·exact h (.inr k1)
   ·rw [h1] at k;exact sLt_irr _ k
   ·omega
  ·intro h
   by_cases c:r.sku=s.sku
   ·exact .inr ⟨c,Int.not_lt.1 fun k=>h (.inr ⟨c,k⟩)⟩
   ·exact .inl fun k=>by
     rcases k with k | k
     ·exact h (.inl k)
     ·exact c k
 refine con_lens 0 (c81) (rs) (by kernel_rfl) Go.Proofs.Tryz.func121 (by kernel_rfl) fun hl_0=>st_con tab_ok (by kernel_rfl) [.tmp 2] 49 Go.Proofs.Tryz.func121 (by kernel_rfl) (by kernel_rfl) ?_
 intro e0 cx
 refine sq<|rG cx [0] [] z0<|sn<|sq<|sq<|rG cx [0,3] [] z0<|sn<|bL 0<|st_loop (X:=Int) (fun x=>⟨[(0,.sl (List.map c81 rs)),(3,.i .i64 (x))],[]⟩) (fun x ↦ decKc rs x) (fun x ↦ invKc rs x) [0,3] [] ((0:Int)) (by kernel_rfl) (by kernel_rfl) (show invKc rs (0:Int) from ?g0) ?_;rotate_left
 intro i0 h_1
 obtain ⟨hh2,hh3,hh4⟩:(0:Int)≤i0∧i0≤(↑rs.length:Int)∧∀ (j:Nat),(↑j:Int) < i0→okRs rs j=true:=h_1
 refine sq<|sq<|rG cx [0,3,9] [] (tL 2 c81 rs (tB 3 (i0 < (↑rs.length:Int)) z0))<|sn<|dC (i0 < (↑rs.length:Int)) (fun hh5=>?_) fun hh5=>?_
 refine sK<|sn<|sq<|bL 1<|sq<|sq<|rG cx [0,3,17] [] (fA ((0:Int)≤i0) (fG c81 rs i0.toNat (fR (3:Nat) (fN 3 3 (fT (con163 (rs[i0.toNat]!) ?g1) (tQ 5 (ckR rs[i0.toNat]! = (0:Int)) (oR 2 (c81 rs[i0.toNat]!) (oA 4 (.b (decide (ckR rs[i0.toNat]! = (0:Int)))) z0)))))))) ?_;rotate_left
 refine sn<|dC (¬ckR rs[i0.toNat]! = (0:Int)) (fun hh6=>?_) fun hh6=>?_
 refine sq<|rG cx [2] [] z0<|sn<|rT<|nR<|bR<|nR<|nR<|bR<|nR<|qR (.b (false)) (.eq ?g2);rotate_left
 refine sK<|sn<|sq<|rG cx [0,3,19] [] (tB 1 ((0:Int) < i0) z0)<|sn<|dC ((0:Int) < i0) (fun hh7=>?_) fun hh7=>?_
 refine sq<|rA cx [0,3,4,5] [4,5] (tW 2 (i0-(1:Int)) (fO ((0:Int)≤i0-(1:Int)) (fG c81 rs ((i0-(1:Int)).toNat) (fR (3:Nat) (fN 3 3 (fA ((0:Int)≤i0) (fG c81 rs i0.toNat (fR (3:Nat) (fN 3 3 (oR 3 (c81 rs[(i0-(1:Int)).toNat]!) (oR 7 (c81 rs[i0.toNat]!) z0)))))))))))<|sn<|sq<|st_join (σ':=⟨[(0,.sl (List.map c81 rs)),(3,.i .i64 (i0)),(48,.b (decide (¬(sLt rs[(i0-(1:Int)).toNat]!.sku rs[i0.toNat]!.sku=true∨rs[(i0-(1:Int)).toNat]!.sku=rs[i0.toNat]!.sku)∨rs[(i0-(1:Int)).toNat]!.sku=rs[i0.toNat]!.sku∧(0:Int)≤cmpP rs[(i0-(1:Int)).toNat]!.past rs[i0.toNat]!.past)))],[]⟩) ?_ ?_
 refine st_split (¬(sLt rs[(i0-(1:Int)).toNat]!.sku rs[i0.toNat]!.sku=true∨rs[(i0-(1:Int)).toNat]!.sku=rs[i0.toNat]!.sku)) (fun h9=>?_) (fun h9=>?_)
 refine rG cx [0,3,48] [] (tT 4 (told_sgt:(AV.b !(Op.bytesLess rs[(i0-(1:Int)).toNat]!.sku.toList rs[i0.toNat]!.sku.toList || rs[(i0-(1:Int)).toNat]!.sku.toList == rs[i0.toNat]!.sku.toList))=AV.b (decide ¬(sLt rs[(i0-(1:Int)).toNat]!.sku rs[i0.toNat]!.sku=true∨rs[(i0-(1:Int)).toNat]!.sku=rs[i0.toNat]!.sku))) (tT 5 (told_true h9) (tD 19 true (¬(sLt rs[(i0-(1:Int)).toNat]!.sku rs[i0.toNat]!.sku=true∨rs[(i0-(1:Int)).toNat]!.sku=rs[i0.toNat]!.sku)∨rs[(i0-(1:Int)).toNat]!.sku=rs[i0.toNat]!.sku∧(0:Int)≤cmpP rs[(i0-(1:Int)).toNat]!.past rs[i0.toNat]!.past) (by simp only [eq_false h9,tsl]) z0))) ?_
 exact ⟨rfl,by kernel_rfl⟩
 refine st_split (rs[(i0-(1:Int)).toNat]!.sku=rs[i0.toNat]!.sku) (fun h10=>?_) (fun h10=>?_)
 refine rG cx [0,3,48] [] (tT 4 (told_sgt:(AV.b !(Op.bytesLess rs[(i0-(1:Int)).toNat]!.sku.toList rs[i0.toNat]!.sku.toList || rs[(i0-(1:Int)).toNat]!.sku.toList == rs[i0.toNat]!.sku.toList))=AV.b (decide ¬(sLt rs[(i0-(1:Int)).toNat]!.sku rs[i0.toNat]!.sku=true∨rs[(i0-(1:Int)).toNat]!.sku=rs[i0.toNat]!.sku))) (tT 5 (told_false h9) (tT 10 (told_seqt h10:AV.b (rs[(i0-(1:Int)).toNat]!.sku.toList == rs[i0.toNat]!.sku.toList)=AV.b true) (fT (con164 (rs[(i0-(1:Int)).toNat]!.past) (rs[i0.toNat]!.past) ?g3 ?g4) (tB 17 ((0:Int)≤cmpP rs[(i0-(1:Int)).toNat]!.past rs[i0.toNat]!.past) (tT 19 (by first | (simp only [eq_false h9,eq_true h10,tsl];done) | simp_all:AV.b (decide ((0:Int)≤cmpP rs[(i0-(1:Int)).toNat]!.past rs[i0.toNat]!.past))=AV.b (decide (¬(sLt rs[(i0-(1:Int)).toNat]!.sku rs[i0.toNat]!.sku=true∨rs[(i0-(1:Int)).toNat]!.sku=rs[i0.toNat]!.sku)∨rs[(i0-(1:Int)).toNat]!.sku=rs[i0.toNat]!.sku∧(0:Int)≤cmpP rs[(i0-(1:Int)).toNat]!.past rs[i0.toNat]!.past))) (oA 16 (.i .i64 (cmpP rs[(i0-(1:Int)).toNat]!.past rs[i0.toNat]!.past)) z0))))))) ?_;rotate_left 2
 exact ⟨rfl,by kernel_rfl⟩
 refine rG cx [0,3,48] [] (tT 4 (told_sgt:(AV.b !(Op.bytesLess rs[(i0-(1:Int)).toNat]!.sku.toList rs[i0.toNat]!.sku.toList || rs[(i0-(1:Int)).toNat]!.sku.toList == rs[i0.toNat]!.sku.toList))=AV.b (decide ¬(sLt rs[(i0-(1:Int)).toNat]!.sku rs[i0.toNat]!.sku=true∨rs[(i0-(1:Int)).toNat]!.sku=rs[i0.toNat]!.sku))) (tT 5 (told_false h9) (tT 10 (told_seqf h10:AV.b (rs[(i0-(1:Int)).toNat]!.sku.toList == rs[i0.toNat]!.sku.toList)=AV.b false) (tT 19 (by first | (simp only [eq_false h9,eq_false h10,tsl];done) | simp_all:AV.b false=AV.b (decide (¬(sLt rs[(i0-(1:Int)).toNat]!.sku rs[i0.toNat]!.sku=true∨rs[(i0-(1:Int)).toNat]!.sku=rs[i0.toNat]!.sku)∨rs[(i0-(1:Int)).toNat]!.sku=rs[i0.toNat]!.sku∧(0:Int)≤cmpP rs[(i0-(1:Int)).toNat]!.past rs[i0.toNat]!.past))) z0)))) ?_
 exact ⟨rfl,by kernel_rfl⟩
 refine sn<|dC (¬(sLt rs[(i0-(1:Int)).toNat]!.sku rs[i0.toNat]!.sku=true∨rs[(i0-(1:Int)).toNat]!.sku=rs[i0.toNat]!.sku)∨rs[(i0-(1:Int)).toNat]!.sku=rs[i0.toNat]!.sku∧(0:Int)≤cmpP rs[(i0-(1:Int)).toNat]!.past rs[i0.toNat]!.past) (fun h11=>?_) fun h11=>?_
 refine sq<|rG cx [2] [] z0<|sn<|rT<|bR<|nR<|nR<|bR<|nR<|qR (.b (false)) (.eq ?g5);rotate_left
 refine sK<|bN<|sn<|rG cx [0,3] [] (tW 1 (i0+(1:Int)) z0)<|sn<|loop_next (i0+(1:Int)) (by kernel_rfl) (show ((↑rs.length:Int)-(i0+(1:Int))).toNat < ((↑rs.length:Int)-i0).toNat from (by omega)) (show invKc rs (i0+(1:Int)) from ?g6);rotate_left
 refine sK<|bN<|sn<|rG cx [0,3] [] (tW 1 (i0+(1:Int)) z0)<|sn<|loop_next (i0+(1:Int)) (by kernel_rfl) (show ((↑rs.length:Int)-(i0+(1:Int))).toNat < ((↑rs.length:Int)-i0).toNat from (by omega)) (show invKc rs (i0+(1:Int)) from ?g7);rotate_left
 refine eX 0<|nE<|nE<|bH<|sn<|sq<|rG cx [2] [] z0<|sn<|rT<|qR (.b (true)) (.eq ?g8);rotate_left
 rotate_left
 revert i0 hh2 hh3 hh4 hh5;rotate_left
 revert i0 hh2 hh3 hh4 hh5 hh6;rotate_left
 revert i0 hh2 hh3 hh4 hh5 hh6 hh7 h9 h10;rotate_left
 revert i0 hh2 hh3 hh4 hh5 hh6 hh7 h9 h10;rotate_left
 revert i0 hh2 hh3 hh4 hh5 hh6 hh7 h11;rotate_left
 revert i0 hh2 hh3 hh4 hh5 hh6 hh7 h11;rotate_left
 revert i0 hh2 hh3 hh4 hh5 hh6 hh7;rotate_left
 revert i0 hh2 hh3 hh4 hh5;rotate_left
 case g0=>exact ⟨by omega,by omega,fun j hj=>by omega⟩
 case g1=>intro i h0 h1 h2 h3;exact szQ_at hb h0 h3
 case g2 =>
  intro i h0 h1 h2 h3 h4
  rw [recE_bad (i:=i.toNat) (by omega)]
  ·rfl
  ·rw [okRs_iff]
   exact fun c=>h4 c.1
 case g3=>intro i h0 h1 h2 h3 h4 h5 h6 h7;exact (szQ_at' hb h5 h3).1
 case g4=>intro i h0 h1 h2 h3 h4 h5 h6 h7;exact (szQ_at hb h0 h3).1
 case g5 =>
  intro i h0 h1 h2 h3 h4 h5 h6
  rw [recE_bad (i:=i.toNat) (by omega)]
  ·rfl
  ·rw [L,e h0] at h6
   rw [okRs_iff]
   rintro ⟨a,b⟩
   rcases b with b | b
   ·omega
   ·exact h6 b
 case g6 =>
  intro i h0 h1 h2 h3 h4 h5 h6
  rw [L,e h0] at h6
  exact invKc_step h0 h3 h2 ((okRs_iff _ _).2 ⟨Classical.not_not.1 h4,.inr (Classical.not_not.1 h6)⟩)
 case g7 =>
  intro i h0 h1 h2 h3 h4 h5
  exact invKc_step h0 h3 h2 ((okRs_iff _ _).2 ⟨Classical.not_not.1 h4,.inl (by omega)⟩)
 case g8=>intro i h0 h1 h2 h3;rw [recE_ok fun j hj=>h2 j (by omega)];rfl
theorem con72 (f:Facts) (hb:szF f):Con Tryz.prog 72 [.agg (c29 f)] (.b (okF f)) :=
 by
 refine st_con tab_ok (by kernel_rfl) [.tmp 2] 16 Go.Proofs.Tryz.func72 (by kernel_rfl) (by kernel_rfl) ?_
 intro e0 cx
 refine sq<|rG cx [1] [1] z0<|sn<|sq<|st_join (σ':=⟨[(2,.b (decide (lstE f.adds=(0:Int)∧f.gone=normP f.gone∧recE f.recs=(0:Int))))],[]⟩) ?_ ?_
 refine st_split (lstE f.adds=(0:Int)) (fun h1=>?_) (fun h1=>?_)
 refine st_split (f.gone=normP f.gone) (fun h2=>?_) (fun h2=>?_)
 refine rg (A:=_∧_∧_∧_∧_∧(AV.b (decide (recE f.recs=(0:Int)))=AV.b (decide (lstE f.adds=(0:Int)∧f.gone=normP f.gone∧recE f.recs=(0:Int))))) cx [(2,{ val:=some (.b (decide (lstE f.adds=(0:Int)))),tell:=some (.b (true)) }),(6,{ val:=some (.b (decide (f.gone=normP f.gone))),tell:=some (.b (true)) }),(11,{ val:=some (.b (decide (recE f.recs=(0:Int)))) }),(13,{ tell:=some (.b (decide (lstE f.adds=(0:Int)∧f.gone=normP f.gone∧recE f.recs=(0:Int)))) })] [2] [] ⟨(told_true h1),(con71 (f.adds)),(told_true h2),(con84 (f.gone) ?g0 ?g1),(con121 (f.recs) ?g2),(by simp only [eq_true h1,eq_true h2,tsl])⟩ ?_;rotate_left 3
 exact ⟨rfl,by kernel_rfl⟩
 refine rg (A:=_∧_∧_∧_∧(AV.b false=AV.b (decide (lstE f.adds=(0:Int)∧f.gone=normP f.gone∧recE f.recs=(0:Int))))) cx [(2,{ val:=some (.b (decide (lstE f.adds=(0:Int)))),tell:=some (.b (true)) }),(6,{ val:=some (.b (decide (f.gone=normP f.gone))),tell:=some (.b (false)) }),(13,{ tell:=some (.b (decide (lstE f.adds=(0:Int)∧f.gone=normP f.gone∧recE f.recs=(0:Int)))) })] [2] [] ⟨(told_true h1),(con71 (f.adds)),(told_false h2),(con84 (f.gone) ?g3 ?g4),(by simp only [eq_true h1,eq_false h2,tsl])⟩ ?_;rotate_left 2
 exact ⟨rfl,by kernel_rfl⟩
 refine rg (A:=_∧_∧(AV.b false=AV.b (decide (lstE f.adds=(0:Int)∧f.gone=normP f.gone∧recE f.recs=(0:Int))))) cx [(2,{ val:=some (.b (decide (lstE f.adds=(0:Int)))),tell:=some (.b (false)) }),(13,{ tell:=some (.b (decide (lstE f.adds=(0:Int)∧f.gone=normP f.gone∧recE f.recs=(0:Int)))) })] [2] [] ⟨(told_false h1),(con71 (f.adds)),(by simp only [eq_false h1,tsl])⟩ ?_
 exact ⟨rfl,by kernel_rfl⟩
 refine sn<|rT<|qR (.b (decide (lstE f.adds=(0:Int)∧f.gone=normP f.gone∧recE f.recs=(0:Int)))) (.eq ?g5);rotate_left
 revert h1 h2;rotate_left
 revert h1 h2;rotate_left
 revert h1 h2;rotate_left
 revert h1 h2;rotate_left
 revert h1 h2;rotate_left
 rotate_left
 case g2=>intros;exact hb.2
 case g5=>rw [okF_eq]
 all_goals (intros;first | exact hb.1.1 | exact hb.1.2)
theorem con66 (f:Facts) (hb:szF f):Con Tryz.prog 66 [.agg (c29 f)] (.b (okF f)) :=
 by
 refine st_con tab_ok (by kernel_rfl) [.tmp 2] 18 Go.Proofs.Tryz.func66 (by kernel_rfl) (by kernel_rfl) ?_
 intro e0 cx
 refine sq<|rG cx [1] [1] z0<|sn<|sq<|st_join (σ':=⟨[(2,.b (decide (lstE f.adds=(0:Int)∧f.gone=normP f.gone∧recE f.recs=(0:Int))))],[]⟩) ?_ ?_
 refine st_split (lstE f.adds=(0:Int)) (fun h1=>?_) (fun h1=>?_)
 refine st_split (f.gone=normP f.gone) (fun h2=>?_) (fun h2=>?_)
 refine rg (A:=_∧_∧_∧_∧_∧(AV.b (recE f.recs == (0:Int))=AV.b (decide (recE f.recs=(0:Int))))∧(AV.b (decide (recE f.recs=(0:Int)))=AV.b (decide (lstE f.adds=(0:Int)∧f.gone=normP f.gone∧recE f.recs=(0:Int))))) cx [(2,{ val:=some (.i .i64 (lstE f.adds)) }),(3,{ tell:=some (.b (true)) }),(7,{ val:=some (.b (decide (f.gone=normP f.gone))),tell:=some (.b (true)) }),(12,{ val:=some (.i .i64 (recE f.recs)) }),(13,{ tell:=some (.b (decide (recE f.recs=(0:Int)))) }),(15,{ tell:=some (.b (decide (lstE f.adds=(0:Int)∧f.gone=normP f.gone∧recE f.recs=(0:Int)))) })] [2] [] ⟨(con65 (f.adds)),(told_true h1),(told_true h2),(con82 (f.gone) ?g0),(con83 (f.recs) ?g1),(by kernel_rfl),(by simp only [eq_true h1,eq_true h2,tsl])⟩ ?_;rotate_left 2
 exact ⟨rfl,by kernel_rfl⟩
 refine rg (A:=_∧_∧_∧_∧(AV.b false=AV.b (decide (lstE f.adds=(0:Int)∧f.gone=normP f.gone∧recE f.recs=(0:Int))))) cx [(2,{ val:=some (.i .i64 (lstE f.adds)) }),(3,{ tell:=some (.b (true)) }),(7,{ val:=some (.b (decide (f.gone=normP f.gone))),tell:=some (.b (false)) }),(15,{ tell:=some (.b (decide (lstE f.adds=(0:Int)∧f.gone=normP f.gone∧recE f.recs=(0:Int)))) })] [2] [] ⟨(con65 (f.adds)),(told_true h1),(told_false h2),(con82 (f.gone) ?g2),(by simp only [eq_true h1,eq_false h2,tsl])⟩ ?_;rotate_left
 exact ⟨rfl,by kernel_rfl⟩
 refine rG cx [2] [] (fT (con65 (f.adds)) (tT 3 (told_false h1) (tD 15 false (lstE f.adds=(0:Int)∧f.gone=normP f.gone∧recE f.recs=(0:Int)) (by simp only [eq_false h1,tsl]) (oA 2 (.i .i64 (lstE f.adds)) z0)))) ?_
 exact ⟨rfl,by kernel_rfl⟩
 refine sn<|rT<|qR (.b (decide (lstE f.adds=(0:Int)∧f.gone=normP f.gone∧recE f.recs=(0:Int)))) (.eq ?g3);rotate_left
 revert h1 h2;rotate_left
 revert h1 h2;rotate_left
 revert h1 h2;rotate_left
 rotate_left
 case g0=>intros;exact hb.1.1
 case g1=>intros;exact szQ_s hb.2
 case g2=>intros;exact hb.1.1
 case g3=>rw [okF_eq]
end Go.Proofs.YtaiepnaokhpmcaaGreat
namespace Go.Proofs.YtaiepnaokhpmcaaGreat
open Go.E
set_option maxRecDepth 100000
set_option maxHeartbeats 4000000
noncomputable def evE (f:Facts):Int:=if okF f=false then 1 else if f.adds.length=1∧f.recs.length=0 then (if lastP f.gone f.adds[0]!.dot.rep < f.adds[0]!.dot.num then 0 else 2)
 else if f.adds.length=0∧f.recs.length=0 then 0 else if f.adds.length=0∧f.recs.length=1∧sizeP f.gone=0 then 0 else 2
theorem no_true {b:Bool} (h:¬ b=true):b=false:=by cases b <;> simp_all
theorem yes_true {b:Bool} (h:¬ ¬ b=true):¬ b=false:=by cases b <;> simp_all
theorem head_get {es:List Entry} (h:(es.length:Int)=1):(es.map c45)[Int.toNat 0]?=some (c45 es[0]!):=by
 cases es with
 | nil=>simp at h
 | cons e es=>rfl
theorem con52 (f:Facts) (hb:szF f):Con Tryz.prog 52 [.agg (c29 f)] (.i .i64 (evE f)) :=
 by
 refine st_con tab_ok (by kernel_rfl) [.tmp 2] 60 Go.Proofs.Tryz.func52 (by kernel_rfl) (by kernel_rfl) ?_
 intro e0 cx
 refine sq<|rG cx [1] [1] z0<|sn<|sq<|sq<|rG cx [1,7] [1] (fT (con66 (f) (by (with_reducible assumption))) (tT 2 (told_not:(AV.b !okF f)=AV.b (decide ¬okF f=true)) (oA 1 (.b (okF f)) z0)))<|sn<|dC (¬okF f=true) (fun h0=>?_) fun h0=>?_
 refine sq<|rG cx [2] [] z0<|sn<|rT<|nR<|qR (.i .i64 ((1:Int))) (.eq ?g0);rotate_left
 refine sK<|sn<|sq<|rG cx [1,3] [1] (fT (con98 (f.gone) ?g1) (oA 2 (.b (decide (sizeP f.gone=(0:Int)))) z0)) ?_;rotate_left
 refine sn<|sq<|bL 0<|sq<|st_join (σ':=⟨[(1,.ptr (1) (0) (0) (0)),(3,.b (decide (sizeP f.gone=(0:Int)))),(11,.b (decide ((↑f.adds.length:Int)=(1:Int)∧(↑f.recs.length:Int)=(0:Int))))],[(1,⟨0,29,.var [.sl (List.map c45 f.adds),.sl (List.map c3 f.gone.vec),.sl (List.map c104 f.gone.cloud),.sl (List.map c81 f.recs)]⟩)]⟩) ?_ ?_
 refine st_split ((↑f.adds.length:Int)=(1:Int)) (fun h_2=>?_) (fun h_2=>?_)
 refine rG cx [1,3,11] [1] (tL 2 c45 f.adds (tT 3 (told_true h_2) (tL 7 c81 f.recs (tB 8 ((↑f.recs.length:Int)=(0:Int)) (tD 10 (decide ((↑f.recs.length:Int)=(0:Int))) ((↑f.adds.length:Int)=(1:Int)∧(↑f.recs.length:Int)=(0:Int)) (by simp only [eq_true h_2,tsl]) z0))))) ?_
 exact ⟨rfl,by kernel_rfl⟩
 refine rG cx [1,3,11] [1] (tL 2 c45 f.adds (tT 3 (told_false h_2) (tD 10 false ((↑f.adds.length:Int)=(1:Int)∧(↑f.recs.length:Int)=(0:Int)) (by simp only [eq_false h_2,tsl]) z0))) ?_
 exact ⟨rfl,by kernel_rfl⟩
 refine sn<|dC ((↑f.adds.length:Int)=(1:Int)∧(↑f.recs.length:Int)=(0:Int)) (fun h3=>?_) fun h3=>?_
 refine sq<|rG cx [1,4] [1,4] (fO ((0:Int)≤(0:Int)) (fP ((List.map c45 f.adds)[Int.toNat (0:Int)]?=some (c45 f.adds[(0:Nat)]!)) ?g2 (fR (4:Nat) (fN 2 4 (oR 2 (c45 f.adds[(0:Nat)]!) z0))))) ?_;rotate_left
 refine sn<|sq<|rA cx [34] [] (fT (con99 (f.gone) (f.adds[(0:Nat)]!.dot.rep) ?g3) (tB 7 (lastP f.gone f.adds[(0:Nat)]!.dot.rep < f.adds[(0:Nat)]!.dot.num) (oA 4 (.i .i64 (lastP f.gone f.adds[(0:Nat)]!.dot.rep)) z0))) ?_;rotate_left
 refine sn<|dC (lastP f.gone f.adds[(0:Nat)]!.dot.rep < f.adds[(0:Nat)]!.dot.num) (fun h4=>?_) fun h4=>?_
 refine sq<|rG cx [2] [] z0<|sn<|rT<|bR<|nR<|qR (.i .i64 ((0:Int))) (.eq ?g4);rotate_left
 refine sK<|bN<|sn<|sq<|rG cx [2] [] z0<|sn<|rT<|qR (.i .i64 ((2:Int))) (.eq ?g5);rotate_left
 refine sq<|st_join (σ':=⟨[(1,.ptr (1) (0) (0) (0)),(3,.b (decide (sizeP f.gone=(0:Int)))),(35,.b (decide ((↑f.adds.length:Int)=(0:Int)∧(↑f.recs.length:Int)=(0:Int))))],[(1,⟨0,29,.var [.sl (List.map c45 f.adds),.sl (List.map c3 f.gone.vec),.sl (List.map c104 f.gone.cloud),.sl (List.map c81 f.recs)]⟩)]⟩) ?_ ?_
 refine st_split ((↑f.adds.length:Int)=(0:Int)) (fun h_6=>?_) (fun h_6=>?_)
 refine rG cx [1,3,35] [1] (tL 2 c45 f.adds (tT 3 (told_true h_6) (tL 7 c81 f.recs (tB 8 ((↑f.recs.length:Int)=(0:Int)) (tD 10 (decide ((↑f.recs.length:Int)=(0:Int))) ((↑f.adds.length:Int)=(0:Int)∧(↑f.recs.length:Int)=(0:Int)) (by simp only [eq_true h_6,tsl]) z0))))) ?_
 exact ⟨rfl,by kernel_rfl⟩
 refine rG cx [1,3,35] [1] (tL 2 c45 f.adds (tT 3 (told_false h_6) (tD 10 false ((↑f.adds.length:Int)=(0:Int)∧(↑f.recs.length:Int)=(0:Int)) (by simp only [eq_false h_6,tsl]) z0))) ?_
 exact ⟨rfl,by kernel_rfl⟩
 refine sn<|dC ((↑f.adds.length:Int)=(0:Int)∧(↑f.recs.length:Int)=(0:Int)) (fun h7=>?_) fun h7=>?_
 refine sq<|rG cx [2] [] z0<|sn<|rT<|bR<|nR<|qR (.i .i64 ((0:Int))) (.eq ?g6);rotate_left
 refine sq<|st_join (σ':=⟨[(46,.b (decide ((↑f.adds.length:Int)=(0:Int)∧(↑f.recs.length:Int)=(1:Int)∧sizeP f.gone=(0:Int))))],[]⟩) ?_ ?_
 refine st_split ((↑f.adds.length:Int)=(0:Int)) (fun h_9=>?_) (fun h_9=>?_)
 refine st_split ((↑f.recs.length:Int)=(1:Int)) (fun h_10=>?_) (fun h_10=>?_)
 refine rG cx [46] [] (tL 2 c45 f.adds (tT 3 (told_true h_9) (tL 7 c81 f.recs (tT 8 (told_true h_10) (tD 13 (decide (sizeP f.gone=(0:Int))) ((↑f.adds.length:Int)=(0:Int)∧(↑f.recs.length:Int)=(1:Int)∧sizeP f.gone=(0:Int)) (by simp only [eq_true h_9,eq_true h_10,tsl]) z0))))) ?_
 exact ⟨rfl,by kernel_rfl⟩
 refine rG cx [46] [] (tL 2 c45 f.adds (tT 3 (told_true h_9) (tL 7 c81 f.recs (tT 8 (told_false h_10) (tD 13 false ((↑f.adds.length:Int)=(0:Int)∧(↑f.recs.length:Int)=(1:Int)∧sizeP f.gone=(0:Int)) (by simp only [eq_true h_9,eq_false h_10,tsl]) z0))))) ?_
 exact ⟨rfl,by kernel_rfl⟩
 refine rG cx [46] [] (tL 2 c45 f.adds (tT 3 (told_false h_9) (tD 13 false ((↑f.adds.length:Int)=(0:Int)∧(↑f.recs.length:Int)=(1:Int)∧sizeP f.gone=(0:Int)) (by simp only [eq_false h_9,tsl]) z0))) ?_
 exact ⟨rfl,by kernel_rfl⟩
 refine sn<|dC ((↑f.adds.length:Int)=(0:Int)∧(↑f.recs.length:Int)=(1:Int)∧sizeP f.gone=(0:Int)) (fun h11=>?_) fun h11=>?_
 refine sq<|rG cx [2] [] z0<|sn<|rT<|bR<|nR<|qR (.i .i64 ((0:Int))) (.eq ?g7);rotate_left
 refine sK<|bN<|sn<|sq<|rG cx [2] [] z0<|sn<|rT<|qR (.i .i64 ((2:Int))) (.eq ?g8);rotate_left
 revert h0;rotate_left
 revert h0;rotate_left
 revert h0 h3;rotate_left
 revert h0 h3;rotate_left
 revert h0 h3 h4;rotate_left
 revert h0 h3 h4;rotate_left
 revert h0 h3 h7;rotate_left
 revert h0 h3 h7 h11;rotate_left
 revert h0 h3 h7 h11;rotate_left
 case g0=>intro h;unfold evE;rw [if_pos (no_true h)]
 case g1=>intros;exact hb.1.1
 case g2=>intro h k;exact head_get k.1
 case g3=>intros;exact hb.1.1
 case g4=>intro h k m;unfold evE;rw [if_neg (yes_true h),if_pos (by omega),if_pos m]
 case g5=>intro h k m;unfold evE;rw [if_neg (yes_true h),if_pos (by omega),if_neg m]
 case g6=>intro h k m;unfold evE;rw [if_neg (yes_true h),if_neg (by omega),if_pos (by omega)]
 case g7=>intro h k m n;unfold evE;rw [if_neg (yes_true h),if_neg (by omega),if_neg (by omega),if_pos (by omega)]
 case g8=>intro h k m n;unfold evE;rw [if_neg (yes_true h),if_neg (by omega),if_neg (by omega),if_neg (by omega)]
theorem con54 (f:Facts) (hb:szF f):Con Tryz.prog 54 [.agg (c29 f)] (.i .i64 (evE f)) :=
 by
 refine st_con tab_ok (by kernel_rfl) [.tmp 2] 64 Go.Proofs.Tryz.func54 (by kernel_rfl) (by kernel_rfl) ?_
 intro e0 cx
 refine sq<|rG cx [1] [1] z0<|sn<|sq<|sq<|rG cx [1,6] [1] (fT (con72 (f) (by (with_reducible assumption))) (tT 2 (told_not:(AV.b !okF f)=AV.b (decide ¬okF f=true)) (oA 1 (.b (okF f)) z0)))<|sn<|dC (¬okF f=true) (fun h0=>?_) fun h0=>?_
 refine sq<|rG cx [2] [] z0<|sn<|rT<|nR<|qR (.i .i64 ((1:Int))) (.eq ?g0);rotate_left
 refine sK<|sn<|sq<|rG cx [1,3] [1] (fT (con59 (f.gone) ?g1) (tQ 3 (sizeP f.gone=(0:Int)) (oA 2 (.b (decide (sizeP f.gone=(0:Int)))) z0))) ?_;rotate_left
 refine sn<|sq<|bL 0<|sq<|st_join (σ':=⟨[(1,.ptr (1) (0) (0) (0)),(3,.b (decide ¬sizeP f.gone=(0:Int))),(11,.b (decide ((↑f.adds.length:Int)=(1:Int)∧(↑f.recs.length:Int)=(0:Int))))],[(1,⟨0,29,.var [.sl (List.map c45 f.adds),.sl (List.map c3 f.gone.vec),.sl (List.map c104 f.gone.cloud),.sl (List.map c81 f.recs)]⟩)]⟩) ?_ ?_
 refine st_split ((↑f.adds.length:Int)=(1:Int)) (fun h_2=>?_) (fun h_2=>?_)
 refine rG cx [1,3,11] [1] (tL 2 c45 f.adds (tT 3 (told_true h_2) (tL 7 c81 f.recs (tB 8 ((↑f.recs.length:Int)=(0:Int)) (tD 10 (decide ((↑f.recs.length:Int)=(0:Int))) ((↑f.adds.length:Int)=(1:Int)∧(↑f.recs.length:Int)=(0:Int)) (by simp only [eq_true h_2,tsl]) z0))))) ?_
 exact ⟨rfl,by kernel_rfl⟩
 refine rG cx [1,3,11] [1] (tL 2 c45 f.adds (tT 3 (told_false h_2) (tD 10 false ((↑f.adds.length:Int)=(1:Int)∧(↑f.recs.length:Int)=(0:Int)) (by simp only [eq_false h_2,tsl]) z0))) ?_
 exact ⟨rfl,by kernel_rfl⟩
 refine sn<|dC ((↑f.adds.length:Int)=(1:Int)∧(↑f.recs.length:Int)=(0:Int)) (fun h3=>?_) fun h3=>?_
 refine sq<|sq<|rA cx [37] [] (fO ((0:Int)≤(0:Int)) (fP ((List.map c45 f.adds)[Int.toNat (0:Int)]?=some (c45 f.adds[(0:Nat)]!)) ?g2 (fR (4:Nat) (fT (con101 (f.gone) (f.adds[(0:Nat)]!.dot.rep) ?g3) (fO ((0:Int)≤(0:Int)) (fP ((List.map c45 f.adds)[Int.toNat (0:Int)]?=some (c45 f.adds[(0:Nat)]!)) ?g4 (fR (4:Nat) (tB 15 (f.adds[(0:Nat)]!.dot.num≤lastP f.gone f.adds[(0:Nat)]!.dot.rep) (oR 4 (c45 f.adds[(0:Nat)]!) (oA 8 (.i .i64 (lastP f.gone f.adds[(0:Nat)]!.dot.rep)) (oR 11 (c45 f.adds[(0:Nat)]!) z0))))))))))) ?_;rotate_left 3
 refine sn<|dC (f.adds[(0:Nat)]!.dot.num≤lastP f.gone f.adds[(0:Nat)]!.dot.rep) (fun h4=>?_) fun h4=>?_
 refine sq<|rG cx [2] [] z0<|sn<|rT<|nR<|bR<|nR<|qR (.i .i64 ((2:Int))) (.eq ?g5);rotate_left
 refine sK<|sn<|sq<|rG cx [2] [] z0<|sn<|rT<|bR<|nR<|qR (.i .i64 ((0:Int))) (.eq ?g6);rotate_left
 refine sq<|st_join (σ':=⟨[(1,.ptr (1) (0) (0) (0)),(3,.b (decide ¬sizeP f.gone=(0:Int))),(38,.b (decide ((↑f.adds.length:Int)=(0:Int)∧(↑f.recs.length:Int)=(0:Int))))],[(1,⟨0,29,.var [.sl (List.map c45 f.adds),.sl (List.map c3 f.gone.vec),.sl (List.map c104 f.gone.cloud),.sl (List.map c81 f.recs)]⟩)]⟩) ?_ ?_
 refine st_split ((↑f.adds.length:Int)=(0:Int)) (fun h_6=>?_) (fun h_6=>?_)
 refine rG cx [1,3,38] [1] (tL 2 c45 f.adds (tT 3 (told_true h_6) (tL 7 c81 f.recs (tB 8 ((↑f.recs.length:Int)=(0:Int)) (tD 10 (decide ((↑f.recs.length:Int)=(0:Int))) ((↑f.adds.length:Int)=(0:Int)∧(↑f.recs.length:Int)=(0:Int)) (by simp only [eq_true h_6,tsl]) z0))))) ?_
 exact ⟨rfl,by kernel_rfl⟩
 refine rG cx [1,3,38] [1] (tL 2 c45 f.adds (tT 3 (told_false h_6) (tD 10 false ((↑f.adds.length:Int)=(0:Int)∧(↑f.recs.length:Int)=(0:Int)) (by simp only [eq_false h_6,tsl]) z0))) ?_
 exact ⟨rfl,by kernel_rfl⟩
 refine sn<|dC ((↑f.adds.length:Int)=(0:Int)∧(↑f.recs.length:Int)=(0:Int)) (fun h7=>?_) fun h7=>?_
 refine sq<|rG cx [2] [] z0<|sn<|rT<|bR<|nR<|qR (.i .i64 ((0:Int))) (.eq ?g7);rotate_left
 refine sq<|st_join (σ':=⟨[(49,.b (decide ((↑f.adds.length:Int)=(0:Int)∧(↑f.recs.length:Int)=(1:Int)∧¬¬sizeP f.gone=(0:Int))))],[]⟩) ?_ ?_
 refine st_split ((↑f.adds.length:Int)=(0:Int)) (fun h_9=>?_) (fun h_9=>?_)
 refine st_split ((↑f.recs.length:Int)=(1:Int)) (fun h_10=>?_) (fun h_10=>?_)
 refine rG cx [49] [] (tL 2 c45 f.adds (tT 3 (told_true h_9) (tL 7 c81 f.recs (tT 8 (told_true h_10) (tT 12 (told_notd:(AV.b !decide ¬sizeP f.gone=(0:Int))=AV.b (decide ¬¬sizeP f.gone=(0:Int))) (tD 14 (decide ¬¬sizeP f.gone=(0:Int)) ((↑f.adds.length:Int)=(0:Int)∧(↑f.recs.length:Int)=(1:Int)∧¬¬sizeP f.gone=(0:Int)) (by simp only [eq_true h_9,eq_true h_10,tsl]) z0)))))) ?_
 exact ⟨rfl,by kernel_rfl⟩
 refine rG cx [49] [] (tL 2 c45 f.adds (tT 3 (told_true h_9) (tL 7 c81 f.recs (tT 8 (told_false h_10) (tD 14 false ((↑f.adds.length:Int)=(0:Int)∧(↑f.recs.length:Int)=(1:Int)∧¬¬sizeP f.gone=(0:Int)) (by simp only [eq_true h_9,eq_false h_10,tsl]) z0))))) ?_
 exact ⟨rfl,by kernel_rfl⟩
 refine rG cx [49] [] (tL 2 c45 f.adds (tT 3 (told_false h_9) (tD 14 false ((↑f.adds.length:Int)=(0:Int)∧(↑f.recs.length:Int)=(1:Int)∧¬¬sizeP f.gone=(0:Int)) (by simp only [eq_false h_9,tsl]) z0))) ?_
 exact ⟨rfl,by kernel_rfl⟩
 refine sn<|dC ((↑f.adds.length:Int)=(0:Int)∧(↑f.recs.length:Int)=(1:Int)∧¬¬sizeP f.gone=(0:Int)) (fun h11=>?_) fun h11=>?_
 refine sq<|rG cx [2] [] z0<|sn<|rT<|bR<|nR<|qR (.i .i64 ((0:Int))) (.eq ?g8);rotate_left
 refine sK<|bN<|sn<|sq<|rG cx [2] [] z0<|sn<|rT<|qR (.i .i64 ((2:Int))) (.eq ?g9);rotate_left
 revert h0;rotate_left
 revert h0;rotate_left
 revert h0 h3;rotate_left
 revert h0 h3;rotate_left
 revert h0 h3;rotate_left
 revert h0 h3 h4;rotate_left
 revert h0 h3 h4;rotate_left
 revert h0 h3 h7;rotate_left
 revert h0 h3 h7 h11;rotate_left
 revert h0 h3 h7 h11;rotate_left
 case g0=>intro h;unfold evE;rw [if_pos (no_true h)]
 case g1=>intros;exact hb.1.1
 case g2=>intro h k;exact head_get k.1
 case g3=>intros;exact hb.1.1
 case g4=>intro h k;exact head_get k.1
 case g5=>intro h k m;unfold evE;rw [if_neg (yes_true h),if_pos (by omega),if_neg (by omega)]
 case g6=>intro h k m;unfold evE;rw [if_neg (yes_true h),if_pos (by omega),if_pos (by omega)]
 case g7=>intro h k m;unfold evE;rw [if_neg (yes_true h),if_neg (by omega),if_pos (by omega)]
 case g8=>intro h k m n;unfold evE;rw [if_neg (yes_true h),if_neg (by omega),if_neg (by omega),if_pos (by omega)]
 case g9=>intro h k m n;unfold evE;rw [if_neg (yes_true h),if_neg (by omega),if_neg (by omega),if_neg (by omega)]
end Go.Proofs.YtaiepnaokhpmcaaGreat
namespace Go.Proofs.YtaiepnaokhpmcaaGreat
open Go.E
set_option maxRecDepth 100000
set_option maxHeartbeats 4000000
def ofV (es:List Entry) (sku:ByteArray):List Entry×Int :=
 if okL es=true then (if good sku=true then (es.filter (fun e=>decide (e.sku=sku)),0) else ([],5)) else ([],1)
def invP (p:Entry→Bool) (es:List Entry) (i:Int) (l:List Entry):Prop:=0≤i∧i≤es.length∧l=(es.take i.toNat).filter p∧(l.length:Int)≤i
def decP (es:List Entry) (i:Int) (l:List Entry):Nat:=(es.length-i).toNat
theorem filter_step {p:Entry→Bool} {es:List Entry} {i:Int} (h0:0≤i) (h:i < es.length):(es.take (i+1).toNat).filter p=if p es[i.toNat]! = true then (es.take i.toNat).filter p++[es[i.toNat]!] else (es.take i.toNat).filter p:=by
 rw [← take_step h0 h,List.filter_append]
 by_cases hp:p es[i.toNat]! = true
 ·rw [if_pos hp,List.filter_cons_of_pos hp,List.filter_nil]
 ·rw [if_neg hp,List.filter_cons_of_neg hp,List.filter_nil,List.append_nil]
theorem invP_init (p:Entry→Bool) (es:List Entry):invP p es 0 []:=⟨by omega,by omega,by simp,by simp⟩
theorem invP_add {p:Entry→Bool} {es l:List Entry} {i:Int} (h0:0≤i) (h2:l=(es.take i.toNat).filter p) (h3:(l.length:Int)≤i) (h4:i < es.length) (h:p es[i.toNat]! = true):invP p es (i+1) (l++[es[i.toNat]!]) :=
 ⟨by omega,by omega,by rw [filter_step h0 h4,if_pos h,h2],by rw [List.length_append,List.length_cons,List.length_nil];omega⟩
theorem invP_skip {p:Entry→Bool} {es l:List Entry} {i:Int} (h0:0≤i) (h2:l=(es.take i.toNat).filter p) (h3:(l.length:Int)≤i) (h4:i < es.length) (h:¬ p es[i.toNat]! = true):invP p es (i+1) l :=
 ⟨by omega,by omega,by rw [filter_step h0 h4,if_neg h,h2],by omega⟩
theorem invP_done {p:Entry→Bool} {es l:List Entry} {i:Int} (h2:l=(es.take i.toNat).filter p) (h4:¬ i < es.length):l=es.filter p:=by
 rw [h2,List.take_of_length_le (by omega)]
end Go.Proofs.YtaiepnaokhpmcaaGreat
namespace Go.Proofs.YtaiepnaokhpmcaaGreat
open Go.E
set_option maxRecDepth 100000
set_option maxHeartbeats 4000000
theorem ent_ok {e:Entry} (h:entE e=0):0≤e.dot.rep∧e.dot.rep < 16∧1≤e.dot.num∧e.dot.num≤1000000000:=by
 unfold entE at h
 split at h
 ·cases h
 ·split at h
  ·cases h
  ·omega
theorem okL_at {es:List Entry} (h:okL es=true) {i:Nat} (hi:i < es.length):entE es[i]! = 0∧(i=0∨dLt es[i-1]!.dot es[i]!.dot=true):=(okAt_iff _ _).1 ((allUp_iff _ _).1 h i hi)
theorem okL_key {es:List Entry} (h:okL es=true):∀ i:Nat,i < es.length→(i:Int)+1≤es[i]!.dot.rep*1000000000+es[i]!.dot.num
 | 0,hi=>by have:=ent_ok (okL_at h hi).1;omega
 | i+1,hi=>by
  have h1:=okL_key h i (by omega)
  have h2:=ent_ok (okL_at h hi).1
  have h3:=ent_ok (okL_at h (show i < es.length by omega)).1
  have h4:=(okL_at h hi).2
  rcases h4 with h4 | h4
  ·omega
  ·simp only [Nat.add_sub_cancel,dLt,decide_eq_true_eq] at h4
   omega
theorem okL_len {es:List Entry} (h:okL es=true):es.length≤16000000000:=by
 by_cases h0:es.length=0
 ·omega
 ·have h1:=okL_key h (es.length-1) (by omega)
  have h2:=ent_ok (okL_at h (show es.length-1 < es.length by omega)).1
  omega
theorem lst_ok {es:List Entry} (h:lstE es=0):okL es=true:=by
 unfold lstE at h
 split at h
 ·assumption
 ·cases h
theorem lst_no {es:List Entry} (h:¬ lstE es=0):¬ okL es=true:=fun k=>h (by unfold lstE;rw [if_pos k])
end Go.Proofs.YtaiepnaokhpmcaaGreat
namespace Go.Proofs.YtaiepnaokhpmcaaGreat
open Go.E
set_option maxRecDepth 100000
set_option maxHeartbeats 4000000
def covR (r:Record) (e:Entry):Bool:=decide (r.sku=noneS∨r.sku=e.sku) && hasP r.past e.dot
def barsR (rs:List Record) (e:Entry):Int:=(rs.filter fun r=>covR r e).length
def groupR (r:Record) (rs:List Record):List Record:=r :: rs.takeWhile fun x=>decide (x.sku=r.sku)
def restR (r:Record) (rs:List Record):List Record:=rs.dropWhile fun x=>decide (x.sku=r.sku)
theorem restR_len (r:Record) (rs:List Record):(restR r rs).length≤rs.length:=(List.dropWhile_sublist _).length_le
noncomputable def pastG (all:Past) (r:Record) (rs:List Record):Past:=if r.sku=noneS then joinP ((groupR r rs).map fun x=>x.past) else minusP (joinP ((groupR r rs).map fun x=>x.past)) all
noncomputable def allG (all:Past) (r:Record) (rs:List Record):Past:=if r.sku=noneS then joinP ((groupR r rs).map fun x=>x.past) else all
noncomputable def foldG (all:Past) (out:List Record):List Record→List Record
 | []=>out
 | r :: rs=>foldG (allG all r rs) (if sizeP (pastG all r rs)=0 then out else out++[⟨r.sku,pastG all r rs⟩]) (restR r rs)
termination_by l=>l.length
decreasing_by
 have:=restR_len r rs
 simp only [List.length_cons]
 omega
noncomputable def foldV (rs:List Record):List Record×Int:=if recE rs=0 then (foldG ⟨[],[]⟩ [] rs,0) else ([],1)
theorem foldG_nil (all:Past) (out:List Record):foldG all out []=out:=by rw [foldG]
theorem foldG_cons (all:Past) (out:List Record) (r:Record) (rs:List Record):foldG all out (r :: rs)=foldG (allG all r rs) (if sizeP (pastG all r rs)=0 then out else out++[⟨r.sku,pastG all r rs⟩]) (restR r rs):=by rw [foldG]
theorem group_rest (r:Record) (rs:List Record):groupR r rs++restR r rs=r :: rs:=by
 unfold groupR restR
 rw [List.cons_append,List.takeWhile_append_dropWhile]
theorem take_imp {α:Type} {p:α→Bool} {x:α}:∀ {l:List α},x∈l.takeWhile p→p x=true
 | [],h=>by cases h
 | y :: l,h=>by
  rw [List.takeWhile_cons] at h
  split at h
  ·rcases List.mem_cons.1 h with rfl | h
   ·assumption
   ·exact take_imp h
  ·cases h
theorem group_sku {r:Record} {rs:List Record} {x:Record} (h:x∈groupR r rs):x.sku=r.sku:=by
 unfold groupR at h
 rcases List.mem_cons.1 h with rfl | h
 ·rfl
 ·have:=take_imp h
  simpa using this
theorem cov_iff {r:Record} {e:Entry}:covR r e=true↔(r.sku=noneS∨r.sku=e.sku)∧hasP r.past e.dot=true:=by
 unfold covR
 rw [Bool.and_eq_true,decide_eq_true_iff]
theorem fold_cov (e:Entry):∀ (n:Nat) (l:List Record),l.length≤n→∀ (all:Past) (out:List Record),(∀ d,hasP all d=true→∃ r∈out,r.sku=noneS∧hasP r.past d=true) →
  ((∃ r∈foldG all out l,covR r e=true)↔(∃ r∈out,covR r e=true)∨∃ r∈l,covR r e=true):=by
 intro n
 induction n with
 | zero =>
  intro l hl all out _
  have:l=[]:=List.eq_nil_of_length_eq_zero (by omega)
  subst this
  rw [foldG_nil]
  simp
 | succ n ih =>
  intro l hl all out hP
  cases l with
  | nil=>rw [foldG_nil];simp
  | cons r rs =>
   have hlen:=restR_len r rs
   simp only [List.length_cons] at hl
   have hj:∀ d,hasP (joinP ((groupR r rs).map fun x=>x.past)) d=true↔∃ x∈groupR r rs,hasP x.past d=true:=fun d=>by
    rw [has_join,List.any_map,List.any_eq_true]
    simp only [Function.comp]
   have hg:(∃ x∈groupR r rs,covR x e=true)↔(r.sku=noneS∨r.sku=e.sku)∧hasP (joinP ((groupR r rs).map fun x=>x.past)) e.dot=true:=by
    rw [hj]
    constructor
    ·rintro ⟨x,hx,h⟩
     obtain ⟨h1,h2⟩:=cov_iff.1 h
     rw [group_sku hx] at h1
     exact ⟨h1,x,hx,h2⟩
    ·rintro ⟨h1,x,hx,h2⟩
     exact ⟨x,hx,cov_iff.2 ⟨by rw [group_sku hx];exact h1,h2⟩⟩
   have hs:(∃ x∈r :: rs,covR x e=true)↔(∃ x∈groupR r rs,covR x e=true)∨∃ x∈restR r rs,covR x e=true:=by
    rw [← group_rest r rs]
    constructor
    ·rintro ⟨x,hx,h⟩
     rcases List.mem_append.1 hx with hx | hx
     ·exact .inl ⟨x,hx,h⟩
     ·exact .inr ⟨x,hx,h⟩
    ·rintro (⟨x,hx,h⟩ | ⟨x,hx,h⟩)
     ·exact ⟨x,List.mem_append.2 (.inl hx),h⟩
     ·exact ⟨x,List.mem_append.2 (.inr hx),h⟩
   -- what the group's own record covers,beside what was there
   have own:∀ q:Past,(r.sku=noneS→∀ d,hasP q d=hasP (joinP ((groupR r rs).map fun x=>x.past)) d)→(¬ r.sku=noneS→∀ d,hasP q d=(hasP (joinP ((groupR r rs).map fun x=>x.past)) d && !hasP all d)) →
     ((∃ x∈(if sizeP q=0 then out else out++[⟨r.sku,q⟩]),covR x e=true)↔(∃ x∈out,covR x e=true)∨∃ x∈groupR r rs,covR x e=true):=by
    intro q hq1 hq2
    have hmem:(∃ x∈(if sizeP q=0 then out else out++[⟨r.sku,q⟩]),covR x e=true)↔(∃ x∈out,covR x e=true)∨((r.sku=noneS∨r.sku=e.sku)∧hasP q e.dot=true):=by
     split
     ·rename_i h0
      have:=(sizeP_zero q).1 h0 e.dot
      rw [this]
      simp
     ·constructor
      ·rintro ⟨x,hx,h⟩
       rcases List.mem_append.1 hx with hx | hx
       ·exact .inl ⟨x,hx,h⟩
       ·have:x=⟨r.sku,q⟩:=by simpa using hx
        subst this
        exact .inr (cov_iff.1 h)
      ·rintro (⟨x,hx,h⟩ | h)
       ·exact ⟨x,by simp [hx],h⟩
       ·exact ⟨⟨r.sku,q⟩,by simp,cov_iff.2 h⟩
    rw [hmem,hg]
    by_cases hn:r.sku=noneS
    ·rw [hq1 hn]
    ·rw [hq2 hn,Bool.and_eq_true,Bool.not_eq_true']
     constructor
     ·rintro (h | h)
      ·exact .inl h
      ·exact .inr ⟨h.1,h.2.1⟩
     ·rintro (h | ⟨h1,h2⟩)
      ·exact .inl h
      ·cases ha:hasP all e.dot with
       | false=>exact .inr ⟨h1,h2,rfl⟩
       | true =>
        obtain ⟨x,hx,k1,k2⟩:=hP _ ha
        exact .inl ⟨x,hx,cov_iff.2 ⟨.inl k1,k2⟩⟩
   rw [foldG_cons,ih (restR r rs) (by omega) _ _ ?_,own (pastG all r rs) ?_ ?_,hs,or_assoc]
   ·intro hn d
    unfold pastG
    rw [if_pos hn]
   ·intro hn d
    unfold pastG
    rw [if_neg hn,has_min]
   ·intro d hd
    unfold allG at hd
    by_cases hn:r.sku=noneS
    ·rw [if_pos hn] at hd
     have hq:pastG all r rs=joinP ((groupR r rs).map fun x=>x.past):=by unfold pastG;rw [if_pos hn]
     have h0:¬ sizeP (pastG all r rs)=0:=fun h0=>by
      have:=(sizeP_zero _).1 h0 d
      rw [hq,hd] at this
      cases this
     rw [if_neg h0]
     exact ⟨⟨r.sku,pastG all r rs⟩,by simp,hn,by rw [hq];exact hd⟩
    ·rw [if_neg hn] at hd
     obtain ⟨x,hx,k⟩:=hP d hd
     split
     ·exact ⟨x,hx,k⟩
     ·exact ⟨x,by simp [hx],k⟩
theorem bars_zero {rs:List Record} {e:Entry}:barsR rs e=0↔¬ ∃ r∈rs,covR r e=true:=by
 unfold barsR
 constructor
 ·rintro h ⟨r,hr,k⟩
  have:0 < (rs.filter fun r=>covR r e).length:=List.length_pos_iff.2 (List.ne_nil_of_mem (List.mem_filter.2 ⟨hr,k⟩))
  omega
 ·intro h
  have:rs.filter (fun r=>covR r e)=[]:=List.filter_eq_nil_iff.2 fun r hr k=>h ⟨r,hr,k⟩
  rw [this];rfl
theorem fold_bars (rs:List Record) (e:Entry):barsR (foldG ⟨[],[]⟩ [] rs) e=0↔barsR rs e=0:=by
 rw [bars_zero,bars_zero,fold_cov e rs.length rs (Nat.le_refl _) _ _ (fun d h=>by rw [has_none] at h;cases h)]
 simp
noncomputable def applyV (es:List Entry) (rs:List Record):List Entry×Int:=if lstE es=0∧recE rs=0 then (es.filter fun e=>decide (barsR rs e=0),0) else ([],1)
def totR (rs:List Record):Nat:=(rs.map fun r=>r.past.cloud.length+1).sum
end Go.Proofs.YtaiepnaokhpmcaaGreat
