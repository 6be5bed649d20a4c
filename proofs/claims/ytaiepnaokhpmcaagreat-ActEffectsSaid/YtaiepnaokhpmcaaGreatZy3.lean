/- Pc: span: Union and Norm. Conditions: sizes. EV: slices.Clone at any element type: it hands back a row of the caller's own. Conditions: how its body is laid; sizes. Pd: span: Norm, Lead, and the library's Clone at runs. Conditions: sizes. Pn: span: the canonical form in plain words. Conditions: none. Pe: past: what the sets come to. Conditions: sizes. Pf: past: dots, and the set of dots. Conditions: sizes. Pg: past: the sets that pasts mean. Conditions: sizes. Ph: past: Norm. Conditions: sizes. Pi: past: the library's Equal, IsNorm. Conditions: sizes. Pj: past: Has. Conditions: none. Rh: the past in plain words: what is in a set in form. Conditions: none. Pp: span: what is in both, what is in neither, in plain words. Conditions: none. Pq: the total order of contexts, in plain words. Conditions: none. Pr: past.Compare, with the library's cmp.Compare, cmp.Or and slices.CompareFunc. Conditions: sizes. Sa: texts: their order is total. Conditions: none. Ps: strings.Compare. Conditions: none. Pl: runs: how many numbers, the greatest. Conditions: none. Pu: how many dots; the greatest of a replica: in plain words. Conditions: none. Ga: goods: is a text a SKU. Conditions: none. Kp: records: their order and form, in plain words. Conditions: none. Pk: span.Size, span.Last, past.Size, Empty, Last, Next. Conditions: sizes. Ka: keep.CheckRecord, Compare, Check. Conditions: sizes. Ra: the document's past: dots, Has, Same, sorted. Conditions: sizes. -/
import Derived.Below
import Derived.OwnWalk
import Derived.WalkKit
import Derived.KernelRfl
import Derived.Laws.MakeOwn
import Derived.Laws.OwnMore
import Derived.Laws.Slices
import Derived.Laws.CopyOwn
import Derived.Laws.AppendOwnNone
import Derived.Laws.Rows
import Derived.Orders
import Derived.Test.YtaiepnaokhpmcaaGreatProg
import Derived.DataReads
import Derived.ChangeOld
import Derived.DataElems
import Derived.SizedLaws
import Derived.ChangeKeysEq
import Derived.Sort.LotA
import Derived.Shelf.SlSortFuncK.RowK2
import Derived.Shelf.SlSortCmp.NoneTotal
import Derived.Lib.Walk
import Derived.Shelf.SlLaysE0
import Derived.Shelf.RegionOpenPlain
import Derived.Deep.LoopGhost
import Derived.Lib.SliceRun
import Derived.Lib.Bytealg
import Derived.Test.YtaiepnaokhpmcaaGreatZy2
set_option linter.unusedVariables false
set_option linter.unusedSimpArgs false
namespace Go.Proofs.YtaiepnaokhpmcaaGreat
open Go.E
set_option maxRecDepth 100000
set_option maxHeartbeats 4000000
def c150 (l:List Run):List AV:=[.sl (l.map c154)]
def keepR (l:List Run):List Run:=(l.map clipR).filter (fun r=>decide (r.lo≤r.hi))
def foldR (l:List Run):List Run:=l.foldl addR []
def unR (ss:List (List Run)):List Run:=foldR (pdqR (keepR ss.flatten))
def isKept (ss:List (List Run)) (i:Int) (all:List Run):Prop:=all=keepR (ss.take i.toNat).flatten
def isKept2 (ss:List (List Run)) (i j:Int) (all:List Run):Prop:=all=keepR ((ss.take i.toNat).flatten++(ss[i.toNat]!).take j.toNat)
def isFold (l:List Run) (i:Int) (out:List Run):Prop:=out=foldR (l.take i.toNat)
def inv133a (ss:List (List Run)) (i:Int) (all:List Run):Prop:=0≤i∧i≤ss.length∧isKept ss i all
def dec133a (ss:List (List Run)) (i:Int) (all:List Run):Nat:=(ss.length-i).toNat
def inv133b (ss:List (List Run)) (i:Int) (j:Int) (all:List Run):Prop:=0≤j∧j≤(ss[i.toNat]!).length∧isKept2 ss i j all
def dec133b (ss:List (List Run)) (i:Int) (j:Int) (all:List Run):Nat:=((ss[i.toNat]!).length-j).toNat
def inv133c (s:List Run) (i:Int) (l out:List Run):Prop:=l=s∧0≤i∧i≤l.length∧(out.length:Int)≤i∧hiOk out∧isFold l i out
def dec133c (s:List Run) (i:Int) (l out:List Run):Nat:=(s.length-i).toNat
theorem keepR_app (a b:List Run):keepR (a++b)=keepR a++keepR b:=by simp [keepR]
theorem keepR_len (l:List Run):(keepR l).length≤l.length:=by
 unfold keepR
 exact Nat.le_trans (List.length_filter_le _ _) (by simp)
def good1 (r:Run):Prop:=okR r∧r.lo≤r.hi∧r.hi≤1000000000
theorem keep_good {l:List Run}:∀ r∈keepR l,good1 r:=by
 intro r hr
 unfold keepR at hr
 obtain ⟨h1,h2⟩:=List.mem_filter.1 hr
 obtain ⟨x,_,rfl⟩:=List.mem_map.1 h1
 simp only [decide_eq_true_eq] at h2
 unfold good1 okR
 simp only [clipR] at *
 omega
theorem flatR_le {α:Type} (ss:List (List α)) (i:Nat):(ss.take i).flatten.length≤ss.flatten.length:=by
 have h:(ss.take i).flatten++(ss.drop i).flatten=ss.flatten:=by rw [← List.flatten_append,List.take_append_drop]
 rw [← h,List.length_append]
 omega
theorem flatR_step {α:Type} {ss:List (List α)} {i:Int} (h0:0≤i) (h:i < ss.length):(ss.take (i+1).toNat).flatten=(ss.take i.toNat).flatten++ss[i.toNat]!:=by
 rw [← take_step h0 h,List.flatten_append]
 simp
theorem part_le {α:Type} {ss:List (List α)} {i:Int} (j:Nat) (h0:0≤i) (h:i < ss.length):((ss.take i.toNat).flatten++(ss[i.toNat]!).take j).length≤ss.flatten.length:=by
 have h1:=flatR_le ss (i+1).toNat
 rw [flatR_step h0 h,List.length_append] at h1
 rw [List.length_append,List.length_take]
 omega
theorem kept2_len {ss:List (List Run)} {i j:Int} {all:List Run} (h0:0≤i) (h:i < ss.length) (hk:isKept2 ss i j all):all.length≤((ss.take i.toNat).flatten++(ss[i.toNat]!).take j.toNat).length:=by
 unfold isKept2 at hk
 rw [hk]
 exact keepR_len _
theorem keepR_one (r:Run):keepR [r]=if (clipR r).lo≤(clipR r).hi then [clipR r] else []:=by
 unfold keepR
 by_cases h:(clipR r).lo≤(clipR r).hi <;> simp [List.filter_cons,h]
theorem kept2_next {ss:List (List Run)} {i j:Int} {all:List Run} (j0:0≤j) (jl:j < (ss[i.toNat]!).length) (hk:isKept2 ss i j all) :
  isKept2 ss i (j+1) (if (clipR (ss[i.toNat]!)[j.toNat]!).lo≤(clipR (ss[i.toNat]!)[j.toNat]!).hi then all++[clipR (ss[i.toNat]!)[j.toNat]!] else all):=by
 unfold isKept2 at *
 rw [← take_step j0 jl,← List.append_assoc,keepR_app,← hk]
 by_cases h:(clipR (ss[i.toNat]!)[j.toNat]!).lo≤(clipR (ss[i.toNat]!)[j.toNat]!).hi
 ·rw [if_pos h,keepR_one,if_pos h]
 ·rw [if_neg h,keepR_one,if_neg h,List.append_nil]
theorem kept2_room {ss:List (List Run)} {i j:Int} {all:List Run} (hb:ss.flatten.length*16≤140737488351232) (h0:0≤i) (h:i < ss.length) (j0:0≤j) (jl:j < (ss[i.toNat]!).length) (hk:isKept2 ss i j all):(all.length+1)*16≤140737488351232∧j+1≤9223372036854775807:=by
 have h1:=kept2_len h0 h hk
 have h2:=part_le (j+1).toNat h0 h
 have h3:=part_le (ss[i.toNat]!).length h0 h
 rw [List.length_append,List.length_take] at h1 h2 h3
 omega
theorem kept_start {ss:List (List Run)} {i:Int} {all:List Run} (hk:isKept ss i all):isKept2 ss i 0 all:=by
 unfold isKept isKept2 at *
 simpa using hk
theorem kept_next {ss:List (List Run)} {i j:Int} {all:List Run} (h0:0≤i) (h:i < ss.length) (jl:¬ j < (ss[i.toNat]!).length) (hk:isKept2 ss i j all):isKept ss (i+1) all:=by
 unfold isKept isKept2 at *
 rw [flatR_step h0 h,hk,List.take_of_length_le (l:=ss[i.toNat]!) (by omega)]
theorem kept_end {ss:List (List Run)} {i:Int} {all:List Run} (h:¬ i < ss.length) (hk:isKept ss i all):all=keepR ss.flatten:=by
 unfold isKept at hk
 rw [hk,List.take_of_length_le (by omega)]
theorem addR_len (out:List Run) (r:Run):(addR out r).length≤out.length+1:=by
 unfold addR
 split <;> simp
theorem addR_hi {out:List Run} {r:Run} (h:hiOk out) (h1:r.hi≤1000000000∧0≤r.hi):hiOk (addR out r):=by
 unfold addR
 split
 ·rename_i hc
  intro x hx
  rcases List.mem_or_eq_of_mem_set hx with hx | rfl
  ·exact h x hx
  ·have:=h _ (bang_in (l:=out) (i:=((out.length:Int)-1).toNat) (by omega))
   unfold lastR
   simp only
   omega
 ·intro x hx
  rcases List.mem_append.1 hx with hx | hx
  ·exact h x hx
  ·have:x=r:=by simpa using hx
   subst this
   exact h1
theorem fold_next {l out:List Run} {i:Int} (h0:0≤i) (h:i < l.length) (hf:isFold l i out):isFold l (i+1) (addR out l[i.toNat]!):=by
 unfold isFold foldR at *
 rw [← take_step h0 h,List.foldl_append,← hf]
 rfl
theorem sorted_good {l:List Run} (hl:∀ r∈l,good1 r):∀ r∈pdqR l,good1 r:=fun r hr=>hl r ((pdqR_perm fun r hr=>(hl r hr).1).subset hr)
theorem con208 (ss:List (List Run)) (hb:ss.flatten.length*16≤140737488351232):ConB Tryz.prog 208 [.sl (ss.map c150)] 154 (.row 2 ((unR ss).map c154)) :=
 by
 refine conB_lens 0 (c150) (ss) (by kernel_rfl) Go.Proofs.Tryz.func208 (by kernel_rfl) fun hl_0=>st_conB tab_ok (by kernel_rfl) (.tmp 2) 50 Go.Proofs.Tryz.func208 (by kernel_rfl) (by kernel_rfl) ?_
 intro e0 cx
 refine sq<|rG cx [0] [] z0<|sn<|sq<|rG cx [0,3] [] z0<|sn<|sq<|sq<|rG cx [3,13,14,15] [] (tL 1 c150 ss z0)<|sn<|bL 0<|awp_adopt 3 1003 154 2 (σ':=⟨[(3,.own 1003 0),(13,.sl (List.map c150 ss)),(14,.i .i64 ((↑ss.length:Int))),(15,.i .i64 ((0:Int)))],[(1003,⟨0,154,.row 2 (List.map c154 [])⟩)]⟩) (by kernel_rfl)<|st_loop (X:=Int×List Run) (fun x=>⟨[(3,.own 1003 0),(13,.sl (List.map c150 ss)),(14,.i .i64 ((↑ss.length:Int))),(15,.i .i64 (x.1))],[(1003,⟨0,154,.row 2 (List.map c154 x.2)⟩)]⟩) (fun x ↦ dec133a ss x.1 x.2) (fun x ↦ inv133a ss x.1 x.2) [3,13,14,15] [1003] (((0:Int),[])) (by kernel_rfl) (by kernel_rfl) (show inv133a ss (0:Int) [] from ?g0) ?_;rotate_left
 rintro ⟨i0,a1⟩ h_2
 obtain ⟨hh3,h4,hh5⟩:(0:Int)≤i0∧i0≤(↑ss.length:Int)∧isKept ss i0 a1:=h_2
 refine sq<|rG cx [3,13,14,15,16] [1003] (tB 0 (i0 < (↑ss.length:Int)) z0)<|sn<|sq<|dC (i0 < (↑ss.length:Int)) (fun h6=>?_) fun h6=>?_
 refine sK<|sn<|sq<|bL 1<|sq<|rG cx [3,13,14,15,5] [1003] (fA ((0:Int)≤i0) (fG c150 ss i0.toNat (fR (1:Nat) (oR 0 (c150 ss[i0.toNat]!) z0))))<|sn<|sq<|rG cx [3,13,14,15,19,20,21] [1003] (tL 1 c154 ss[i0.toNat]! z0)<|sn<|bL 2<|st_loop (X:=Int×List Run) (fun x=>⟨[(3,.own 1003 0),(13,.sl (List.map c150 ss)),(14,.i .i64 ((↑ss.length:Int))),(15,.i .i64 (i0)),(19,.sl (List.map c154 ss[i0.toNat]!)),(20,.i .i64 ((↑ss[i0.toNat]!.length:Int))),(21,.i .i64 (x.1))],[(1003,⟨0,154,.row 2 (List.map c154 x.2)⟩)]⟩) (fun x ↦ dec133b ss i0 x.1 x.2) (fun x ↦ inv133b ss i0 x.1 x.2) [3,13,14,15,19,20,21] [1003] (((0:Int),a1)) (by kernel_rfl) (by kernel_rfl) (show inv133b ss i0 (0:Int) a1 from ?g1) ?_;rotate_left
 rintro ⟨j7,a8⟩ h_9
 obtain ⟨h10,h11,h12⟩:(0:Int)≤j7∧j7≤(↑ss[i0.toNat]!.length:Int)∧isKept2 ss i0 j7 a8:=h_9
 refine sq<|rG cx [3,13,14,15,19,20,21,22] [1003] (tB 0 (j7 < (↑ss[i0.toNat]!.length:Int)) z0)<|sn<|sq<|dC (j7 < (↑ss[i0.toNat]!.length:Int)) (fun h13=>?_) fun h13=>?_
 refine sK<|sn<|sq<|bL 3<|sq<|rG cx [3,13,14,15,19,20,21,7] [1003,7] (fA ((0:Int)≤j7) (fG c154 ss[i0.toNat]! j7.toNat (fR (2:Nat) (fN 2 2 (oR 0 (c154 ss[i0.toNat]![j7.toNat]!) z0)))))<|sn<|sq<|rG cx [3,13,14,15,19,20,21,8,9] [1003,8] (fT (con181 (ss[i0.toNat]![j7.toNat]!)) (oA 1 (.tup [.agg [.i .i64 ((clipR ss[i0.toNat]![j7.toNat]!).lo),.i .i64 ((clipR ss[i0.toNat]![j7.toNat]!).hi)],.b (decide ((clipR ss[i0.toNat]![j7.toNat]!).lo≤(clipR ss[i0.toNat]![j7.toNat]!).hi))]) z0))<|sn<|sq<|rG cx [3,13,14,15,19,20,21,8,30] [1003,8] z0<|sn<|dC ((clipR ss[i0.toNat]![j7.toNat]!).lo≤(clipR ss[i0.toNat]![j7.toNat]!).hi) (fun h14=>?_) fun h14=>?_
 refine rG cx [3,13,14,15,19,20,21] [1003] (fR (154:Nat) (fR 2 (fR (2:Nat) (fX c154 [clipR ss[i0.toNat]![j7.toNat]!] 2 (fP ((List.map c154 a8).length+(List.map c154 [clipR ss[i0.toNat]![j7.toNat]!]).length≤maxLen) ?g2 (fP (((List.map c154 a8).length+(List.map c154 [clipR ss[i0.toNat]![j7.toNat]!]).length)*(16:Nat)≤(140737488355328:Nat)) ?g3 (fM c154 a8 [clipR ss[i0.toNat]![j7.toNat]!] (oV 3 { rows:=some (List.map c154 (a8++[clipR ss[i0.toNat]![j7.toNat]!])) } z0)))))))) ?_;rotate_left 2
 refine bN<|sn<|rG cx [3,13,14,15,19,20,21] [1003] (tT 0 (told_i64 (by omega) ?g4:AV.i .i64 (IntKind.i64.wrap (j7+(1:Int)))=AV.i .i64 (j7+(1:Int))) z0) ?_;rotate_left
 refine sn<|loop_next ((j7+(1:Int),a8++[clipR ss[i0.toNat]![j7.toNat]!])) (by kernel_rfl) (show ((↑ss[i0.toNat]!.length:Int)-(j7+(1:Int))).toNat < ((↑ss[i0.toNat]!.length:Int)-j7).toNat from (by omega)) (show inv133b ss i0 (j7+(1:Int)) (a8++[clipR ss[i0.toNat]![j7.toNat]!]) from ?g5);rotate_left
 refine sK<|bN<|sn<|rG cx [3,13,14,15,19,20,21] [1003] (tT 0 (told_i64 (by omega) ?g6:AV.i .i64 (IntKind.i64.wrap (j7+(1:Int)))=AV.i .i64 (j7+(1:Int))) z0) ?_;rotate_left
 refine sn<|loop_next ((j7+(1:Int),a8)) (by kernel_rfl) (show ((↑ss[i0.toNat]!.length:Int)-(j7+(1:Int))).toNat < ((↑ss[i0.toNat]!.length:Int)-j7).toNat from (by omega)) (show inv133b ss i0 (j7+(1:Int)) a8 from ?g7);rotate_left
 refine eX 2<|nE<|nE<|bH<|bN<|sn<|rG cx [3,13,14,15] [1003] (tW 0 (i0+(1:Int)) z0)<|sn<|loop_next ((i0+(1:Int),a8)) (by kernel_rfl) (show ((↑ss.length:Int)-(i0+(1:Int))).toNat < ((↑ss.length:Int)-i0).toNat from (by omega)) (show inv133a ss (i0+(1:Int)) a8 from ?g8);rotate_left
 refine eX 0<|nE<|nE<|bH<|sn<|sq<|rG cx [3] [1003] (fP (IOConG Tryz.prog (239:FuncId) (240:FuncId) none false (154:Nat) (2:Nat) (List.map c154 a1) (List.map c154 (pdqR a1))) (io239 (a1) ?g9 ?g10) (oV 1 { rows:=some (List.map c154 (pdqR a1)) } z0)) ?_;rotate_left 2
 refine sn<|sq<|rG cx [3,10] [1003] z0<|sn<|sq<|sq<|rG cx [10,39,40,41] [1003] (tL 1 c154 (pdqR a1) z0)<|sn<|bL 4<|awp_adopt 10 1010 154 2 (σ':=⟨[(10,.own 1010 0),(39,.own 1003 0),(40,.i .i64 ((↑(pdqR a1).length:Int))),(41,.i .i64 ((0:Int)))],[(1003,⟨0,154,.row 2 (List.map c154 (pdqR a1))⟩),(1010,⟨0,154,.row 2 (List.map c154 [])⟩)]⟩) (by kernel_rfl)<|st_loop (X:=Int×List Run×List Run) (fun x=>⟨[(10,.own 1010 0),(39,.own 1003 0),(40,.i .i64 ((↑(pdqR a1).length:Int))),(41,.i .i64 (x.1))],[(1003,⟨0,154,.row 2 (List.map c154 x.2.1)⟩),(1010,⟨0,154,.row 2 (List.map c154 x.2.2)⟩)]⟩) (fun x ↦ dec133c (pdqR a1) x.1 x.2.1 x.2.2) (fun x ↦ inv133c (pdqR a1) x.1 x.2.1 x.2.2) [10,39,40,41] [1003,1010] (((0:Int),pdqR a1,[])) (by kernel_rfl) (by kernel_rfl) (show inv133c (pdqR a1) (0:Int) (pdqR a1) [] from ?g11) ?_;rotate_left
 rintro ⟨i15,l16,o17⟩ h_18
 obtain ⟨h19,h20,h21,h22,h23,h24⟩:l16=pdqR a1∧(0:Int)≤i15∧i15≤(↑l16.length:Int)∧(↑o17.length:Int)≤i15∧hiOk o17∧isFold l16 i15 o17:=h_18
 refine sq<|rG cx [10,39,40,41,42] [1003,1010] (tB 0 (i15 < (↑(pdqR a1).length:Int)) z0)<|sn<|sq<|dC (i15 < (↑(pdqR a1).length:Int)) (fun h25=>?_) fun h25=>?_
 refine sK<|sn<|sq<|bL 5<|sq<|rG cx [10,39,40,41,12] [1003,1010,12] (fA ((0:Int)≤i15) (fP (i15.toNat < (List.map c154 l16).length) ?g12 (fR 2 (fP (E.rowAt { ver:=0,ty:=154,k:=BK.row (2) (List.map c154 l16):Blk } i15.toNat (c154 l16[i15.toNat]!)) ?g13 (fP (0+(2:Nat)≤(c154 l16[i15.toNat]!).length) ?g14 (oR 1 (c154 l16[i15.toNat]!) z0)))))) ?_;rotate_left 3
 refine sn<|rG cx [10,39,40,41] [1003,1010] (fT (con241 (o17) (l16[i15.toNat]!) (by (with_reducible assumption)) ?g15) (oV 2 { val:=some (.vw (0) (0) (0) (0)),rows:=some (List.map c154 (addR o17 l16[i15.toNat]!)) } z0)) ?_;rotate_left
 refine bN<|sn<|rG cx [10,39,40,41] [1003,1010] (tT 0 (told_i64 (by omega) ?g16:AV.i .i64 (IntKind.i64.wrap (i15+(1:Int)))=AV.i .i64 (i15+(1:Int))) z0) ?_;rotate_left
 refine sn<|loop_next ((i15+(1:Int),l16,addR o17 l16[i15.toNat]!)) (by kernel_rfl) (show ((↑(pdqR a1).length:Int)-(i15+(1:Int))).toNat < ((↑(pdqR a1).length:Int)-i15).toNat from (by omega)) (show inv133c (pdqR a1) (i15+(1:Int)) l16 (addR o17 l16[i15.toNat]!) from ?g17);rotate_left
 refine eX 4<|nE<|nE<|bH<|sn<|sq<|rG cx [2] [1010] z0<|sn<|rT<|qb_own (rows':=(List.map c154 o17)) .ret (.inr rfl) 2 1010 0 (by kernel_rfl) (by kernel_rfl) (by kernel_rfl) ?g18;rotate_left
 rotate_left
 revert i0 a1 hh3 h4 hh5 h6;rotate_left
 revert i0 a1 hh3 h4 hh5 h6 j7 a8 h10 h11 h12 h13 h14;rotate_left
 revert i0 a1 hh3 h4 hh5 h6 j7 a8 h10 h11 h12 h13 h14;rotate_left
 revert i0 a1 hh3 h4 hh5 h6 j7 a8 h10 h11 h12 h13 h14;rotate_left
 revert i0 a1 hh3 h4 hh5 h6 j7 a8 h10 h11 h12 h13 h14;rotate_left
 revert i0 a1 hh3 h4 hh5 h6 j7 a8 h10 h11 h12 h13 h14;rotate_left
 revert i0 a1 hh3 h4 hh5 h6 j7 a8 h10 h11 h12 h13 h14;rotate_left
 revert i0 a1 hh3 h4 hh5 h6 j7 a8 h10 h11 h12 h13;rotate_left
 revert i0 a1 hh3 h4 hh5 h6;rotate_left
 revert i0 a1 hh3 h4 hh5 h6;rotate_left
 revert i0 a1 hh3 h4 hh5 h6;rotate_left
 revert i0 a1 hh3 h4 hh5 h6 i15 l16 o17 h19 h20 h21 h22 h23 h24 h25;rotate_left
 revert i0 a1 hh3 h4 hh5 h6 i15 l16 o17 h19 h20 h21 h22 h23 h24 h25;rotate_left
 revert i0 a1 hh3 h4 hh5 h6 i15 l16 o17 h19 h20 h21 h22 h23 h24 h25;rotate_left
 revert i0 a1 hh3 h4 hh5 h6 i15 l16 o17 h19 h20 h21 h22 h23 h24 h25;rotate_left
 revert i0 a1 hh3 h4 hh5 h6 i15 l16 o17 h19 h20 h21 h22 h23 h24 h25;rotate_left
 revert i0 a1 hh3 h4 hh5 h6 i15 l16 o17 h19 h20 h21 h22 h23 h24 h25;rotate_left
 revert i0 a1 hh3 h4 hh5 h6 i15 l16 o17 h19 h20 h21 h22 h23 h24 h25;rotate_left
 case g0=>exact ⟨by omega,by omega,rfl⟩
 case g1=>intro i a h0 h1 h2 h3;exact ⟨by omega,by omega,kept_start h2⟩
 case g2=>intro i a h0 h1 h2 h3 j b k0 k1 k2 k3 k4;have:=kept2_room hb h0 h3 k0 k3 k2;simp only [List.length_map,List.length_cons,List.length_nil,Go.maxLen];omega
 case g3=>intro i a h0 h1 h2 h3 j b k0 k1 k2 k3 k4;have:=kept2_room hb h0 h3 k0 k3 k2;simp only [List.length_map,List.length_cons,List.length_nil];omega
 case g4=>intro i a h0 h1 h2 h3 j b k0 k1 k2 k3 k4;exact (kept2_room hb h0 h3 k0 k3 k2).2
 case g5=>intro i a h0 h1 h2 h3 j b k0 k1 k2 k3 k4;have:=kept2_next k0 k3 k2;rw [if_pos k4] at this;exact ⟨by omega,by omega,this⟩
 case g6=>intro i a h0 h1 h2 h3 j b k0 k1 k2 k3 k4;exact (kept2_room hb h0 h3 k0 k3 k2).2
 case g7=>intro i a h0 h1 h2 h3 j b k0 k1 k2 k3 k4;have:=kept2_next k0 k3 k2;rw [if_neg k4] at this;exact ⟨by omega,by omega,this⟩
 case g8=>intro i a h0 h1 h2 h3 j b k0 k1 k2 k3;exact ⟨by omega,by omega,kept_next h0 h3 k3 k2⟩
 case g9=>intro i a h0 h1 h2 h3 r hr;rw [kept_end h3 h2] at hr;exact (keep_good r hr).1
 case g10=>intro i a h0 h1 h2 h3;rw [kept_end h3 h2];have:=keepR_len ss.flatten;omega
 case g11=>intro i a h0 h1 h2 h3;exact ⟨rfl,by omega,by omega,by simp,fun x hx=>by simp at hx,rfl⟩
 case g12=>intro i a h0 h1 h2 h3 j l o k0 k1 k2 k3 k4 k5 k6;subst k0;simp only [List.length_map];omega
 case g13=>intro i a h0 h1 h2 h3 j l o k0 k1 k2 k3 k4 k5 k6;subst k0;exact get_map (by omega)
 case g14=>intros;exact Nat.le_of_ble_eq_true rfl
 case g15 =>
  intro i a h0 h1 h2 h3 j l o k0 k1 k2 k3 k4 k5 k6
  subst k0
  have e:=kept_end h3 h2
  have hg:∀ r∈a,okR r:=fun r hr=>by rw [e] at hr;exact (keep_good r hr).1
  have:=(pdqR_perm hg).length_eq
  have h5:=keepR_len ss.flatten
  rw [← e] at h5
  omega
 case g16 =>
  intro i a h0 h1 h2 h3 j l o k0 k1 k2 k3 k4 k5 k6
  subst k0
  have e:=kept_end h3 h2
  have hg:∀ r∈a,okR r:=fun r hr=>by rw [e] at hr;exact (keep_good r hr).1
  have:=(pdqR_perm hg).length_eq
  have h5:=keepR_len ss.flatten
  rw [← e] at h5
  omega
 case g17 =>
  intro i a h0 h1 h2 h3 j l o k0 k1 k2 k3 k4 k5 k6
  subst k0
  have e:=kept_end h3 h2
  have hg:∀ r∈a,good1 r:=fun r hr=>by rw [e] at hr;exact keep_good r hr
  have hr:=sorted_good hg _ (bang_in (l:=pdqR a) (i:=j.toNat) (by omega))
  have hlo:=addR_len o (pdqR a)[j.toNat]!
  unfold good1 okR at hr
  exact ⟨rfl,by omega,by omega,by omega,addR_hi k4 (by omega),fold_next k1 k6 k5⟩
 case g18 =>
  intro i a h0 h1 h2 h3 j l o k0 k1 k2 k3 k4 k5 k6
  subst k0
  unfold isFold at k5
  rw [k5,kept_end h3 h2,List.take_of_length_le (by rw [← kept_end h3 h2];omega)]
  rfl
end Go.Proofs.YtaiepnaokhpmcaaGreat
namespace Go.E
open Go Go.Proofs Go.Shelf Go.RowKit Go.Lib
variable {P : Program} {ρ : Ren}
set_option maxHeartbeats 2000000 in
set_option maxRecDepth 100000 in
theorem clone_some (L:SlLaysE0.n41 P ρ) (i0:TypeInfo) (z:Value) (size bytes:Nat) (hi:P.info? (ρ.t 23)=some i0) (hz0:i0.zero=some z) (hz1:i0.size=size) (hz2:i0.bytes=bytes) (hzs:z.cells.size=size) (hsz:0 < size) (z23:∀ w,(Go.sizeOf (ρ.t 23)).run P w=.ok size w)
  (ad:Addr) (n c:Nat) (news:List Value) (w:World) (hl:news.length=n*size) (hn:n≤maxLen) (hbig:n*bytes≤140737488355328)
  (hc:∀ j u,news[j]?=some u→w.cell? (ad.add j)=some u) (h1:∀ u∈news,u.oneCell'=true) :
  Calls P (ρ.f 41) #[.slice (some ad) n c] w fun e w'=>∃ v',e=.returned v'∧w'.ownsRow w.heap.size (ρ.t 23) size v' n news∧Below w.heap.size w w':=by
 have mixed:=L.mixed;have t4:=L.t4;have a4:=L.a4;have z4:=L.z4;have v4:=L.v4;have t22:=L.t22;have a22:=L.a22;have z22:=L.z22;have v22:=L.v22
 have q22:∀ (w:World) (a:Option Addr) (n c n' c':Nat),(binOp .eql (ρ.t 22) (.slice a n c) (.slice none n' c')).run P w=.ok (.bool a.isNone) w:=fun w a n c n' c'=>Lib.run_eql_slice_nil w _ _ a n c n' c' L.t22
 have u22:∀ w,Sem.run P (underlying (ρ.t 22)) w=.ok (TypeDesc.slice (ρ.t 23)) w:=run_underlying t22
 have A:Aside (∀ j u,news[j]?=some u→w.cell? (ad.add j)=some u):=hc
 clear hc
 obtain ⟨_,_,FG⟩:=L.f41
 go_enter FG,SlBodyN.n41_ntmps ρ
 go_wp2_with (at_builtin;refine wpList_append_own _ rfl _ _ (ρ.t 22) rfl w.heap.size (ρ.t 23) i0 z size bytes t22 hi hz0 hz1 hz2 hzs hsz _ _ _ rfl (World.ownsRow_made w #[] 0 (Nat.le_refl _) (Nat.zero_le _) (by simp)) ad n c news rfl ?qc1 ?qc2 ?qc3 ?qc4 ?qc5 ?qc6 ?_)
 case qc1=>exact hl
 case qc2 =>
  intro j u hj
  exact Lib.cell?_alloc_some _ (A.out j u hj)
 case qc3=>exact h1
 case qc4=>rw [Nat.zero_add];exact hn
 case qc5=>rw [Nat.zero_add];exact hbig
 case qc6=>simp
 intro v' w1 hown hgrow hnil
 go_wp2
 go_ret
 refine ⟨v',rfl,by simpa using hown,?_⟩
 exact ((Below.refl _ w).alloc (Nat.le_refl _) _).grown hgrow (by simp) (by intro k hk;simp [Value.ownBlock] at hk;omega)
set_option maxHeartbeats 1000000 in
theorem clone_none (L:SlLaysE0.n41 P ρ) (n c:Nat) (w:World) :
  Calls P (ρ.f 41) #[.slice none n c] w fun e w'=>e=.returned (.slice none 0 0)∧w'=w:=by
 have mixed:=L.mixed;have t4:=L.t4;have a4:=L.a4;have z4:=L.z4;have v4:=L.v4;have t22:=L.t22;have a22:=L.a22;have z22:=L.z22;have v22:=L.v22
 have q22:∀ (w:World) (a:Option Addr) (n c n' c':Nat),(binOp .eql (ρ.t 22) (.slice a n c) (.slice none n' c')).run P w=.ok (.bool a.isNone) w:=fun w a n c n' c'=>Lib.run_eql_slice_nil w _ _ a n c n' c' L.t22
 obtain ⟨_,_,FG⟩:=L.f41
 go_enter FG,SlBodyN.n41_ntmps ρ
 go_wp2
 go_ret
 exact ⟨rfl,rfl⟩
theorem conB_clone (L:SlLaysE0.n41 P ρ) {T:Tab} (hT:TabOk P T) {te:TI} (hte:look T (ρ.t 23)=some te) (hcl:Callable P (ρ.f 41)) (hz:te.zero.length=te.size) (h0:0 < te.size) {rows:List (List AV)} (hsz:∀ r∈rows,r.length=te.size)
  (hbig:rows.length*te.bytes≤140737488355328):ConB P (ρ.f 41) [.sl rows] (ρ.t 23) (.row te.size rows):=by
 refine ⟨hcl,fun w S0 vs hS hl hv=>?_⟩
 obtain ⟨v,rfl⟩:∃ v,vs=[v]:=by
  match vs,hl with
  | [v],_=>exact ⟨v,rfl⟩
 have hr:=hv 0 _ v rfl rfl
 have hm:rows.length≤maxLen:=by cases hr with | sl _ A cap sz u hc hm=>exact hm
 obtain ⟨i,zv,i1,i2,i3,i4,i5⟩:=inf hT hte
 rcases (shows_sl hr).flat hsz with ⟨rfl,rfl⟩ | ⟨ad,cap,xs,rfl,x1,x2,x3,x4⟩
 ·refine (clone_none L 0 0 w).mono ?_
  rintro e w' ⟨rfl,rfl⟩
  exact ⟨_,rfl,⟨fun r hr=>by simp at hr,[],World.ownsRow_nil _ _ _ _,fun u hu=>by simp at hu,fun j b u hb=>by simp at hb⟩,Below.refl _ _⟩
 ·have hzl:zv.cells.size=te.size:=by
   have:=congrArg List.length i5
   simpa [hz] using this
  refine (clone_some L i zv te.size te.bytes i1 i4 i2 i3 hzl h0 (szOf hT hte) ad rows.length cap xs w x1 hm hbig x2 x3).mono ?_
  rintro e w' ⟨v',rfl,ho,hb⟩
  refine ⟨v',rfl,⟨hsz,xs,ho,x3,fun j b u hb' hu=>(x4 j b u hb' hu).mono (fun k hk=>⟨.inl hk,fun e=>?_⟩) (fun k hk=>hb.block k (hS k hk))⟩,hb⟩
  have:=hS k hk
  rcases ho.2 with ⟨rfl,_⟩ | ⟨g,cap',cur,rfl,g1,_⟩
  ·simp [blkOf] at e
  ·simp [blkOf] at e;omega
end Go.E
namespace Go.Proofs.YtaiepnaokhpmcaaGreat
open Go.E
set_option maxRecDepth 100000
set_option maxHeartbeats 4000000
open Go Go.Shelf Go.Proofs
def renClR:Go.Shelf.Ren:=⟨fun | 41=>183 | n=>n,fun | 4=>4 | 22=>150 | 23=>154 | n=>n,fun n=>n⟩
theorem laysClR:Go.Proofs.SlLaysE0.n41 Tryz.prog renClR:={ mixed:=by kernel_rfl,f41:=⟨Tryz.f183.name,by decide,Tryz.func183.trans (congrArg some (by kernel_rfl))⟩,t4:=Tryz.underlying4,a4:=Tryz.isAgg4,z4:=Tryz.sizeOf4,v4:=Tryz.zeroValue4,t22:=Tryz.underlying150,a22:=Tryz.isAgg150,z22:=Tryz.sizeOf150,v22:=Tryz.zeroValue150 }
theorem con183 (es:List Run) (hl:es.length*16≤140737488355328):ConB Tryz.prog 183 [.sl (es.map c154)] 154 (.row 2 (es.map c154)) :=
 conB_clone (T:=tab) laysClR tab_ok (te:=_) rfl ⟨_,Tryz.func183,by kernel_rfl,by kernel_rfl⟩ (by kernel_rfl) (by decide +kernel) (fun r hr=>by obtain ⟨x,_,rfl⟩:=List.mem_map.1 hr;kernel_rfl) (by rw [List.length_map];exact hl)
def renClI:Go.Shelf.Ren:=⟨fun | 41=>148 | n=>n,fun | 4=>4 | 22=>23 | 23=>3 | n=>n,fun n=>n⟩
theorem laysClI:Go.Proofs.SlLaysE0.n41 Tryz.prog renClI:={ mixed:=by kernel_rfl,f41:=⟨Tryz.f148.name,by decide,Tryz.func148.trans (congrArg some (by kernel_rfl))⟩,t4:=Tryz.underlying4,a4:=Tryz.isAgg4,z4:=Tryz.sizeOf4,v4:=Tryz.zeroValue4,t22:=Tryz.underlying23,a22:=Tryz.isAgg23,z22:=Tryz.sizeOf23,v22:=Tryz.zeroValue23 }
theorem con148 (es:List Int) (hl:es.length*8≤140737488355328):ConB Tryz.prog 148 [.sl (es.map c3)] 3 (.row 1 (es.map c3)) :=
 conB_clone (T:=tab) laysClI tab_ok (te:=_) rfl ⟨_,Tryz.func148,by kernel_rfl,by kernel_rfl⟩ (by kernel_rfl) (by decide +kernel) (fun r hr=>by obtain ⟨x,_,rfl⟩:=List.mem_map.1 hr;kernel_rfl) (by rw [List.length_map];exact hl)
def nrm (a:List Run):List Run:=unR [a]
def leadR (n:List Run):Int×List Run:=if n.length=0∨¬ n[0]!.lo=1 then (0,n) else (n[0]!.hi,n.drop 1)
theorem foldR_len (l:List Run):(foldR l).length≤l.length:=by
 have:∀ (l out:List Run),(l.foldl addR out).length≤out.length+l.length:=by
  intro l
  induction l with
  | nil=>intro out;simp
  | cons r l ih =>
   intro out
   have h1:=ih (addR out r)
   have h2:=addR_len out r
   simp only [List.foldl_cons,List.length_cons]
   omega
 have h:=this l []
 simpa [foldR] using h
theorem rng_nrm (a:List Run):(nrm a).length≤a.length:=by
 have h1:=foldR_len (pdqR (keepR [a].flatten))
 have h2:=(pdqR_perm (l:=keepR [a].flatten) fun r hr=>(keep_good r hr).1).length_eq
 have h3:=keepR_len [a].flatten
 unfold nrm unR
 simp only [List.flatten_cons,List.flatten_nil,List.append_nil] at *
 omega
theorem con182 (a:List Run) (hb:a.length*16≤140737488351232):Con Tryz.prog 182 [.sl (a.map c154)] (.sl ((nrm a).map c154)) :=
 by
 refine con_lens 0 (c154) (a) (by kernel_rfl) Go.Proofs.Tryz.func182 (by kernel_rfl) fun hl_0=>st_con tab_ok (by kernel_rfl) [.tmp 2] 6 Go.Proofs.Tryz.func182 (by kernel_rfl) (by kernel_rfl) ?_
 intro e0 cx
 refine sq<|rG cx [0] [] z0<|sn<|sq<|rG cx [2] [5] (fT (con208 ([a]) ?g0) (oV 2 { val:=some (.own (154:Nat) (2:Nat)),rows:=some (List.map c154 (unR [a])) } z0)) ?_;rotate_left
 refine sn<|rT<|qR (.sl (((E.look [(2,{ val:=some (AV.own (154:Nat) (2:Nat)),rows:=some (List.map c154 (unR [a])):Ov })] (2)).getD {:Ov }).rows.getD [])) (.eq ?g1);rotate_left
 case g0=>exact (by simpa using hb)
 case g1=>exact rfl
theorem con147 (a:List Run) (hb:a.length*16≤140737488351232):Con Tryz.prog 147 [.sl (a.map c154)] (.tup [.i .i64 (leadR (nrm a)).1,.sl ((leadR (nrm a)).2.map c154)]) :=
 by
 have hn:=rng_nrm a
 refine con_lens 0 (c154) (a) (by kernel_rfl) Go.Proofs.Tryz.func147 (by kernel_rfl) fun hl_0=>st_con tab_ok (by kernel_rfl) [.tmp 2,.tmp 3] 25 Go.Proofs.Tryz.func147 (by kernel_rfl) (by kernel_rfl) ?_
 intro e0 cx
 refine sq<|rG cx [0] [] z0<|sn<|sq ?_
 have hl_0:=(rng_nrm a)
 refine rG cx [4] [] (fT (con182 (a) (by (with_reducible assumption))) (oA 1 (.sl (List.map c154 (nrm a))) z0))<|sn<|sq<|sq<|st_join (σ':=⟨[(4,.sl (List.map c154 (nrm a))),(16,.b (decide ((↑(nrm a).length:Int)=(0:Int)∨¬(nrm a)[(0:Nat)]!.lo=(1:Int))))],[]⟩) ?_ ?_
 refine st_split ((↑(nrm a).length:Int)=(0:Int)) (fun h2=>?_) (fun h2=>?_)
 refine rG cx [4,16] [] (tL 1 c154 (nrm a) (tT 2 (told_true h2) (tD 9 true ((↑(nrm a).length:Int)=(0:Int)∨¬(nrm a)[(0:Nat)]!.lo=(1:Int)) (by simp only [eq_true h2,tsl]) z0))) ?_
 exact ⟨rfl,by kernel_rfl⟩
 refine rG cx [4,16] [] (tL 1 c154 (nrm a) (tT 2 (told_false h2) (fO ((0:Int)≤(0:Int)) (fP ((List.map c154 (nrm a))[Int.toNat (0:Int)]?=some (c154 (nrm a)[(0:Nat)]!)) ?g0 (fR (2:Nat) (tN 8 ((nrm a)[(0:Nat)]!.lo) (1:Int) (tD 9 (decide ¬(nrm a)[(0:Nat)]!.lo=(1:Int)) ((↑(nrm a).length:Int)=(0:Int)∨¬(nrm a)[(0:Nat)]!.lo=(1:Int)) (by simp only [eq_false h2,tsl]) (oR 5 (c154 (nrm a)[(0:Nat)]!) z0)))))))) ?_;rotate_left
 exact ⟨rfl,by kernel_rfl⟩
 refine sn<|dC ((↑(nrm a).length:Int)=(0:Int)∨¬(nrm a)[(0:Nat)]!.lo=(1:Int)) (fun h3=>?_) fun h3=>?_
 refine sq<|rG cx [2,3] [] z0<|sn<|rT<|nR<|qR (.tup [.i .i64 ((0:Int)),.sl (List.map c154 (nrm a))]) (AVle.tup (ZLe.cons (AVle.eq (show AV.i .i64 (0:Int)=AV.i .i64 (leadR (nrm a)).1 from ?g2)) (ZLe.cons (AVle.eq (show AV.sl (List.map c154 (nrm a))=AV.sl (List.map c154 (leadR (nrm a)).2) from ?g1)) ZLe.nil)));rotate_left 2
 refine sK<|sn<|sq<|rA cx [2,3] [24] (fO ((0:Int)≤(0:Int)) (fP ((List.map c154 (nrm a))[Int.toNat (0:Int)]?=some (c154 (nrm a)[(0:Nat)]!)) ?g3 (fR (2:Nat) (tT 5 (told_slN c154 (nrm a) (Int.toNat (1:Int)):AV.sl (List.drop (Int.toNat (1:Int)) (List.take (none.getD (↑(List.map c154 (nrm a)).length:Int)).toNat (List.map c154 (nrm a))))=AV.sl (List.map c154 (List.drop (Int.toNat (1:Int)) (nrm a)))) (fO ((0:Int)≤(1:Int)) (fP ((1:Int)≤none.getD (↑(List.map c154 (nrm a)).length:Int)) ?g4 (fP (none.getD (↑(List.map c154 (nrm a)).length:Int)≤(↑(List.map c154 (nrm a)).length:Int)) ?g5 (fX c154 (nrm a) 2 (fT (con183 (List.drop (Int.toNat (1:Int)) (nrm a)) ?g6) (oR 1 (c154 (nrm a)[(0:Nat)]!) (oV 6 { val:=some (.own (154:Nat) (2:Nat)),rows:=some (List.map c154 (List.drop (Int.toNat (1:Int)) (nrm a))) } z0))))))))))) ?_;rotate_left 4
 refine sn<|rT<|qR (.tup [.i .i64 ((nrm a)[(0:Nat)]!.hi),.sl (((E.look [(6,{ val:=some (AV.own (154:Nat) (2:Nat)),rows:=some (List.map c154 (List.drop (Int.toNat (1:Int)) (nrm a))):Ov })] (6)).getD {:Ov }).rows.getD [])]) (AVle.tup (ZLe.cons (AVle.eq (show AV.i .i64 (nrm a)[(0:Nat)]!.hi=AV.i .i64 (leadR (nrm a)).1 from ?g8)) (ZLe.cons (AVle.eq (show AV.sl (((E.look [(6,{ val:=some (AV.own (154:Nat) (2:Nat)),rows:=some (List.map c154 (List.drop (Int.toNat (1:Int)) (nrm a))):Ov })] (6)).getD {:Ov }).rows.getD [])=AV.sl (List.map c154 (leadR (nrm a)).2) from ?g7)) ZLe.nil)));rotate_left 2
 revert h2;rotate_left
 revert h3;rotate_left
 revert h3;rotate_left
 revert h3;rotate_left
 revert h3;rotate_left
 revert h3;rotate_left
 revert h3;rotate_left
 revert h3;rotate_left
 revert h3;rotate_left
 case g0=>intro h;exact get_map (by omega)
 case g1=>intro h;unfold leadR;rw [if_pos (h.imp (fun k=>by omega) id)]
 case g2=>intro h;unfold leadR;rw [if_pos (h.imp (fun k=>by omega) id)]
 case g3=>intro h;exact get_map (by omega)
 case g4=>intro h;have:¬ ((nrm a).length:Int)=0:=fun k=>h (.inl k);simp only [Option.getD_none,List.length_map];omega
 case g5=>intro h;exact Int.le_refl _
 case g6=>intro h;rw [List.length_drop];omega
 case g7=>intro h;show AV.sl (List.map c154 (List.drop 1 (nrm a)))=_;unfold leadR;rw [if_neg (fun k=>h (k.imp (fun k=>by omega) id))]
 case g8=>intro h;unfold leadR;rw [if_neg (fun k=>h (k.imp (fun k=>by omega) id))]
end Go.Proofs.YtaiepnaokhpmcaaGreat
namespace Go.Proofs.YtaiepnaokhpmcaaGreat
open Go.E
set_option maxRecDepth 100000
set_option maxHeartbeats 4000000
def sepR (l:List Run):Prop:=l.Pairwise (fun x y=>x.hi+1 < y.lo)∧∀ r∈l,1≤r.lo∧r.lo≤r.hi∧r.hi≤1000000000
def inR (l:List Run) (n:Int):Prop:=∃ r∈l,r.lo≤n∧n≤r.hi
theorem snoc_of {α:Type} [Inhabited α] {l:List α} (h:0 < (l.length:Int)):∃ p,l=p++[l[((l.length:Int)-1).toNat]!]:=by
 refine ⟨l.take (l.length-1),?_⟩
 have e:((l.length:Int)-1).toNat=l.length-1:=by omega
 rw [e]
 have h1:=List.take_succ_eq_append_getElem (l:=l) (i:=l.length-1) (by omega)
 rw [getElem!_pos l (l.length-1) (by omega),← h1,List.take_of_length_le (by omega)]
theorem addR_snoc (p:List Run) (x r:Run):addR (p++[x]) r=if r.lo≤x.hi+1 then p++[⟨x.lo,max x.hi r.hi⟩] else p++[x]++[r]:=by
 have e:(((p++[x]).length:Int)-1).toNat=p.length:=by rw [List.length_append,List.length_singleton];omega
 have hx:lastR (p++[x])=x:=by unfold lastR;rw [e];simp
 unfold addR
 rw [hx,e]
 by_cases h:r.lo≤x.hi+1
 ·rw [if_pos ⟨by rw [List.length_append,List.length_singleton];omega,h⟩,if_pos h]
  simp
 ·rw [if_neg (fun k=>h k.2),if_neg h]
theorem addR_nil (r:Run):addR [] r=[r]:=by simp [addR]
theorem sepR_nil:sepR []:=⟨List.Pairwise.nil,fun r hr=>by cases hr⟩
theorem addR_sep {out : List Run} {r : Run} (h : sepR out) (hr : good1 r) : sepR (addR out r) := by
  unfold good1 okR at hr
  by_cases h0 : out = []
  · subst h0
    rw [addR_nil]
    exact ⟨by simp, fun x hx => by have : x = r := by simpa using hx
                                   subst this; omega⟩
  · obtain ⟨p, hp⟩ := snoc_of (l := out) (by have := List.length_pos_iff.2 h0; omega)
    generalize out[((out.length:Int) - 1).toNat]! = x at hp
    subst hp
    obtain ⟨h1, h2⟩ := h
    rw [List.pairwise_append] at h1
    obtain ⟨q1, _, q3⟩ := h1
    have hx := h2 x (by simp)
    rw [addR_snoc]
    split
    · refine ⟨List.pairwise_append.2 ⟨q1, by simp, fun a ha b hb => ?_⟩, fun a ha => ?_⟩
      · have : b = ⟨x.lo, max x.hi r.hi⟩ := by simpa using hb
        subst this
        exact q3 a ha x (by simp)
      · rcases List.mem_append.1 ha with ha | ha
        · exact h2 a (by simp [ha])
        · have : a = ⟨x.lo, max x.hi r.hi⟩ := by simpa using ha
          subst this
          simp only
          omega
    · rename_i hn
      refine ⟨List.pairwise_append.2 ⟨List.pairwise_append.2 ⟨q1, by simp, q3⟩, by simp, fun a ha b hb => ?_⟩, fun a ha => ?_⟩
      · have : b = r := by simpa using hb
        subst this
        rcases List.mem_append.1 ha with ha | ha
        · have := q3 a ha x (by simp); omega
        · have : a = x := by simpa using ha
          subst this
          omega
      · rcases List.mem_append.1 ha with ha | ha
        · exact h2 a ha
        · have : a = r := by simpa using ha
          subst this
          omega
theorem addR_in {out:List Run} {r:Run} (hl:∀ x∈out,x.lo≤r.lo) (hs:sepR out) (n:Int):inR (addR out r) n↔inR out n∨(r.lo≤n∧n≤r.hi):=by
 by_cases h0:out=[]
 ·subst h0
  rw [addR_nil]
  simp [inR]
 ·obtain ⟨p,hp⟩:=snoc_of (l:=out) (by have:=List.length_pos_iff.2 h0;omega)
  generalize out[((out.length:Int)-1).toNat]! = x at hp
  subst hp
  have hx:=hs.2 x (by simp)
  have hlx:=hl x (by simp)
  rw [addR_snoc]
  have app:∀ (a b:List Run),inR (a++b) n↔inR a n∨inR b n:=by
   intro a b
   unfold inR
   constructor
   ·rintro ⟨y,hy,h⟩
    rcases List.mem_append.1 hy with hy | hy
    ·exact .inl ⟨y,hy,h⟩
    ·exact .inr ⟨y,hy,h⟩
   ·rintro (⟨y,hy,h⟩ | ⟨y,hy,h⟩)
    ·exact ⟨y,List.mem_append.2 (.inl hy),h⟩
    ·exact ⟨y,List.mem_append.2 (.inr hy),h⟩
  have one:∀ y:Run,inR [y] n↔(y.lo≤n∧n≤y.hi):=by intro y;simp [inR]
  split
  ·rw [app,app,one,one,or_assoc]
   refine or_congr_right ?_
   simp only
   omega
  ·rw [app,one]
theorem fold_props (l:List Run):∀ (out:List Run),sepR out→(∀ r∈l,good1 r)→l.Pairwise (fun x y=>x.lo≤y.lo)→(∀ x∈out,∀ r∈l,x.lo≤r.lo) →
  sepR (l.foldl addR out)∧∀ n,inR (l.foldl addR out) n↔inR out n∨inR l n:=by
 induction l with
 | nil=>intro out h _ _ _;exact ⟨h,fun n=>by simp [inR]⟩
 | cons r l ih =>
  intro out h hg hp hl
  rw [List.pairwise_cons] at hp
  have hlo:∀ x∈addR out r,∀ y∈l,x.lo≤y.lo:=by
   intro x hx y hy
   have hy1:=hp.1 y hy
   unfold addR at hx
   split at hx
   ·rename_i hc
    rcases List.mem_or_eq_of_mem_set hx with hx | rfl
    ·have:=hl x hx r (by simp);omega
    ·have:=hl _ (bang_in (l:=out) (i:=((out.length:Int)-1).toNat) (by omega)) r (by simp)
     unfold lastR
     simp only
     omega
   ·rcases List.mem_append.1 hx with hx | hx
    ·have:=hl x hx r (by simp);omega
    ·have:x=r:=by simpa using hx
     subst this
     exact hy1
  obtain ⟨g1,g2⟩:=ih (addR out r) (addR_sep h (hg r (by simp))) (fun y hy=>hg y (by simp [hy])) hp.2 hlo
  refine ⟨g1,fun n=>?_⟩
  rw [List.foldl_cons,g2 n,addR_in (fun x hx=>hl x hx r (by simp)) h n,or_assoc]
  refine or_congr_right ?_
  simp [inR]
theorem unR_sep (ss:List (List Run)):sepR (unR ss):=by
 have hg:∀ r∈keepR ss.flatten,good1 r:=keep_good
 exact (fold_props _ [] sepR_nil (sorted_good hg) (pdqR_rises _) (fun x hx=>by cases hx)).1
theorem unR_in (ss:List (List Run)) (n:Int):inR (unR ss) n↔1≤n∧n≤1000000000∧inR ss.flatten n:=by
 have hg:∀ r∈keepR ss.flatten,good1 r:=keep_good
 have h:=(fold_props _ [] sepR_nil (sorted_good hg) (pdqR_rises _) (fun x hx=>by cases hx)).2 n
 unfold unR foldR
 rw [h]
 have hp:=pdqR_perm (l:=keepR ss.flatten) fun r hr=>(hg r hr).1
 constructor
 ·rintro (⟨r,hr,_⟩ | ⟨r,hr,h1,h2⟩)
  ·cases hr
  ·have hr:=hp.subset hr
   unfold keepR at hr
   obtain ⟨hr,_⟩:=List.mem_filter.1 hr
   obtain ⟨x,hx,rfl⟩:=List.mem_map.1 hr
   simp only [clipR] at h1 h2
   exact ⟨by omega,by omega,x,hx,by omega,by omega⟩
 ·rintro ⟨h1,h2,x,hx,h3,h4⟩
  refine .inr ⟨clipR x,hp.symm.subset ?_,?_,?_⟩
  ·unfold keepR
   refine List.mem_filter.2 ⟨List.mem_map.2 ⟨x,hx,rfl⟩,?_⟩
   show decide ((clipR x).lo≤(clipR x).hi)=true
   rw [decide_eq_true_iff]
   show max x.lo 1≤min x.hi 1000000000
   omega
  ·simp only [clipR];omega
  ·simp only [clipR];omega
theorem sepR_lo {l:List Run} (h:sepR l):∀ i:Nat,i < l.length→2*(i:Int)+1≤l[i]!.lo
 | 0,hi=>by have:=h.2 _ (bang_in hi);omega
 | i+1,hi=>by
  have h1:=sepR_lo h i (by omega)
  have h2:=List.pairwise_iff_getElem.1 h.1 i (i+1) (by omega) hi (by omega)
  rw [← getElem!_pos l i (by omega),← getElem!_pos l (i+1) hi] at h2
  have h3:=h.2 _ (bang_in (l:=l) (i:=i) (by omega))
  omega
theorem sepR_len {l:List Run} (h:sepR l):l.length≤500000000:=by
 by_cases h0:l.length=0
 ·omega
 ·have h1:=sepR_lo h (l.length-1) (by omega)
  have h2:=h.2 _ (bang_in (l:=l) (i:=l.length-1) (by omega))
  omega
theorem nrm_sep (a:List Run):sepR (nrm a):=unR_sep [a]
theorem nrm_in (a:List Run) (n:Int):inR (nrm a) n↔1≤n∧n≤1000000000∧inR a n:=by
 have:=unR_in [a] n
 simpa [nrm] using this
theorem sep_unique:∀ {a b:List Run},sepR a→sepR b→(∀ n,inR a n↔inR b n)→a=b
 | [],[],_,_,_=>rfl
 | [],y :: b,_,hb,h=>by
  have:=hb.2 y (by simp)
  obtain ⟨r,hr,_⟩:=(h y.lo).2 ⟨y,by simp,by omega,by omega⟩
  cases hr
 | x :: a,[],ha,_,h=>by
  have:=ha.2 x (by simp)
  obtain ⟨r,hr,_⟩:=(h x.lo).1 ⟨x,by simp,by omega,by omega⟩
  cases hr
 | x :: a,y :: b,ha,hb,h=>by
  have hx:=ha.2 x (by simp)
  have hy:=hb.2 y (by simp)
  have pa:=List.pairwise_cons.1 ha.1
  have pb:=List.pairwise_cons.1 hb.1
  have la:∀ n,inR a n→x.hi+1 < n:=fun n ⟨r,hr,h1,_⟩=>by have:=pa.1 r hr;omega
  have lb:∀ n,inR b n→y.hi+1 < n:=fun n ⟨r,hr,h1,_⟩=>by have:=pb.1 r hr;omega
  have ca:∀ n,inR (x :: a) n↔(x.lo≤n∧n≤x.hi)∨inR a n:=fun n=>by simp [inR]
  have cb:∀ n,inR (y :: b) n↔(y.lo≤n∧n≤y.hi)∨inR b n:=fun n=>by simp [inR]
  have e1:x.lo=y.lo:=by
   have h1:=(cb x.lo).1 ((h x.lo).1 ((ca x.lo).2 (.inl (by omega))))
   have h2:=(ca y.lo).1 ((h y.lo).2 ((cb y.lo).2 (.inl (by omega))))
   rcases h1 with h1 | h1
   ·rcases h2 with h2 | h2
    ·omega
    ·have:=la _ h2;omega
   ·have:=lb _ h1
    rcases h2 with h2 | h2
    ·omega
    ·have:=la _ h2;omega
  have e2:x.hi=y.hi:=by
   have h1:=(cb x.hi).1 ((h x.hi).1 ((ca x.hi).2 (.inl (by omega))))
   have h2:=(ca y.hi).1 ((h y.hi).2 ((cb y.hi).2 (.inl (by omega))))
   have h3:¬ x.hi < y.hi:=fun k=>by
    have:=(ca (x.hi+1)).1 ((h (x.hi+1)).2 ((cb (x.hi+1)).2 (.inl (by omega))))
    rcases this with g | g
    ·omega
    ·have:=la _ g;omega
   have h4:¬ y.hi < x.hi:=fun k=>by
    have:=(cb (y.hi+1)).1 ((h (y.hi+1)).1 ((ca (y.hi+1)).2 (.inl (by omega))))
    rcases this with g | g
    ·omega
    ·have:=lb _ g;omega
   omega
  have e:x=y:=by cases x;cases y;simp only at e1 e2;rw [e1,e2]
  subst e
  rw [sep_unique (a:=a) (b:=b) ⟨pa.2,fun r hr=>ha.2 r (by simp [hr])⟩ ⟨pb.2,fun r hr=>hb.2 r (by simp [hr])⟩ fun n=>?_]
  have:=h n
  rw [ca,cb] at this
  constructor
  ·intro g
   have g1:=la n g
   rcases this.1 (.inr g) with k | k
   ·omega
   ·exact k
  ·intro g
   have g1:=lb n g
   rcases this.2 (.inr g) with k | k
   ·omega
   ·exact k
end Go.Proofs.YtaiepnaokhpmcaaGreat
namespace Go.Proofs.YtaiepnaokhpmcaaGreat
open Go.E
set_option maxRecDepth 100000
set_option maxHeartbeats 4000000
def leadT (T:Nat→List Run) (r:Nat):Int:=(leadR (nrm (T r))).1
def restT (T:Nat→List Run) (r:Nat):List Span:=(leadR (nrm (T r))).2.map fun x=>⟨r,x.lo,x.hi⟩
def szT (T:Nat→List Run):Nat→Int
 | 0=>0
 | n+1=>if 0 < leadT T n then n+1 else szT T n
def cloudT (T:Nat→List Run):Nat→List Span
 | 0=>[]
 | n+1=>cloudT T n++restT T n
def vecT (T:Nat→List Run) (n:Nat):List Int:=(List.range n).map (leadT T)++List.replicate (16-n) 0
def tabP (T:Nat→List Run):Past:=⟨(vecT T 16).take (szT T 16).toNat,cloudT T 16⟩
def isSz (T:Nat→List Run) (r s:Int):Prop:=s=szT T r.toNat
def isVec (T:Nat→List Run) (r:Int) (v:List Int):Prop:=v=vecT T r.toNat
def isCloud (T:Nat→List Run) (r:Int) (c:List Span):Prop:=c=cloudT T r.toNat
def isCloud2 (T:Nat→List Run) (r j:Int) (c:List Span):Prop:=c=cloudT T r.toNat++(restT T r.toNat).take j.toNat
def inv81a (T:Nat→List Run) (s r:Int) (v:List Int) (c:List Span):Prop:=0≤r∧r≤16∧0≤s∧s≤r∧v.length=16∧isSz T r s∧isVec T r v∧isCloud T r c
def dec81a (s r:Int) (v:List Int) (c:List Span):Nat:=(16-r).toNat
def inv81b (T:Nat→List Run) (r:Int) (w:List Int) (j:Int) (v:List Int) (c:List Span):Prop:=v=w∧0≤j∧j≤(leadR (nrm (T r.toNat))).2.length∧isCloud2 T r j c
def dec81b (T:Nat→List Run) (r:Int) (j:Int) (v:List Int) (c:List Span):Nat:=((leadR (nrm (T r.toNat))).2.length-j).toNat
theorem rest_len (T:Nat→List Run) (r:Nat):(leadR (nrm (T r))).2.length≤500000000:=by
 have h:=sepR_len (nrm_sep (T r))
 unfold leadR
 split
 ·exact h
 ·simp only [List.length_drop];omega
theorem cloud_len (T:Nat→List Run):∀ n:Nat,(cloudT T n).length≤n*500000000
 | 0=>by simp [cloudT]
 | n+1=>by
  have h1:=cloud_len T n
  have h2:=rest_len T n
  rw [cloudT,List.length_append,restT,List.length_map]
  omega
theorem cloud2_len {T:Nat→List Run} {r j:Int} {c:List Span} (h0:0≤r) (h1:r < 16) (hc:isCloud2 T r j c):c.length≤8000000000:=by
 unfold isCloud2 at hc
 have h2:=cloud_len T r.toNat
 have h3:=rest_len T r.toNat
 rw [hc,List.length_append,List.length_take,restT,List.length_map]
 omega
theorem cloud2_start {T:Nat→List Run} {r:Int} {c:List Span} (hc:isCloud T r c):isCloud2 T r 0 c:=by
 unfold isCloud isCloud2 at *
 simpa using hc
theorem cloud2_next {T:Nat→List Run} {r j:Int} {c:List Span} (h0:0≤r) (j0:0≤j) (jl:j < (leadR (nrm (T r.toNat))).2.length) (hc:isCloud2 T r j c) :
  isCloud2 T r (j+1) (c++[⟨r,((leadR (nrm (T r.toNat))).2[j.toNat]!).lo,((leadR (nrm (T r.toNat))).2[j.toNat]!).hi⟩]):=by
 unfold isCloud2 at *
 have hl:(j:Int) < (restT T r.toNat).length:=by rw [restT,List.length_map];exact jl
 rw [← take_step j0 hl,← List.append_assoc,← hc]
 have e:(restT T r.toNat)[j.toNat]! = ⟨r,((leadR (nrm (T r.toNat))).2[j.toNat]!).lo,((leadR (nrm (T r.toNat))).2[j.toNat]!).hi⟩:=by
  have hj:j.toNat < (leadR (nrm (T r.toNat))).2.length:=by omega
  rw [getElem!_pos (restT T r.toNat) j.toNat (by omega),getElem!_pos (leadR (nrm (T r.toNat))).2 j.toNat hj]
  simp only [restT,List.getElem_map]
  congr 1
  omega
 rw [e]
theorem cloud_next {T:Nat→List Run} {r j:Int} {c:List Span} (h0:0≤r) (jl:¬ j < (leadR (nrm (T r.toNat))).2.length) (hc:isCloud2 T r j c):isCloud T (r+1) c:=by
 unfold isCloud2 isCloud at *
 rw [hc,show (r+1).toNat=r.toNat+1 by omega,cloudT,List.take_of_length_le (by rw [restT,List.length_map];omega)]
theorem vec_next {T:Nat→List Run} {r:Int} {v:List Int} (h0:0≤r) (h1:r < 16) (hv:isVec T r v):isVec T (r+1) (v.set r.toNat (leadR (nrm (T r.toNat))).1):=by
 unfold isVec at *
 rw [hv,show (r+1).toNat=r.toNat+1 by omega]
 unfold vecT
 generalize hn:r.toNat=n
 have hn':n < 16:=by omega
 rw [List.set_append_right _ _ (by simp),List.length_map,List.length_range,Nat.sub_self,show 16-n=(16-(n+1))+1 by omega,List.replicate_succ,List.set_cons_zero,List.range_succ,List.map_append,List.append_assoc]
 rfl
theorem sz_next {T:Nat→List Run} {r s:Int} (h0:0≤r) (hs:isSz T r s):isSz T (r+1) (if 0 < (leadR (nrm (T r.toNat))).1 then r+1 else s):=by
 unfold isSz at *
 rw [show (r+1).toNat=r.toNat+1 by omega,szT,leadT,hs]
 split
 ·omega
 ·rfl
theorem tab_end {T:Nat→List Run} {r s:Int} {v:List Int} {c:List Span} (h1:r≤16) (h:¬ r < 16) (hs:isSz T r s) (hv:isVec T r v) (hc:isCloud T r c):tabP T=⟨v.take s.toNat,c⟩:=by
 unfold isSz isVec isCloud at *
 have:r.toNat=16:=by omega
 rw [this] at hs hv hc
 unfold tabP
 rw [hs,hv,hc]
theorem con103 (t:Nat→List Run) (hb:∀ r:Nat,r < 16→(t r).length*16≤140737488351232):Con Tryz.prog 103 [.eptr (tabC c154 16 t)] (.agg (c26 (tabP t))) :=
 by
 refine st_con tab_ok (by kernel_rfl) [.cell 2 26] 59 Go.Proofs.Tryz.func103 (by kernel_rfl) (by kernel_rfl) ?_
 intro e0 cx
 refine sq<|rG cx [0,2] [2] z0<|sn<|sq<|rG cx [0,2,3] [2,3] z0<|sn<|sq<|rG cx [0,2,3,4] [2,3,11] (fR (↑(16:Nat):Int) (fR (↑(16:Nat):Int) (fO ((8:Nat)*(16:Nat)≤(281474976710656:Nat)) (fP ((16:Nat)≤maxLen) (by (simp only [Go.maxLen];omega)) (fR (1:Nat) (fP (ZLe [AV.i .i64 (0:Int)] [AV.i .i64 (0:Int)]) (by (with_reducible exact ZLe.refl _)) (fP (List.replicate (16:Nat) [AV.i .i64 (0:Int)]=List.map c3 (List.replicate (16:Nat) (0:Int))) (by (with_reducible refine rep_map ?_;kernel_rfl)) (oV 0 { row:=[.i .i64 ((0:Int))],rows:=some (List.map c3 (List.replicate (16:Nat) (0:Int))),n:=(16:Nat) } z0)))))))) ?_
 refine sn<|sq<|rG cx [0,2,3,4,5] [2,3,11] z0<|sn<|sq<|sq<|rG cx [0,2,3,4,5,12] [2,3,11] z0<|sn<|bL 0<|awp_cellIn 3 104 3 1 5301 (σ':=⟨[(0,.eptr (tabC c154 (16:Nat) t)),(2,.ptr (2) (0) (0) (0)),(3,.ptr (3) (0) (0) (0)),(4,.own 11 0),(5,.i .i64 ((0:Int))),(12,.i .i64 ((0:Int)))],[(2,⟨0,26,.var [.nl,.nl]⟩),(3,⟨0,26,.var [.nl,.own 5301 0]⟩),(11,⟨0,3,.row 1 (List.map c3 (List.replicate (16:Nat) (0:Int)))⟩),(5301,⟨0,104,.row 3 (List.map c104 [])⟩)]⟩) (by kernel_rfl)<|st_loop (X:=Int×Int×List Int×List Span) (fun x=>⟨[(0,.eptr (tabC c154 (16:Nat) t)),(2,.ptr (2) (0) (0) (0)),(3,.ptr (3) (0) (0) (0)),(4,.own 11 0),(5,.i .i64 (x.1)),(12,.i .i64 (x.2.1))],[(2,⟨0,26,.var [.nl,.nl]⟩),(3,⟨0,26,.var [.nl,.own 5301 0]⟩),(11,⟨0,3,.row 1 (List.map c3 x.2.2.1)⟩),(5301,⟨0,104,.row 3 (List.map c104 x.2.2.2)⟩)]⟩) (fun x ↦ dec81a x.1 x.2.1 x.2.2.1 x.2.2.2) (fun x ↦ inv81a t x.1 x.2.1 x.2.2.1 x.2.2.2) [0,2,3,4,5,12] [2,3,11,5301] (((0:Int),(0:Int),List.replicate (16:Nat) (0:Int),[])) (by kernel_rfl) (by kernel_rfl) (show inv81a t (0:Int) (0:Int) (List.replicate (16:Nat) (0:Int)) [] from ?g0) ?_;rotate_left
 rintro ⟨s0,r1,v2,cc3⟩ h_4
 obtain ⟨hh5,hh6,hh7,hh8,hh9,h10,h11,h12⟩:(0:Int)≤r1∧r1≤(16:Int)∧(0:Int)≤s0∧s0≤r1∧v2.length=(16:Nat)∧isSz t r1 s0∧isVec t r1 v2∧isCloud t r1 cc3:=h_4
 refine sq<|rG cx [0,2,3,4,5,12,13] [2,3,11,5301] (tB 0 (r1 < (16:Int)) z0)<|sn<|sq<|dC (r1 < (16:Int)) (fun h13=>?_) fun h13=>?_
 refine sK<|sn<|sq<|bL 1<|sq<|rG cx [0,2,3,4,5,12,6] [2,3,11,5301] z0<|sn<|sq ?_
 have hl_14:=(rng_nrm (t r1.toNat))
 refine rG cx [0,2,3,4,5,12,6,7,8] [2,3,11,5301] (fA ((0:Int)≤r1) (fO (r1 < (↑(16:Nat):Int)) (fP ((List.drop (r1.toNat*(1:Nat)) (tabC c154 (16:Nat) t))[(0:Nat)]?=some (AV.sl (List.map c154 (t r1.toNat)))) (by (exact get_tabC_drop (by omega))) (fT (con147 (t r1.toNat) ?g1) (oR 4 [.sl (List.map c154 (t r1.toNat))] (oA 5 (.tup [.i .i64 ((leadR (nrm (t r1.toNat))).1),.sl (List.map c154 (leadR (nrm (t r1.toNat))).2)]) z0)))))) ?_;rotate_left
 refine sn<|sq<|rG cx [0,2,3,4,5,12,6,7,8] [2,3,11,5301] (fA ((0:Int)≤r1) (fP (r1.toNat < (List.map c3 v2).length) (by (first | omega | (simp only [List.length_map];omega))) (fR 1 (fG c3 v2 r1.toNat (fR (1:Nat) (fP (0+(1:Nat)≤1) (by (first | omega | (simp only [List.length_map];omega))) (fP ((List.map c3 v2).set r1.toNat (List.take (0) (c3 v2[r1.toNat]!)++cellsA (AV.i .i64 (leadR (nrm (t r1.toNat))).1)++List.drop (0+(1:Nat)) (c3 v2[r1.toNat]!))=List.map c3 (v2.set r1.toNat (leadR (nrm (t r1.toNat))).1)) (by (with_reducible refine set_map ?_;kernel_rfl)) (oV 4 { row:=(c3 v2[r1.toNat]!),rows:=some (List.map c3 (v2.set r1.toNat (leadR (nrm (t r1.toNat))).1)) } z0)))))))) ?_
 refine sn<|sq<|sq<|rG cx [0,2,3,4,5,12,6,8,29] [2,3,11,5301] (tB 1 ((0:Int) < (leadR (nrm (t r1.toNat))).1) z0)<|sn<|dC ((0:Int) < (leadR (nrm (t r1.toNat))).1) (fun h_15=>?_) fun h_15=>?_
 refine rG cx [0,2,3,4,5,12,6,8] [2,3,11,5301] (tW 1 (r1+(1:Int)) z0)<|sn<|sq<|rG cx [0,2,3,4,5,12,6,32,33,34] [2,3,11,5301] (tL 1 c154 ((leadR (nrm (t r1.toNat))).2) z0)<|sn<|bL 2<|st_loop (X:=Int×List Int×List Span) (fun x=>⟨[(0,.eptr (tabC c154 (16:Nat) t)),(2,.ptr (2) (0) (0) (0)),(3,.ptr (3) (0) (0) (0)),(4,.own 11 0),(5,.i .i64 (r1+(1:Int))),(12,.i .i64 (r1)),(6,.i .i64 (r1)),(32,.sl (List.map c154 (leadR (nrm (t r1.toNat))).2)),(33,.i .i64 ((↑(leadR (nrm (t r1.toNat))).2.length:Int))),(34,.i .i64 (x.1))],[(2,⟨0,26,.var [.nl,.nl]⟩),(3,⟨0,26,.var [.nl,.own 5301 0]⟩),(11,⟨0,3,.row 1 (List.map c3 x.2.1)⟩),(5301,⟨0,104,.row 3 (List.map c104 x.2.2)⟩)]⟩) (fun x ↦ dec81b t r1 x.1 x.2.1 x.2.2) (fun x ↦ inv81b t r1 (v2.set r1.toNat (leadR (nrm (t r1.toNat))).1) x.1 x.2.1 x.2.2) [0,2,3,4,5,12,6,32,33,34] [2,3,11,5301] (((0:Int),v2.set r1.toNat (leadR (nrm (t r1.toNat))).1,cc3)) (by kernel_rfl) (by kernel_rfl) (show inv81b t r1 (v2.set r1.toNat (leadR (nrm (t r1.toNat))).1) (0:Int) (v2.set r1.toNat (leadR (nrm (t r1.toNat))).1) cc3 from ?g2) ?_;rotate_left
 rintro ⟨j_16,v_17,c_18⟩ h_19
 obtain ⟨h_20,h_21,h_22,h_23⟩:v_17=v2.set r1.toNat (leadR (nrm (t r1.toNat))).1∧(0:Int)≤j_16∧j_16≤(↑(leadR (nrm (t r1.toNat))).2.length:Int)∧isCloud2 t r1 j_16 c_18:=h_19
 refine sq<|rG cx [0,2,3,4,5,12,6,32,33,34,35] [2,3,11,5301] (tB 0 (j_16 < (↑(leadR (nrm (t r1.toNat))).2.length:Int)) z0)<|sn<|sq<|dC (j_16 < (↑(leadR (nrm (t r1.toNat))).2.length:Int)) (fun h_24=>?_) fun h_24=>?_
 refine sK<|sn<|sq<|bL 3<|sq<|rG cx [0,2,3,4,5,12,6,32,33,34,10] [2,3,11,5301,10] (fA ((0:Int)≤j_16) (fG c154 ((leadR (nrm (t r1.toNat))).2) j_16.toNat (fR (2:Nat) (fN 2 2 (oR 0 (c154 (leadR (nrm (t r1.toNat))).2[j_16.toNat]!) z0)))))<|sn<|rG cx [0,2,3,4,5,12,6,32,33,34] [2,3,11,5301] (fR (104:Nat) (fR 3 (fR (3:Nat) (fX c104 [{ rep:=r1,lo:=(leadR (nrm (t r1.toNat))).2[j_16.toNat]!.lo,hi:=(leadR (nrm (t r1.toNat))).2[j_16.toNat]!.hi:Span }] 3 (fP ((List.map c104 c_18).length+(List.map c104 [{ rep:=r1,lo:=(leadR (nrm (t r1.toNat))).2[j_16.toNat]!.lo,hi:=(leadR (nrm (t r1.toNat))).2[j_16.toNat]!.hi:Span }]).length≤maxLen) ?g3 (fP (((List.map c104 c_18).length+(List.map c104 [{ rep:=r1,lo:=(leadR (nrm (t r1.toNat))).2[j_16.toNat]!.lo,hi:=(leadR (nrm (t r1.toNat))).2[j_16.toNat]!.hi:Span }]).length)*(24:Nat)≤(140737488355328:Nat)) ?g4 (fM c104 c_18 [{ rep:=r1,lo:=(leadR (nrm (t r1.toNat))).2[j_16.toNat]!.lo,hi:=(leadR (nrm (t r1.toNat))).2[j_16.toNat]!.hi:Span }] (oV 9 { rows:=some (List.map c104 (c_18++[{ rep:=r1,lo:=(leadR (nrm (t r1.toNat))).2[j_16.toNat]!.lo,hi:=(leadR (nrm (t r1.toNat))).2[j_16.toNat]!.hi:Span }])) } z0)))))))) ?_;rotate_left 2
 refine bN<|sn<|rG cx [0,2,3,4,5,12,6,32,33,34] [2,3,11,5301] (tT 0 (told_i64 (by omega) ?g5:AV.i .i64 (IntKind.i64.wrap (j_16+(1:Int)))=AV.i .i64 (j_16+(1:Int))) z0) ?_;rotate_left
 refine sn<|loop_next ((j_16+(1:Int),v_17,c_18++[{ rep:=r1,lo:=(leadR (nrm (t r1.toNat))).2[j_16.toNat]!.lo,hi:=(leadR (nrm (t r1.toNat))).2[j_16.toNat]!.hi:Span }])) (by kernel_rfl) (show ((↑(leadR (nrm (t r1.toNat))).2.length:Int)-(j_16+(1:Int))).toNat < ((↑(leadR (nrm (t r1.toNat))).2.length:Int)-j_16).toNat from (by omega)) (show inv81b t r1 (v2.set r1.toNat (leadR (nrm (t r1.toNat))).1) (j_16+(1:Int)) v_17 (c_18++[{ rep:=r1,lo:=(leadR (nrm (t r1.toNat))).2[j_16.toNat]!.lo,hi:=(leadR (nrm (t r1.toNat))).2[j_16.toNat]!.hi:Span }]) from ?g6);rotate_left
 refine eX 2<|nE<|nE<|bH<|bN<|sn<|rG cx [0,2,3,4,5,12] [2,3,11,5301] (tW 0 (r1+(1:Int)) z0)<|sn<|loop_next ((r1+(1:Int),r1+(1:Int),v_17,c_18)) (by kernel_rfl) (show ((16:Int)-(r1+(1:Int))).toNat < ((16:Int)-r1).toNat from (by omega)) (show inv81a t (r1+(1:Int)) (r1+(1:Int)) v_17 c_18 from ?g7);rotate_left
 refine sK<|sn<|sq<|rG cx [0,2,3,4,5,12,6,32,33,34] [2,3,11,5301] (tL 1 c154 ((leadR (nrm (t r1.toNat))).2) z0)<|sn<|bL 2<|st_loop (X:=Int×List Int×List Span) (fun x=>⟨[(0,.eptr (tabC c154 (16:Nat) t)),(2,.ptr (2) (0) (0) (0)),(3,.ptr (3) (0) (0) (0)),(4,.own 11 0),(5,.i .i64 (s0)),(12,.i .i64 (r1)),(6,.i .i64 (r1)),(32,.sl (List.map c154 (leadR (nrm (t r1.toNat))).2)),(33,.i .i64 ((↑(leadR (nrm (t r1.toNat))).2.length:Int))),(34,.i .i64 (x.1))],[(2,⟨0,26,.var [.nl,.nl]⟩),(3,⟨0,26,.var [.nl,.own 5301 0]⟩),(11,⟨0,3,.row 1 (List.map c3 x.2.1)⟩),(5301,⟨0,104,.row 3 (List.map c104 x.2.2)⟩)]⟩) (fun x ↦ dec81b t r1 x.1 x.2.1 x.2.2) (fun x ↦ inv81b t r1 (v2.set r1.toNat (leadR (nrm (t r1.toNat))).1) x.1 x.2.1 x.2.2) [0,2,3,4,5,12,6,32,33,34] [2,3,11,5301] (((0:Int),v2.set r1.toNat (leadR (nrm (t r1.toNat))).1,cc3)) (by kernel_rfl) (by kernel_rfl) (show inv81b t r1 (v2.set r1.toNat (leadR (nrm (t r1.toNat))).1) (0:Int) (v2.set r1.toNat (leadR (nrm (t r1.toNat))).1) cc3 from ?g8) ?_;rotate_left
 rintro ⟨j_25,v_26,c_27⟩ h_28
 obtain ⟨h_29,h_30,h_31,h_32⟩:v_26=v2.set r1.toNat (leadR (nrm (t r1.toNat))).1∧(0:Int)≤j_25∧j_25≤(↑(leadR (nrm (t r1.toNat))).2.length:Int)∧isCloud2 t r1 j_25 c_27:=h_28
 refine sq<|rG cx [0,2,3,4,5,12,6,32,33,34,35] [2,3,11,5301] (tB 0 (j_25 < (↑(leadR (nrm (t r1.toNat))).2.length:Int)) z0)<|sn<|sq<|dC (j_25 < (↑(leadR (nrm (t r1.toNat))).2.length:Int)) (fun h_33=>?_) fun h_33=>?_
 refine sK<|sn<|sq<|bL 3<|sq<|rG cx [0,2,3,4,5,12,6,32,33,34,10] [2,3,11,5301,10] (fA ((0:Int)≤j_25) (fG c154 ((leadR (nrm (t r1.toNat))).2) j_25.toNat (fR (2:Nat) (fN 2 2 (oR 0 (c154 (leadR (nrm (t r1.toNat))).2[j_25.toNat]!) z0)))))<|sn<|rG cx [0,2,3,4,5,12,6,32,33,34] [2,3,11,5301] (fR (104:Nat) (fR 3 (fR (3:Nat) (fX c104 [{ rep:=r1,lo:=(leadR (nrm (t r1.toNat))).2[j_25.toNat]!.lo,hi:=(leadR (nrm (t r1.toNat))).2[j_25.toNat]!.hi:Span }] 3 (fP ((List.map c104 c_27).length+(List.map c104 [{ rep:=r1,lo:=(leadR (nrm (t r1.toNat))).2[j_25.toNat]!.lo,hi:=(leadR (nrm (t r1.toNat))).2[j_25.toNat]!.hi:Span }]).length≤maxLen) ?g9 (fP (((List.map c104 c_27).length+(List.map c104 [{ rep:=r1,lo:=(leadR (nrm (t r1.toNat))).2[j_25.toNat]!.lo,hi:=(leadR (nrm (t r1.toNat))).2[j_25.toNat]!.hi:Span }]).length)*(24:Nat)≤(140737488355328:Nat)) ?g10 (fM c104 c_27 [{ rep:=r1,lo:=(leadR (nrm (t r1.toNat))).2[j_25.toNat]!.lo,hi:=(leadR (nrm (t r1.toNat))).2[j_25.toNat]!.hi:Span }] (oV 9 { rows:=some (List.map c104 (c_27++[{ rep:=r1,lo:=(leadR (nrm (t r1.toNat))).2[j_25.toNat]!.lo,hi:=(leadR (nrm (t r1.toNat))).2[j_25.toNat]!.hi:Span }])) } z0)))))))) ?_;rotate_left 2
 refine bN<|sn<|rG cx [0,2,3,4,5,12,6,32,33,34] [2,3,11,5301] (tT 0 (told_i64 (by omega) ?g11:AV.i .i64 (IntKind.i64.wrap (j_25+(1:Int)))=AV.i .i64 (j_25+(1:Int))) z0) ?_;rotate_left
 refine sn<|loop_next ((j_25+(1:Int),v_26,c_27++[{ rep:=r1,lo:=(leadR (nrm (t r1.toNat))).2[j_25.toNat]!.lo,hi:=(leadR (nrm (t r1.toNat))).2[j_25.toNat]!.hi:Span }])) (by kernel_rfl) (show ((↑(leadR (nrm (t r1.toNat))).2.length:Int)-(j_25+(1:Int))).toNat < ((↑(leadR (nrm (t r1.toNat))).2.length:Int)-j_25).toNat from (by omega)) (show inv81b t r1 (v2.set r1.toNat (leadR (nrm (t r1.toNat))).1) (j_25+(1:Int)) v_26 (c_27++[{ rep:=r1,lo:=(leadR (nrm (t r1.toNat))).2[j_25.toNat]!.lo,hi:=(leadR (nrm (t r1.toNat))).2[j_25.toNat]!.hi:Span }]) from ?g12);rotate_left
 refine eX 2<|nE<|nE<|bH<|bN<|sn<|rG cx [0,2,3,4,5,12] [2,3,11,5301] (tW 0 (r1+(1:Int)) z0)<|sn<|loop_next ((s0,r1+(1:Int),v_26,c_27)) (by kernel_rfl) (show ((16:Int)-(r1+(1:Int))).toNat < ((16:Int)-r1).toNat from (by omega)) (show inv81a t s0 (r1+(1:Int)) v_26 c_27 from ?g13);rotate_left
 refine eX 0<|nE<|nE<|bH<|sn<|sq<|sq<|rG cx [2,3,4,5,52] [2,3,11,5301] (tB 1 ((0:Int) < s0) z0)<|sn<|dC ((0:Int) < s0) (fun h34=>?_) fun h34=>?_
 refine rG cx [2,3] [2,3,5301,56] (fO ((0:Int)≤(0:Int)) (fA ((0:Int)≤s0) (fP (s0≤(↑(List.map c3 v2).length:Int)) (by (first | omega | (simp only [List.length_map];omega))) (fP ((0:Int) < (↑(List.map c3 v2).length:Int)) (by (first | omega | (simp only [List.length_map];omega))) (fR (some (1)) (fP (ConB Tryz.prog (148:Nat) [AV.sl (List.take (s0-(0:Int)).toNat (List.drop (0) (List.map c3 v2)))] (3:Nat) (BK.row (1:Nat) (List.map c3 (List.take (s0-(0:Int)).toNat (List.drop (0) v2))))) (ConB.le (con148 (List.take (s0-(0:Int)).toNat (List.drop (0) v2)) ?g14) (ZLe.cons (AVle.eq (by simp only [List.map_take,List.map_drop])) ZLe.nil)) (oV 3 { val:=some (.own (3:Nat) (1:Nat)),rows:=some (List.map c3 (List.take (s0-(0:Int)).toNat (List.drop (0) v2))) } z0))))))) ?_;rotate_left
 refine sn<|sq<|awp_norm [56,5301] [2,3] [2,3] (σ':=⟨[(2,.ptr (2) (0) (0) (0)),(3,.ptr (3) (0) (0) (0))],[(2,⟨0,26,.var [.nl,.nl]⟩),(3,⟨0,26,.var [.sl (((E.look [(3,{ val:=some (AV.own (3:Nat) (1:Nat)),rows:=some (List.map c3 (List.take (s0-(0:Int)).toNat (List.drop (0) v2))):Ov })] (3)).getD {:Ov }).rows.getD []),.sl (List.map c104 cc3)]⟩)]⟩) (by kernel_rfl)<|rG cx [2] [2,3] z0<|sn<|rT<|qR (.agg [.sl (((E.look [(3,{ val:=some (AV.own (3:Nat) (1:Nat)),rows:=some (List.map c3 (List.take (s0-(0:Int)).toNat (List.drop (0) v2))):Ov })] (3)).getD {:Ov }).rows.getD []),.sl (List.map c104 cc3)]) (.eq ?g15);rotate_left
 refine sK<|sn<|sq<|awp_norm [5301] [2,3,4,5,52] [2,3,11] (σ':=⟨[(2,.ptr (2) (0) (0) (0)),(3,.ptr (3) (0) (0) (0)),(4,.own 11 0),(5,.i .i64 (s0)),(52,.b (decide ((0:Int) < s0)))],[(2,⟨0,26,.var [.nl,.nl]⟩),(3,⟨0,26,.var [.nl,.sl (List.map c104 cc3)]⟩),(11,⟨0,3,.row 1 (List.map c3 v2)⟩)]⟩) (by kernel_rfl)<|rG cx [2] [2] z0<|sn<|rT<|qR (.agg [.nl,.sl (List.map c104 cc3)]) (AVle.agg (ZLe.cons (AVle.nl' (show List.map c3 (tabP t).vec=[] from ?g17)) (ZLe.cons (AVle.eq (show AV.sl (List.map c104 cc3)=AV.sl (List.map c104 (tabP t).cloud) from ?g16)) ZLe.nil)));rotate_left 2
 rotate_left
 clear hl_14;revert s0 r1 v2 cc3 hh5 hh6 hh7 hh8 hh9 h10 h11 h12 h13;rotate_left
 clear hl_14;revert s0 r1 v2 cc3 hh5 hh6 hh7 hh8 hh9 h10 h11 h12 h13 h_15;rotate_left
 clear hl_14;revert s0 r1 v2 cc3 hh5 hh6 hh7 hh8 hh9 h10 h11 h12 h13 h_15 j_16 v_17 c_18 h_20 h_21 h_22 h_23 h_24;rotate_left
 clear hl_14;revert s0 r1 v2 cc3 hh5 hh6 hh7 hh8 hh9 h10 h11 h12 h13 h_15 j_16 v_17 c_18 h_20 h_21 h_22 h_23 h_24;rotate_left
 clear hl_14;revert s0 r1 v2 cc3 hh5 hh6 hh7 hh8 hh9 h10 h11 h12 h13 h_15 j_16 v_17 c_18 h_20 h_21 h_22 h_23 h_24;rotate_left
 clear hl_14;revert s0 r1 v2 cc3 hh5 hh6 hh7 hh8 hh9 h10 h11 h12 h13 h_15 j_16 v_17 c_18 h_20 h_21 h_22 h_23 h_24;rotate_left
 clear hl_14;revert s0 r1 v2 cc3 hh5 hh6 hh7 hh8 hh9 h10 h11 h12 h13 h_15 j_16 v_17 c_18 h_20 h_21 h_22 h_23 h_24;rotate_left
 clear hl_14;revert s0 r1 v2 cc3 hh5 hh6 hh7 hh8 hh9 h10 h11 h12 h13 h_15;rotate_left
 clear hl_14;revert s0 r1 v2 cc3 hh5 hh6 hh7 hh8 hh9 h10 h11 h12 h13 h_15 j_25 v_26 c_27 h_29 h_30 h_31 h_32 h_33;rotate_left
 clear hl_14;revert s0 r1 v2 cc3 hh5 hh6 hh7 hh8 hh9 h10 h11 h12 h13 h_15 j_25 v_26 c_27 h_29 h_30 h_31 h_32 h_33;rotate_left
 clear hl_14;revert s0 r1 v2 cc3 hh5 hh6 hh7 hh8 hh9 h10 h11 h12 h13 h_15 j_25 v_26 c_27 h_29 h_30 h_31 h_32 h_33;rotate_left
 clear hl_14;revert s0 r1 v2 cc3 hh5 hh6 hh7 hh8 hh9 h10 h11 h12 h13 h_15 j_25 v_26 c_27 h_29 h_30 h_31 h_32 h_33;rotate_left
 clear hl_14;revert s0 r1 v2 cc3 hh5 hh6 hh7 hh8 hh9 h10 h11 h12 h13 h_15 j_25 v_26 c_27 h_29 h_30 h_31 h_32 h_33;rotate_left
 revert s0 r1 v2 cc3 hh5 hh6 hh7 hh8 hh9 h10 h11 h12 h13 h34;rotate_left
 revert s0 r1 v2 cc3 hh5 hh6 hh7 hh8 hh9 h10 h11 h12 h13 h34;rotate_left
 revert s0 r1 v2 cc3 hh5 hh6 hh7 hh8 hh9 h10 h11 h12 h13 h34;rotate_left
 revert s0 r1 v2 cc3 hh5 hh6 hh7 hh8 hh9 h10 h11 h12 h13 h34;rotate_left
 case g0=>exact ⟨by omega,by omega,by omega,by omega,by simp,rfl,by simp [isVec,vecT],rfl⟩
 case g1=>intro s r v c h0 h1 h2 h3 h4 h5 h6 h7 h8;exact hb _ (by omega)
 case g2=>intro s r v c h0 h1 h2 h3 h4 h5 h6 h7 h8 h9;exact ⟨rfl,by omega,by omega,cloud2_start h7⟩
 case g8=>intro s r v c h0 h1 h2 h3 h4 h5 h6 h7 h8 h9;exact ⟨rfl,by omega,by omega,cloud2_start h7⟩
 case g3=>intro s r v c h0 h1 h2 h3 h4 h5 h6 h7 h8 h9 j w d k0 k1 k2 k3 k4;have:=cloud2_len h0 h8 k3;simp only [List.length_map,List.length_cons,List.length_nil,Go.maxLen];omega
 case g9=>intro s r v c h0 h1 h2 h3 h4 h5 h6 h7 h8 h9 j w d k0 k1 k2 k3 k4;have:=cloud2_len h0 h8 k3;simp only [List.length_map,List.length_cons,List.length_nil,Go.maxLen];omega
 case g4=>intro s r v c h0 h1 h2 h3 h4 h5 h6 h7 h8 h9 j w d k0 k1 k2 k3 k4;have:=cloud2_len h0 h8 k3;simp only [List.length_map,List.length_cons,List.length_nil];omega
 case g10=>intro s r v c h0 h1 h2 h3 h4 h5 h6 h7 h8 h9 j w d k0 k1 k2 k3 k4;have:=cloud2_len h0 h8 k3;simp only [List.length_map,List.length_cons,List.length_nil];omega
 case g5=>intro s r v c h0 h1 h2 h3 h4 h5 h6 h7 h8 h9 j w d k0 k1 k2 k3 k4;have:=rest_len t r.toNat;omega
 case g11=>intro s r v c h0 h1 h2 h3 h4 h5 h6 h7 h8 h9 j w d k0 k1 k2 k3 k4;have:=rest_len t r.toNat;omega
 case g6=>intro s r v c h0 h1 h2 h3 h4 h5 h6 h7 h8 h9 j w d k0 k1 k2 k3 k4;exact ⟨k0,by omega,by omega,cloud2_next h0 k1 k4 k3⟩
 case g12=>intro s r v c h0 h1 h2 h3 h4 h5 h6 h7 h8 h9 j w d k0 k1 k2 k3 k4;exact ⟨k0,by omega,by omega,cloud2_next h0 k1 k4 k3⟩
 case g7 =>
  intro s r v c h0 h1 h2 h3 h4 h5 h6 h7 h8 h9 j w d k0 k1 k2 k3 k4
  have hs:=sz_next h0 h5
  rw [if_pos h9] at hs
  subst k0
  exact ⟨by omega,by omega,by omega,by omega,by simpa using h4,hs,vec_next h0 h8 h6,cloud_next h0 k4 k3⟩
 case g13 =>
  intro s r v c h0 h1 h2 h3 h4 h5 h6 h7 h8 h9 j w d k0 k1 k2 k3 k4
  have hs:=sz_next h0 h5
  rw [if_neg h9] at hs
  subst k0
  exact ⟨by omega,by omega,by omega,by omega,by simpa using h4,hs,vec_next h0 h8 h6,cloud_next h0 k4 k3⟩
 case g14=>intro s r v c h0 h1 h2 h3 h4 h5 h6 h7 h8 h9;rw [List.drop_zero,List.length_take];omega
 case g15 =>
  intro s r v c h0 h1 h2 h3 h4 h5 h6 h7 h8 h9
  rw [tab_end h1 h8 h5 h6 h7]
  show AV.agg [AV.sl (List.map c3 (List.take (s-0).toNat (List.drop 0 v))),AV.sl (List.map c104 c)]=_
  rw [List.drop_zero,Int.sub_zero]
  rfl
 case g16=>intro s r v c h0 h1 h2 h3 h4 h5 h6 h7 h8 h9;rw [tab_end h1 h8 h5 h6 h7]
 case g17=>intro s r v c h0 h1 h2 h3 h4 h5 h6 h7 h8 h9;rw [tab_end h1 h8 h5 h6 h7,show s.toNat=0 by omega];rfl
end Go.Proofs.YtaiepnaokhpmcaaGreat
namespace Go.Proofs.YtaiepnaokhpmcaaGreat
open Go.E
set_option maxRecDepth 100000
set_option maxHeartbeats 4000000
def dotB (d:Dot):Bool:=decide (0≤d.rep∧d.rep < 16∧1≤d.num∧d.num≤1000000000)
theorem tabP_congr {T U:Nat→List Run} (h:∀ r:Nat,r < 16→T r=U r):tabP T=tabP U:=by
 have hl:∀ n:Nat,n≤16→szT T n=szT U n∧cloudT T n=cloudT U n:=by
  intro n
  induction n with
  | zero=>intro _;exact ⟨rfl,rfl⟩
  | succ n ih =>
   intro hn
   obtain ⟨h1,h2⟩:=ih (by omega)
   have e:=h n (by omega)
   exact ⟨by rw [szT,szT,h1,leadT,leadT,e],by rw [cloudT,cloudT,h2,restT,restT,e]⟩
 have hv:vecT T 16=vecT U 16:=by
  unfold vecT
  congr 1
  refine List.map_congr_left fun r hr=>?_
  have hr:r < 16:=by simpa using hr
  rw [leadT,leadT,h r hr]
 unfold tabP
 rw [(hl 16 (Nat.le_refl _)).1,(hl 16 (Nat.le_refl _)).2,hv]
theorem dotB_in {d:Dot} (h:dotB d=true):0≤d.rep∧d.rep < 16∧1≤d.num∧d.num≤1000000000:=by
 unfold dotB at h
 simpa using h
theorem con154 (d:Dot):Con Tryz.prog 154 [.agg (c43 d)] (.b (dotB d)) :=
 by
 refine st_con tab_ok (by kernel_rfl) [.tmp 2] 21 Go.Proofs.Tryz.func154 (by kernel_rfl) (by kernel_rfl) ?_
 intro e0 cx
 refine sq<|rG cx [1] [1] z0<|sn<|sq<|st_join (σ':=⟨[(2,.b (decide ((0:Int)≤d.rep∧d.rep < (16:Int)∧(1:Int)≤d.num∧d.num≤(1000000000:Int))))],[]⟩) ?_ ?_
 refine st_split ((0:Int)≤d.rep) (fun h_1=>?_) (fun h_1=>?_)
 refine st_split (d.rep < (16:Int)) (fun h_2=>?_) (fun h_2=>?_)
 refine st_split ((1:Int)≤d.num) (fun h_3=>?_) (fun h_3=>?_)
 refine rG cx [2] [] (tT 2 (told_true h_1) (tT 6 (told_true h_2) (tT 11 (told_true h_3) (tB 16 (d.num≤(1000000000:Int)) (tD 18 (decide (d.num≤(1000000000:Int))) ((0:Int)≤d.rep∧d.rep < (16:Int)∧(1:Int)≤d.num∧d.num≤(1000000000:Int)) (by simp only [eq_true h_1,eq_true h_2,eq_true h_3,tsl]) z0))))) ?_
 exact ⟨rfl,by kernel_rfl⟩
 refine rG cx [2] [] (tT 2 (told_true h_1) (tT 6 (told_true h_2) (tT 11 (told_false h_3) (tD 18 false ((0:Int)≤d.rep∧d.rep < (16:Int)∧(1:Int)≤d.num∧d.num≤(1000000000:Int)) (by simp only [eq_true h_1,eq_true h_2,eq_false h_3,tsl]) z0)))) ?_
 exact ⟨rfl,by kernel_rfl⟩
 refine rG cx [2] [] (tT 2 (told_true h_1) (tT 6 (told_false h_2) (tD 18 false ((0:Int)≤d.rep∧d.rep < (16:Int)∧(1:Int)≤d.num∧d.num≤(1000000000:Int)) (by simp only [eq_true h_1,eq_false h_2,tsl]) z0))) ?_
 exact ⟨rfl,by kernel_rfl⟩
 refine rG cx [2] [] (tT 2 (told_false h_1) (tD 18 false ((0:Int)≤d.rep∧d.rep < (16:Int)∧(1:Int)≤d.num∧d.num≤(1000000000:Int)) (by simp only [eq_false h_1,tsl]) z0)) ?_
 exact ⟨rfl,by kernel_rfl⟩
 refine sn<|rT<|qR (.b (decide ((0:Int)≤d.rep∧d.rep < (16:Int)∧(1:Int)≤d.num∧d.num≤(1000000000:Int)))) (.eq ?g0);rotate_left
 case g0=>exact rfl
end Go.Proofs.YtaiepnaokhpmcaaGreat
namespace Go.Proofs.YtaiepnaokhpmcaaGreat
open Go.E
set_option maxRecDepth 100000
set_option maxHeartbeats 4000000
def vecR (v:List Int) (r:Nat):List Run:=if r < v.length then [⟨1,v[r]!⟩] else []
def cloudR (c:List Span) (r:Nat):List Run:=(c.filter fun (s:Span)=>decide (s.rep=(r:Int))).map fun s=>⟨s.lo,s.hi⟩
def openT (ps:List Past) (r:Nat):List Run:=(ps.map fun p=>vecR p.vec r++cloudR p.cloud r).flatten
def isOpen (ps:List Past) (i:Int) (T:Nat→List Run):Prop:=∀ r:Nat,r < 16→T r=openT (ps.take i.toNat) r
def isOpenV (ps:List Past) (i j:Int) (T:Nat→List Run):Prop:=∀ r:Nat,r < 16→T r=openT (ps.take i.toNat) r++if (r:Int) < j then vecR (ps[i.toNat]!).vec r else []
def isOpenC (ps:List Past) (i j:Int) (T:Nat→List Run):Prop:=∀ r:Nat,r < 16→T r=openT (ps.take i.toNat) r++vecR (ps[i.toNat]!).vec r++cloudR ((ps[i.toNat]!).cloud.take j.toNat) r
def inv117a (ps:List Past) (i:Int) (T:Nat→List Run):Prop:=0≤i∧i≤ps.length∧isOpen ps i T
def dec117a (ps:List Past) (i:Int) (T:Nat→List Run):Nat:=(ps.length-i).toNat
def inv117b (ps:List Past) (i:Int) (n:Int) (j:Int) (T:Nat→List Run) (v:List Int) (c:List Span):Prop:=v=(ps[i.toNat]!).vec∧c=(ps[i.toNat]!).cloud∧0≤j∧j≤n∧isOpenV ps i j T
def dec117b (n:Int) (j:Int) (T:Nat→List Run) (v:List Int) (c:List Span):Nat:=(n-j).toNat
def inv117c (ps:List Past) (i:Int) (j:Int) (T:Nat→List Run):Prop:=0≤j∧j≤(ps[i.toNat]!).cloud.length∧isOpenC ps i j T
def dec117c (ps:List Past) (i:Int) (j:Int) (T:Nat→List Run):Nat:=((ps[i.toNat]!).cloud.length-j).toNat
def totP (ps:List Past):Nat:=(ps.map fun p=>p.cloud.length+1).sum
theorem openT_app (a:List Past) (p:Past) (r:Nat):openT (a++[p]) r=openT a r++(vecR p.vec r++cloudR p.cloud r):=by simp [openT]
theorem vecR_len (v:List Int) (r:Nat):(vecR v r).length≤1:=by unfold vecR;split <;> simp
theorem cloudR_len (c:List Span) (r:Nat):(cloudR c r).length≤c.length:=by
 unfold cloudR
 rw [List.length_map]
 exact List.length_filter_le _ _
theorem openT_len (r:Nat):∀ ps:List Past,(openT ps r).length≤totP ps
 | []=>by simp [openT]
 | p :: ps=>by
  have h1:=openT_len r ps
  have h2:=vecR_len p.vec r
  have h3:=cloudR_len p.cloud r
  simp only [openT,totP,List.map_cons,List.flatten_cons,List.length_append,List.sum_cons] at *
  omega
theorem totP_app (a b:List Past):totP (a++b)=totP a+totP b:=by simp [totP]
theorem totP_take {ps:List Past} {i:Int} (h0:0≤i) (h:i < ps.length):totP (ps.take i.toNat)+(ps[i.toNat]!).cloud.length+1≤totP ps:=by
 have e:totP ps=totP (ps.take (i+1).toNat)+totP (ps.drop (i+1).toNat):=by
  rw [← totP_app,List.take_append_drop]
 rw [← take_step h0 h] at e
 simp only [totP,List.map_append,List.sum_append,List.map_cons,List.map_nil,List.sum_cons,List.sum_nil] at *
 omega
theorem openV_start {ps:List Past} {i:Int} {T:Nat→List Run} (h:isOpen ps i T):isOpenV ps i 0 T:=fun r hr=>by
 rw [h r hr,if_neg (by omega),List.append_nil]
theorem openV_next {ps:List Past} {i j:Int} {T:Nat→List Run} (j0:0≤j) (jl:j < (ps[i.toNat]!).vec.length) (h:isOpenV ps i j T) :
  isOpenV ps i (j+1) (updF T j.toNat (T j.toNat++[⟨1,(ps[i.toNat]!).vec[j.toNat]!⟩])):=by
 intro r hr
 unfold updF
 by_cases e:r=j.toNat
 ·rw [if_pos e,← e,h r hr,if_neg (by omega),if_pos (by omega),List.append_nil,vecR,if_pos (by omega)]
 ·rw [if_neg e,h r hr]
  by_cases k:(r:Int) < j
  ·rw [if_pos k,if_pos (by omega)]
  ·rw [if_neg k,if_neg (by omega)]
theorem openC_start {ps:List Past} {i j:Int} {T:Nat→List Run} (j1:j≤min ((ps[i.toNat]!).vec.length:Int) 16) (jl:¬ j < min ((ps[i.toNat]!).vec.length:Int) 16) (h:isOpenV ps i j T):isOpenC ps i 0 T:=by
 intro r hr
 rw [h r hr,show (0:Int).toNat=0 from rfl,List.take_zero,show cloudR [] r=[] from rfl,List.append_nil]
 by_cases k:(r:Int) < j
 ·rw [if_pos k]
 ·rw [if_neg k,vecR,if_neg (by omega)]
theorem cloudR_app (c:List Span) (s:Span) (r:Nat):cloudR (c++[s]) r=cloudR c r++if s.rep=(r:Int) then [⟨s.lo,s.hi⟩] else []:=by
 unfold cloudR
 rw [List.filter_append,List.map_append]
 congr 1
 by_cases h:s.rep=(r:Int)
 ·rw [if_pos h];simp [List.filter_cons,h]
 ·rw [if_neg h];simp [List.filter_cons,h]
theorem openC_in {ps:List Past} {i j:Int} {T:Nat→List Run} (j0:0≤j) (jl:j < (ps[i.toNat]!).cloud.length) (hr:0≤((ps[i.toNat]!).cloud[j.toNat]!).rep∧((ps[i.toNat]!).cloud[j.toNat]!).rep < 16) (h:isOpenC ps i j T) :
  isOpenC ps i (j+1) (updF T ((ps[i.toNat]!).cloud[j.toNat]!).rep.toNat (T ((ps[i.toNat]!).cloud[j.toNat]!).rep.toNat++[⟨((ps[i.toNat]!).cloud[j.toNat]!).lo,((ps[i.toNat]!).cloud[j.toNat]!).hi⟩])):=by
 intro r hr'
 rw [← take_step j0 jl,cloudR_app]
 unfold updF
 by_cases e:r=((ps[i.toNat]!).cloud[j.toNat]!).rep.toNat
 ·rw [if_pos e,if_pos (by omega),← e,h r hr',List.append_assoc,List.append_assoc]
 ·rw [if_neg e,if_neg (by omega),List.append_nil,h r hr']
theorem openC_out {ps:List Past} {i j:Int} {T:Nat→List Run} (j0:0≤j) (jl:j < (ps[i.toNat]!).cloud.length) (hr:¬ (0≤((ps[i.toNat]!).cloud[j.toNat]!).rep∧((ps[i.toNat]!).cloud[j.toNat]!).rep < 16)) (h:isOpenC ps i j T):isOpenC ps i (j+1) T:=by
 intro r hr'
 rw [← take_step j0 jl,cloudR_app,if_neg (by omega),List.append_nil,h r hr']
theorem open_next {ps:List Past} {i j:Int} {T:Nat→List Run} (h0:0≤i) (h1:i < ps.length) (jl:¬ j < (ps[i.toNat]!).cloud.length) (h:isOpenC ps i j T):isOpen ps (i+1) T:=by
 intro r hr
 rw [← take_step h0 h1,openT_app,h r hr,List.take_of_length_le (l:=(ps[i.toNat]!).cloud) (by omega),List.append_assoc]
theorem openV_len {ps:List Past} {i j:Int} {T:Nat→List Run} (h0:0≤i) (h1:i < ps.length) (h:isOpenV ps i j T) {r:Nat} (hr:r < 16) (k:¬ (r:Int) < j):(T r).length+1≤totP ps:=by
 rw [h r hr,if_neg k,List.append_nil]
 have:=openT_len r (ps.take i.toNat)
 have:=totP_take h0 h1
 omega
theorem openC_len {ps:List Past} {i j:Int} {T:Nat→List Run} (h0:0≤i) (h1:i < ps.length) (j0:0≤j) (jl:j < (ps[i.toNat]!).cloud.length) (h:isOpenC ps i j T) {r:Nat} (hr:r < 16):(T r).length+1≤totP ps+1∧j+1≤totP ps:=by
 rw [h r hr,List.length_append,List.length_append]
 have:=openT_len r (ps.take i.toNat)
 have:=totP_take h0 h1
 have:=vecR_len (ps[i.toNat]!).vec r
 have:=cloudR_len ((ps[i.toNat]!).cloud.take j.toNat) r
 rw [List.length_take] at this
 omega
theorem con102 (ps:List Past) (hb:totP ps*16≤140737488351232):ConB Tryz.prog 102 [.sl (ps.map c26)] 152 (.arr (tabC c154 16 (openT ps))) :=
 by
 refine conB_lens 0 (c26) (ps) (by kernel_rfl) Go.Proofs.Tryz.func102 (by kernel_rfl) fun hl_0=>st_conB tab_ok (by kernel_rfl) (.tmp 2) 78 Go.Proofs.Tryz.func102 (by kernel_rfl) (by kernel_rfl) ?_
 intro e0 cx
 refine sq<|rG cx [0] [] z0<|sn<|sq<|rG cx [0,3] [10] z0<|sn<|sq<|sq<|rG cx [3,11,12,13] [10] (tL 1 c26 ps z0)<|sn<|bL 0<|awp_tabIn 10 154 2 101000 16 (σ':=⟨[(3,.ptr (10) (0) (0) (0)),(11,.sl (List.map c26 ps)),(12,.i .i64 ((↑ps.length:Int))),(13,.i .i64 ((0:Int)))],[(10,⟨0,152,.var (ownsC 101000 16)⟩)]++tabRows 101000 154 2 16 (c154) (fun x ↦ [])⟩) (by kernel_rfl)<|st_loop (X:=Int×(Nat→List Run)) (fun x=>⟨[(3,.ptr (10) (0) (0) (0)),(11,.sl (List.map c26 ps)),(12,.i .i64 ((↑ps.length:Int))),(13,.i .i64 (x.1))],[(10,⟨0,152,.var (ownsC 101000 16)⟩)]++tabRows 101000 154 2 16 (c154) (x.2)⟩) (fun x ↦ dec117a ps x.1 x.2) (fun x ↦ inv117a ps x.1 x.2) [3,11,12,13] ([10]++List.range' 101000 16) (((0:Int),fun x ↦ [])) (by kernel_rfl) (by kernel_rfl) (show inv117a ps (0:Int) fun x ↦ [] from ?g0) ?_;rotate_left
 rintro ⟨i0,T1⟩ h_2
 obtain ⟨hh3,h4,h5⟩:(0:Int)≤i0∧i0≤(↑ps.length:Int)∧isOpen ps i0 T1:=h_2
 refine sq<|rG cx [3,11,12,13,14] ([10]++List.range' 101000 16) (tB 0 (i0 < (↑ps.length:Int)) z0)<|sn<|sq<|dC (i0 < (↑ps.length:Int)) (fun h6=>?_) fun h6=>?_
 refine sK<|sn<|sq<|bL 1<|sq<|rG cx [3,11,12,13,5] ([10]++List.range' 101000 16++[5]) (fA ((0:Int)≤i0) (fG c26 ps i0.toNat (fR (2:Nat) (fN 2 2 (oR 0 (c26 ps[i0.toNat]!) z0)))))<|sn<|sq<|sq<|rG cx [3,11,12,13,5,20,21] ([10]++List.range' 101000 16++[5]) (tL 2 c3 ps[i0.toNat]!.vec (tT 3 (told_min:AV.i .i64 (if (16:Int) < (↑ps[i0.toNat]!.vec.length:Int) then (16:Int) else (↑ps[i0.toNat]!.vec.length:Int))=AV.i .i64 (min (↑ps[i0.toNat]!.vec.length:Int) (16:Int))) z0))<|sn<|bL 2<|st_loop (X:=Int×(Nat→List Run)×List Int×List Span) (fun x=>⟨[(3,.ptr (10) (0) (0) (0)),(11,.sl (List.map c26 ps)),(12,.i .i64 ((↑ps.length:Int))),(13,.i .i64 (i0)),(5,.ptr (5) (0) (0) (0)),(20,.i .i64 (min (↑ps[i0.toNat]!.vec.length:Int) (16:Int))),(21,.i .i64 (x.1))],[(10,⟨0,152,.var (ownsC 101000 16)⟩)]++tabRows 101000 154 2 16 (c154) (x.2.1)++[(5,⟨0,26,.var [.sl (List.map c3 x.2.2.1),.sl (List.map c104 x.2.2.2)]⟩)]⟩) (fun x ↦ dec117b (min (↑ps[i0.toNat]!.vec.length:Int) (16:Int)) x.1 x.2.1 x.2.2.1 x.2.2.2) (fun x ↦ inv117b ps i0 (min (↑ps[i0.toNat]!.vec.length:Int) (16:Int)) x.1 x.2.1 x.2.2.1 x.2.2.2) [3,11,12,13,5,20,21] ([10]++List.range' 101000 16++[5]) (((0:Int),T1,ps[i0.toNat]!.vec,ps[i0.toNat]!.cloud)) (by kernel_rfl) (by kernel_rfl) (show inv117b ps i0 (min (↑ps[i0.toNat]!.vec.length:Int) (16:Int)) (0:Int) T1 ps[i0.toNat]!.vec ps[i0.toNat]!.cloud from ?g1) ?_;rotate_left
 rintro ⟨j7,T8,v9,c10⟩ h_11
 obtain ⟨h12,h13,h14,h15,h16⟩:v9=ps[i0.toNat]!.vec∧c10=ps[i0.toNat]!.cloud∧(0:Int)≤j7∧j7≤min (↑ps[i0.toNat]!.vec.length:Int) (16:Int)∧isOpenV ps i0 j7 T8:=h_11
 refine sq<|rG cx [3,11,12,13,5,20,21,22] ([10]++List.range' 101000 16++[5]) (tB 0 (j7 < min (↑ps[i0.toNat]!.vec.length:Int) (16:Int)) z0)<|sn<|sq<|dC (j7 < min (↑ps[i0.toNat]!.vec.length:Int) (16:Int)) (fun h17=>?_) fun h17=>?_
 refine sK<|sn<|sq<|bL 3<|sq<|rG cx [3,11,12,13,5,20,21,6] ([10]++List.range' 101000 16++[5]) z0<|sn<|st_any16 (F:=fun kx=>⟨[(3,.ptr (10) (0) (0) (0)),(11,.sl (List.map c26 ps)),(12,.i .i64 ((↑ps.length:Int))),(13,.i .i64 (i0)),(5,.ptr (5) (0) (0) (0)),(20,.i .i64 (min (↑ps[i0.toNat]!.vec.length:Int) (16:Int))),(21,.i .i64 (kx)),(6,.i .i64 (kx))],[(10,⟨0,152,.var (ownsC 101000 16)⟩)]++tabRows 101000 154 2 16 (c154) (T8)++[(5,⟨0,26,.var [.sl (List.map c3 v9),.sl (List.map c104 c10)]⟩)]⟩) (G:=fun kx=>⟨[(3,.ptr (10) (0) (0) (0)),(11,.sl (List.map c26 ps)),(12,.i .i64 ((↑ps.length:Int))),(13,.i .i64 (i0)),(5,.ptr (5) (0) (0) (0)),(20,.i .i64 (min (↑ps[i0.toNat]!.vec.length:Int) (16:Int))),(21,.i .i64 (kx))],[(10,⟨0,152,.var (ownsC 101000 16)⟩)]++tabRows 101000 154 2 16 (c154) (updF T8 kx.toNat (T8 kx.toNat++[{ lo:=(1:Int),hi:=v9[kx.toNat]!:Run }]))++[(5,⟨0,26,.var [.sl (List.map c3 v9),.sl (List.map c104 c10)]⟩)]⟩) (A:=fun kx=>((0:Int)≤kx)∧(kx < (↑(16:Nat):Int))∧((0:Int)≤kx)∧((List.map c3 v9)[kx.toNat]?=some (c3 v9[kx.toNat]!))∧((c3 v9[kx.toNat]!).length=(1:Nat))∧(154=(154:Nat))∧((2:Nat)=2)∧([AV.i .i64 (0:Int),AV.i .i64 (0:Int)].length=(2:Nat))∧(∀ (r:List AV),r∈List.map c154 [{ lo:=(1:Int),hi:=v9[kx.toNat]!:Run }]→r.length=2)∧((List.map c154 (T8 kx.toNat)).length+(List.map c154 [{ lo:=(1:Int),hi:=v9[kx.toNat]!:Run }]).length≤maxLen)∧(((List.map c154 (T8 kx.toNat)).length+(List.map c154 [{ lo:=(1:Int),hi:=v9[kx.toNat]!:Run }]).length)*(16:Nat)≤(140737488355328:Nat))∧(List.map c154 (T8 kx.toNat)++List.map c154 [{ lo:=(1:Int),hi:=v9[kx.toNat]!:Run }]=List.map c154 (T8 kx.toNat++[{ lo:=(1:Int),hi:=v9[kx.toNat]!:Run }]))∧((0:Int)≤kx)∧(kx < (↑(16:Nat):Int))) cx (fun kx=>[(10,{ row:=(c3 v9[kx.toNat]!) }),(14,{ rows:=some (List.map c154 (T8 kx.toNat++[{ lo:=(1:Int),hi:=v9[kx.toNat]!:Run }])) })]) [3,11,12,13,5,20,21] ([10]++List.range' 101000 16++[5]) (j7) (by (with_reducible assumption)) (by omega) (by kernel_rfl) (by kernel_rfl) ⟨(by show _=_;kernel_rfl),(by show _=_;kernel_rfl),(by show _=_;kernel_rfl),(by show _=_;kernel_rfl),(by show _=_;kernel_rfl),(by show _=_;kernel_rfl),(by show _=_;kernel_rfl),(by show _=_;kernel_rfl),(by show _=_;kernel_rfl),(by show _=_;kernel_rfl),(by show _=_;kernel_rfl),(by show _=_;kernel_rfl),(by show _=_;kernel_rfl),(by show _=_;kernel_rfl),(by show _=_;kernel_rfl),(by show _=_;kernel_rfl)⟩ ⟨(by (with_reducible assumption)),(by omega),(by (with_reducible assumption)),?g2,(by kernel_rfl),(by kernel_rfl),(by kernel_rfl),(by kernel_rfl),(by (with_reducible refine len_map (fun _=>?_) _;kernel_rfl)),?g3,?g4,(by (with_reducible refine app_map ?_;kernel_rfl)),(by (with_reducible assumption)),(by omega)⟩ ?_;rotate_left 3
 refine bN<|sn<|rG cx [3,11,12,13,5,20,21] ([10]++List.range' 101000 16++[5]) (tW 0 (j7+(1:Int)) z0)<|sn<|loop_next ((j7+(1:Int),updF T8 j7.toNat (T8 j7.toNat++[{ lo:=(1:Int),hi:=v9[j7.toNat]!:Run }]),v9,c10)) (by kernel_rfl) (show (min (↑ps[i0.toNat]!.vec.length:Int) (16:Int)-(j7+(1:Int))).toNat < (min (↑ps[i0.toNat]!.vec.length:Int) (16:Int)-j7).toNat from (by omega)) (show inv117b ps i0 (min (↑ps[i0.toNat]!.vec.length:Int) (16:Int)) (j7+(1:Int)) (updF T8 j7.toNat (T8 j7.toNat++[{ lo:=(1:Int),hi:=v9[j7.toNat]!:Run }])) v9 c10 from ?g5);rotate_left
 refine eX 2<|nE<|nE<|bH<|sn<|sq<|rG cx [3,11,12,13,43,44,45] ([10]++List.range' 101000 16) (tL 2 c104 c10 z0)<|sn<|bL 4<|st_loop (X:=Int×(Nat→List Run)) (fun x=>⟨[(3,.ptr (10) (0) (0) (0)),(11,.sl (List.map c26 ps)),(12,.i .i64 ((↑ps.length:Int))),(13,.i .i64 (i0)),(43,.sl (List.map c104 c10)),(44,.i .i64 ((↑c10.length:Int))),(45,.i .i64 (x.1))],[(10,⟨0,152,.var (ownsC 101000 16)⟩)]++tabRows 101000 154 2 16 (c154) (x.2)⟩) (fun x ↦ dec117c ps i0 x.1 x.2) (fun x ↦ inv117c ps i0 x.1 x.2) [3,11,12,13,43,44,45] ([10]++List.range' 101000 16) (((0:Int),T8)) (by kernel_rfl) (by kernel_rfl) (show inv117c ps i0 (0:Int) T8 from ?g6) ?_;rotate_left
 rintro ⟨j18,T19⟩ h_20
 obtain ⟨h21,h22,h23⟩:(0:Int)≤j18∧j18≤(↑ps[i0.toNat]!.cloud.length:Int)∧isOpenC ps i0 j18 T19:=h_20
 refine sq<|rG cx [3,11,12,13,43,44,45,46] ([10]++List.range' 101000 16) (tB 0 (j18 < (↑c10.length:Int)) z0)<|sn<|sq<|dC (j18 < (↑c10.length:Int)) (fun h24=>?_) fun h24=>?_
 refine sK<|sn<|sq<|bL 5<|sq<|rG cx [3,11,12,13,43,44,45,8] ([10]++List.range' 101000 16++[8]) (fA ((0:Int)≤j18) (fG c104 c10 j18.toNat (fR (3:Nat) (fN 3 3 (oR 0 (c104 c10[j18.toNat]!) z0)))))<|sn<|sq<|st_join (σ':=⟨[(3,.ptr (10) (0) (0) (0)),(11,.sl (List.map c26 ps)),(12,.i .i64 ((↑ps.length:Int))),(13,.i .i64 (i0)),(43,.sl (List.map c104 c10)),(44,.i .i64 ((↑c10.length:Int))),(45,.i .i64 (j18)),(8,.ptr (8) (0) (0) (0)),(56,.b (decide ((0:Int)≤c10[j18.toNat]!.rep∧c10[j18.toNat]!.rep < (16:Int))))],[(10,⟨0,152,.var (ownsC 101000 16)⟩)]++tabRows 101000 154 2 16 (c154) (T19)++[(8,⟨0,104,.var [.i .i64 (c10[j18.toNat]!.rep),.i .i64 (c10[j18.toNat]!.lo),.i .i64 (c10[j18.toNat]!.hi)]⟩)]⟩) ?_ ?_
 refine st_split ((0:Int)≤c10[j18.toNat]!.rep) (fun h_26=>?_) (fun h_26=>?_)
 refine rG cx [3,11,12,13,43,44,45,8,56] ([10]++List.range' 101000 16++[8]) (tT 2 (told_true h_26) (tB 6 (c10[j18.toNat]!.rep < (16:Int)) (tD 7 (decide (c10[j18.toNat]!.rep < (16:Int))) ((0:Int)≤c10[j18.toNat]!.rep∧c10[j18.toNat]!.rep < (16:Int)) (by simp only [eq_true h_26,tsl]) z0))) ?_
 exact ⟨rfl,by kernel_rfl⟩
 refine rG cx [3,11,12,13,43,44,45,8,56] ([10]++List.range' 101000 16++[8]) (tT 2 (told_false h_26) (tD 7 false ((0:Int)≤c10[j18.toNat]!.rep∧c10[j18.toNat]!.rep < (16:Int)) (by simp only [eq_false h_26,tsl]) z0)) ?_
 exact ⟨rfl,by kernel_rfl⟩
 refine sn<|dC ((0:Int)≤c10[j18.toNat]!.rep∧c10[j18.toNat]!.rep < (16:Int)) (fun h27=>?_) fun h27=>?_
 refine st_any16 (F:=fun kx=>⟨[(3,.ptr (10) (0) (0) (0)),(11,.sl (List.map c26 ps)),(12,.i .i64 ((↑ps.length:Int))),(13,.i .i64 (i0)),(43,.sl (List.map c104 c10)),(44,.i .i64 ((↑c10.length:Int))),(45,.i .i64 (j18)),(8,.ptr (8) (0) (0) (0)),(56,.b (decide ((0:Int)≤kx∧kx < (16:Int))))],[(10,⟨0,152,.var (ownsC 101000 16)⟩)]++tabRows 101000 154 2 16 (c154) (T19)++[(8,⟨0,104,.var [.i .i64 (kx),.i .i64 (c10[j18.toNat]!.lo),.i .i64 (c10[j18.toNat]!.hi)]⟩)]⟩) (G:=fun kx=>⟨[(3,.ptr (10) (0) (0) (0)),(11,.sl (List.map c26 ps)),(12,.i .i64 ((↑ps.length:Int))),(13,.i .i64 (i0)),(43,.sl (List.map c104 c10)),(44,.i .i64 ((↑c10.length:Int))),(45,.i .i64 (j18))],[(10,⟨0,152,.var (ownsC 101000 16)⟩)]++tabRows 101000 154 2 16 (c154) (updF T19 kx.toNat (T19 kx.toNat++[{ lo:=c10[j18.toNat]!.lo,hi:=c10[j18.toNat]!.hi:Run }]))⟩) (A:=fun kx=>((0:Int)≤kx)∧(kx < (↑(16:Nat):Int))∧(154=(154:Nat))∧((2:Nat)=2)∧([AV.i .i64 (0:Int),AV.i .i64 (0:Int)].length=(2:Nat))∧(∀ (r:List AV),r∈List.map c154 [{ lo:=c10[j18.toNat]!.lo,hi:=c10[j18.toNat]!.hi:Run }]→r.length=2)∧((List.map c154 (T19 kx.toNat)).length+(List.map c154 [{ lo:=c10[j18.toNat]!.lo,hi:=c10[j18.toNat]!.hi:Run }]).length≤maxLen)∧(((List.map c154 (T19 kx.toNat)).length+(List.map c154 [{ lo:=c10[j18.toNat]!.lo,hi:=c10[j18.toNat]!.hi:Run }]).length)*(16:Nat)≤(140737488355328:Nat))∧(List.map c154 (T19 kx.toNat)++List.map c154 [{ lo:=c10[j18.toNat]!.lo,hi:=c10[j18.toNat]!.hi:Run }]=List.map c154 (T19 kx.toNat++[{ lo:=c10[j18.toNat]!.lo,hi:=c10[j18.toNat]!.hi:Run }]))∧((0:Int)≤kx)∧(kx < (↑(16:Nat):Int))) cx (fun kx=>[(15,{ rows:=some (List.map c154 (T19 kx.toNat++[{ lo:=c10[j18.toNat]!.lo,hi:=c10[j18.toNat]!.hi:Run }])) })]) [3,11,12,13,43,44,45] ([10]++List.range' 101000 16) (c10[j18.toNat]!.rep) (by omega) (by omega) (by kernel_rfl) (by kernel_rfl) ⟨(by show _=_;kernel_rfl),(by show _=_;kernel_rfl),(by show _=_;kernel_rfl),(by show _=_;kernel_rfl),(by show _=_;kernel_rfl),(by show _=_;kernel_rfl),(by show _=_;kernel_rfl),(by show _=_;kernel_rfl),(by show _=_;kernel_rfl),(by show _=_;kernel_rfl),(by show _=_;kernel_rfl),(by show _=_;kernel_rfl),(by show _=_;kernel_rfl),(by show _=_;kernel_rfl),(by show _=_;kernel_rfl),(by show _=_;kernel_rfl)⟩ ⟨(by omega),(by omega),(by kernel_rfl),(by kernel_rfl),(by kernel_rfl),(by (with_reducible refine len_map (fun _=>?_) _;kernel_rfl)),?g7,?g8,(by (with_reducible refine app_map ?_;kernel_rfl)),(by omega),(by omega)⟩ ?_;rotate_left 2
 refine bN<|sn<|rG cx [3,11,12,13,43,44,45] ([10]++List.range' 101000 16) (tT 0 (told_i64 (by omega) ?g9:AV.i .i64 (IntKind.i64.wrap (j18+(1:Int)))=AV.i .i64 (j18+(1:Int))) z0) ?_;rotate_left
 refine sn<|loop_next ((j18+(1:Int),updF T19 c10[j18.toNat]!.rep.toNat (T19 c10[j18.toNat]!.rep.toNat++[{ lo:=c10[j18.toNat]!.lo,hi:=c10[j18.toNat]!.hi:Run }]))) (by kernel_rfl) (show ((↑ps[i0.toNat]!.cloud.length:Int)-(j18+(1:Int))).toNat < ((↑ps[i0.toNat]!.cloud.length:Int)-j18).toNat from ?g10) (show inv117c ps i0 (j18+(1:Int)) (updF T19 c10[j18.toNat]!.rep.toNat (T19 c10[j18.toNat]!.rep.toNat++[{ lo:=c10[j18.toNat]!.lo,hi:=c10[j18.toNat]!.hi:Run }])) from ?g11);rotate_left 2
 refine sK<|bN<|sn<|rG cx [3,11,12,13,43,44,45] ([10]++List.range' 101000 16) (tT 0 (told_i64 (by omega) ?g12:AV.i .i64 (IntKind.i64.wrap (j18+(1:Int)))=AV.i .i64 (j18+(1:Int))) z0) ?_;rotate_left
 refine sn<|loop_next ((j18+(1:Int),T19)) (by kernel_rfl) (show ((↑ps[i0.toNat]!.cloud.length:Int)-(j18+(1:Int))).toNat < ((↑ps[i0.toNat]!.cloud.length:Int)-j18).toNat from ?g13) (show inv117c ps i0 (j18+(1:Int)) T19 from ?g14);rotate_left 2
 refine eX 4<|nE<|nE<|bH<|bN<|sn<|rG cx [3,11,12,13] ([10]++List.range' 101000 16) (tW 0 (i0+(1:Int)) z0)<|sn<|loop_next ((i0+(1:Int),T19)) (by kernel_rfl) (show ((↑ps.length:Int)-(i0+(1:Int))).toNat < ((↑ps.length:Int)-i0).toNat from (by omega)) (show inv117a ps (i0+(1:Int)) T19 from ?g15);rotate_left
 refine eX 0<|nE<|nE<|bH<|sn<|sq<|awp_norm (List.range' 101000 16) [3,11,12,13,14] [10] (σ':=⟨[(3,.ptr (10) (0) (0) (0)),(11,.sl (List.map c26 ps)),(12,.i .i64 ((↑ps.length:Int))),(13,.i .i64 (i0)),(14,.b (decide (i0 < (↑ps.length:Int))))],[(10,⟨0,152,.var [.sl (List.map c154 (T1 (0))),.sl (List.map c154 (T1 (1))),.sl (List.map c154 (T1 (2))),.sl (List.map c154 (T1 (3))),.sl (List.map c154 (T1 (4))),.sl (List.map c154 (T1 (5))),.sl (List.map c154 (T1 (6))),.sl (List.map c154 (T1 (7))),.sl (List.map c154 (T1 (8))),.sl (List.map c154 (T1 (9))),.sl (List.map c154 (T1 (10))),.sl (List.map c154 (T1 (11))),.sl (List.map c154 (T1 (12))),.sl (List.map c154 (T1 (13))),.sl (List.map c154 (T1 (14))),.sl (List.map c154 (T1 (15)))]⟩)]⟩) (by kernel_rfl)<|awp_varArr 10 ⟨0,152,.var [.sl (List.map c154 (T1 (0))),.sl (List.map c154 (T1 (1))),.sl (List.map c154 (T1 (2))),.sl (List.map c154 (T1 (3))),.sl (List.map c154 (T1 (4))),.sl (List.map c154 (T1 (5))),.sl (List.map c154 (T1 (6))),.sl (List.map c154 (T1 (7))),.sl (List.map c154 (T1 (8))),.sl (List.map c154 (T1 (9))),.sl (List.map c154 (T1 (10))),.sl (List.map c154 (T1 (11))),.sl (List.map c154 (T1 (12))),.sl (List.map c154 (T1 (13))),.sl (List.map c154 (T1 (14))),.sl (List.map c154 (T1 (15)))]⟩ [.sl (List.map c154 (T1 (0))),.sl (List.map c154 (T1 (1))),.sl (List.map c154 (T1 (2))),.sl (List.map c154 (T1 (3))),.sl (List.map c154 (T1 (4))),.sl (List.map c154 (T1 (5))),.sl (List.map c154 (T1 (6))),.sl (List.map c154 (T1 (7))),.sl (List.map c154 (T1 (8))),.sl (List.map c154 (T1 (9))),.sl (List.map c154 (T1 (10))),.sl (List.map c154 (T1 (11))),.sl (List.map c154 (T1 (12))),.sl (List.map c154 (T1 (13))),.sl (List.map c154 (T1 (14))),.sl (List.map c154 (T1 (15)))] (tabC c154 (16:Nat) T1) (σ':=⟨[(3,.ptr (10) (0) (0) (0)),(11,.sl (List.map c26 ps)),(12,.i .i64 ((↑ps.length:Int))),(13,.i .i64 (i0)),(14,.b (decide (i0 < (↑ps.length:Int))))],[(10,⟨0,152,.arr (tabC c154 (16:Nat) T1)⟩)]⟩) (by kernel_rfl) (by kernel_rfl) (by kernel_rfl) (by kernel_rfl) (ZLe.of_eq (by kernel_rfl)) (by kernel_rfl)<|rG cx [2] [10] z0<|sn<|rT<|qb_ptr (cells':=(tabC c154 (16:Nat) T1)) .ret (.inr rfl) 2 10 0 (by kernel_rfl) (by kernel_rfl) (by kernel_rfl) ?g16;rotate_left
 rotate_left
 revert i0 T1 hh3 h4 h5 h6;rotate_left
 revert i0 T1 hh3 h4 h5 h6 j7 T8 v9 c10 h12 h13 h14 h15 h16 h17;rotate_left
 revert i0 T1 hh3 h4 h5 h6 j7 T8 v9 c10 h12 h13 h14 h15 h16 h17;rotate_left
 revert i0 T1 hh3 h4 h5 h6 j7 T8 v9 c10 h12 h13 h14 h15 h16 h17;rotate_left
 revert i0 T1 hh3 h4 h5 h6 j7 T8 v9 c10 h12 h13 h14 h15 h16 h17;rotate_left
 revert i0 T1 hh3 h4 h5 h6 j7 T8 v9 c10 h12 h13 h14 h15 h16 h17;rotate_left
 revert i0 T1 hh3 h4 h5 h6 j7 T8 v9 c10 h12 h13 h14 h15 h16 h17 j18 T19 h21 h22 h23 h24 h27;rotate_left
 revert i0 T1 hh3 h4 h5 h6 j7 T8 v9 c10 h12 h13 h14 h15 h16 h17 j18 T19 h21 h22 h23 h24 h27;rotate_left
 revert i0 T1 hh3 h4 h5 h6 j7 T8 v9 c10 h12 h13 h14 h15 h16 h17 j18 T19 h21 h22 h23 h24 h27;rotate_left
 revert i0 T1 hh3 h4 h5 h6 j7 T8 v9 c10 h12 h13 h14 h15 h16 h17 j18 T19 h21 h22 h23 h24 h27;rotate_left
 revert i0 T1 hh3 h4 h5 h6 j7 T8 v9 c10 h12 h13 h14 h15 h16 h17 j18 T19 h21 h22 h23 h24 h27;rotate_left
 revert i0 T1 hh3 h4 h5 h6 j7 T8 v9 c10 h12 h13 h14 h15 h16 h17 j18 T19 h21 h22 h23 h24 h27;rotate_left
 revert i0 T1 hh3 h4 h5 h6 j7 T8 v9 c10 h12 h13 h14 h15 h16 h17 j18 T19 h21 h22 h23 h24 h27;rotate_left
 revert i0 T1 hh3 h4 h5 h6 j7 T8 v9 c10 h12 h13 h14 h15 h16 h17 j18 T19 h21 h22 h23 h24 h27;rotate_left
 revert i0 T1 hh3 h4 h5 h6 j7 T8 v9 c10 h12 h13 h14 h15 h16 h17 j18 T19 h21 h22 h23 h24;rotate_left
 revert i0 T1 hh3 h4 h5 h6;rotate_left
 case g0=>exact ⟨by omega,by omega,fun r _=>rfl⟩
 case g1=>intro i T h0 h1 h2 h3;exact ⟨rfl,rfl,by omega,by omega,openV_start h2⟩
 case g2=>intros;subst_vars;exact get_map (by omega)
 case g3=>intro i T h0 h1 h2 h3 j U v c k0 k1 k2 k3 k4 k5;have:=openV_len h0 h3 k4 (r:=j.toNat) (by omega) (by omega);simp only [List.length_map,List.length_cons,List.length_nil,Go.maxLen];omega
 case g4=>intro i T h0 h1 h2 h3 j U v c k0 k1 k2 k3 k4 k5;have:=openV_len h0 h3 k4 (r:=j.toNat) (by omega) (by omega);simp only [List.length_map,List.length_cons,List.length_nil];omega
 case g5=>intro i T h0 h1 h2 h3 j U v c k0 k1 k2 k3 k4 k5;subst k0 k1;exact ⟨rfl,rfl,by omega,by omega,openV_next k2 (by omega) k4⟩
 case g6=>intro i T h0 h1 h2 h3 j U v c k0 k1 k2 k3 k4 k5;exact ⟨by omega,by omega,openC_start k3 k5 k4⟩
 case g7=>intro i T h0 h1 h2 h3 j U v c k0 k1 k2 k3 k4 k5 l W m0 m1 m2 m3 m4;subst k0 k1;have:=openC_len h0 h3 m0 m3 m2 (r:=((ps[i.toNat]!).cloud[l.toNat]!).rep.toNat) (by omega);simp only [List.length_map,List.length_cons,List.length_nil,Go.maxLen];omega
 case g8=>intro i T h0 h1 h2 h3 j U v c k0 k1 k2 k3 k4 k5 l W m0 m1 m2 m3 m4;subst k0 k1;have:=openC_len h0 h3 m0 m3 m2 (r:=((ps[i.toNat]!).cloud[l.toNat]!).rep.toNat) (by omega);simp only [List.length_map,List.length_cons,List.length_nil];omega
 case g9=>intro i T h0 h1 h2 h3 j U v c k0 k1 k2 k3 k4 k5 l W m0 m1 m2 m3 m4;subst k0 k1;have:=openC_len h0 h3 m0 m3 m2 (r:=0) (by omega);omega
 case g10=>intro i T h0 h1 h2 h3 j U v c k0 k1 k2 k3 k4 k5 l W m0 m1 m2 m3 m4;subst k0 k1;omega
 case g11=>intro i T h0 h1 h2 h3 j U v c k0 k1 k2 k3 k4 k5 l W m0 m1 m2 m3 m4;subst k0 k1;exact ⟨by omega,by omega,openC_in m0 m3 m4 m2⟩
 case g12=>intro i T h0 h1 h2 h3 j U v c k0 k1 k2 k3 k4 k5 l W m0 m1 m2 m3 m4;subst k0 k1;have:=openC_len h0 h3 m0 m3 m2 (r:=0) (by omega);omega
 case g13=>intro i T h0 h1 h2 h3 j U v c k0 k1 k2 k3 k4 k5 l W m0 m1 m2 m3 m4;subst k0 k1;omega
 case g14=>intro i T h0 h1 h2 h3 j U v c k0 k1 k2 k3 k4 k5 l W m0 m1 m2 m3 m4;subst k0 k1;exact ⟨by omega,by omega,openC_out m0 m3 m4 m2⟩
 case g15=>intro i T h0 h1 h2 h3 j U v c k0 k1 k2 k3 k4 k5 l W m0 m1 m2 m3;subst k0 k1;exact ⟨by omega,by omega,open_next h0 h3 m3 m2⟩
 case g16 =>
  intro i T h0 h1 h2 h3
  unfold tabC
  refine List.map_congr_left fun r hr=>?_
  rw [h2 r (by simpa using hr),List.take_of_length_le (by omega)]
end Go.Proofs.YtaiepnaokhpmcaaGreat
namespace Go.Proofs.YtaiepnaokhpmcaaGreat
open Go.E
set_option maxRecDepth 100000
set_option maxHeartbeats 4000000
def normP (p:Past):Past:=tabP (openT [p])
theorem tot_one (p:Past):totP [p]=p.cloud.length+1:=by simp [totP]
theorem con107 (p:Past) (hb:p.cloud.length*16≤140737488350000):Con Tryz.prog 107 [.agg (c26 p)] (.agg (c26 (normP p))) :=
 by
 have h1:=tot_one p
 have h2:=fun r=>openT_len r [p]
 refine st_con tab_ok (by kernel_rfl) [.cell 2 26] 7 Go.Proofs.Tryz.func107 (by kernel_rfl) (by kernel_rfl) ?_
 intro e0 cx
 refine sq<|rG cx [1,2] [1,2] z0<|sn<|sq<|rG cx [2] [2] (fT (con102 ([p]) ?g0) (fT (con103 (openT [p]) ?g1) (oV 2 { val:=some (.ptr ((152:Nat)) (0) (0) (0)),row:=(tabC c154 (16:Nat) (openT [p])) } (oA 3 (.agg [.sl (List.map c3 (tabP (openT [p])).vec),.sl (List.map c104 (tabP (openT [p])).cloud)]) z0)))) ?_;rotate_left 2
 refine sn<|rT<|qR (.agg [.sl (List.map c3 (tabP (openT [p])).vec),.sl (List.map c104 (tabP (openT [p])).cloud)]) (.eq ?g2);rotate_left
 all_goals
  ( intros <;> first
  | omega
  | exact rfl
  | (have:=h2 ‹Nat›;omega))
end Go.Proofs.YtaiepnaokhpmcaaGreat
namespace Go.Proofs.YtaiepnaokhpmcaaGreat
open Go.E
set_option maxRecDepth 100000
set_option maxHeartbeats 4000000
def invE {α:Type} [Inhabited α] (a b:List α) (i:Int):Prop:=0≤i∧i≤a.length∧a.length=b.length∧∀ j:Nat,(j:Int) < i→a[j]! = b[j]!
def decE {α:Type} (a b:List α) (i:Int):Nat:=(a.length-i).toNat
theorem eq_of_all {α:Type} [Inhabited α] {a b:List α} (hl:a.length=b.length) (h:∀ j:Nat,j < a.length→a[j]! = b[j]!):a=b:=by
 apply List.ext_getElem hl
 intro j h1 h2
 have:=h j h1
 rwa [getElem!_pos a j h1,getElem!_pos b j h2] at this
theorem con130 (a b:List Int):Con Tryz.prog 130 [.sl (a.map c3),.sl (b.map c3)] (.b (decide (a=b))) :=
 by
 refine con_lens 0 (c3) (a) (by kernel_rfl) Go.Proofs.Tryz.func130 (by kernel_rfl) fun hl_0=>con_lens 1 (c3) (b) (by kernel_rfl) Go.Proofs.Tryz.func130 (by kernel_rfl) fun hl_1=>st_con tab_ok (by kernel_rfl) [.tmp 4] 26 Go.Proofs.Tryz.func130 (by kernel_rfl) (by kernel_rfl) ?_
 intro e0 cx
 refine sq<|rG cx [0,1] [] z0<|sn<|sq<|sq<|rG cx [0,1,10] [] (tL 1 c3 a (tL 3 c3 b (tN 4 (↑a.length:Int) (↑b.length:Int) z0)))<|sn<|dC (¬(↑a.length:Int)=(↑b.length:Int)) (fun hh0=>?_) fun hh0=>?_
 refine sq<|rG cx [4] [] z0<|sn<|rT<|nR<|qR (.b (false)) (.eq ?g0);rotate_left
 refine sK<|sn<|sq<|sq<|rG cx [0,1,12,13] [] (tL 1 c3 a z0)<|sn<|bL 0<|st_loop (X:=Int) (fun x=>⟨[(0,.sl (List.map c3 a)),(1,.sl (List.map c3 b)),(12,.i .i64 ((↑a.length:Int))),(13,.i .i64 (x))],[]⟩) (fun x ↦ decE a b x) (fun x ↦ invE a b x) [0,1,12,13] [] ((0:Int)) (by kernel_rfl) (by kernel_rfl) (show invE a b (0:Int) from ?g1) ?_;rotate_left
 intro i1 h_2
 obtain ⟨hh3,hh4,hh5,h6⟩:(0:Int)≤i1∧i1≤(↑a.length:Int)∧a.length=b.length∧∀ (j:Nat),(↑j:Int) < i1→a[j]! = b[j]!:=h_2
 refine sq<|rG cx [0,1,12,13,14] [] (tB 0 (i1 < (↑a.length:Int)) z0)<|sn<|sq<|dC (i1 < (↑a.length:Int)) (fun h7=>?_) fun h7=>?_
 refine sK<|sn<|sq<|bL 1<|sq<|rG cx [0,1,12,13,5] [] z0<|sn<|sq<|rA cx [0,1,12,13,24] [] (fA ((0:Int)≤i1) (fG c3 a i1.toNat (fR (1:Nat) (fA ((0:Int)≤i1) (fG c3 b i1.toNat (fR (1:Nat) (tN 8 a[i1.toNat]! b[i1.toNat]! (oR 2 (c3 a[i1.toNat]!) (oR 6 (c3 b[i1.toNat]!) z0)))))))))<|sn<|dC (¬a[i1.toNat]! = b[i1.toNat]!) (fun h8=>?_) fun h8=>?_
 refine sq<|rG cx [4] [] z0<|sn<|rT<|bR<|nR<|nR<|bR<|nR<|qR (.b (false)) (.eq ?g2);rotate_left
 refine sK<|bN<|sn<|rG cx [0,1,12,13] [] (tW 0 (i1+(1:Int)) z0)<|sn<|loop_next (i1+(1:Int)) (by kernel_rfl) (show ((↑a.length:Int)-(i1+(1:Int))).toNat < ((↑a.length:Int)-i1).toNat from (by omega)) (show invE a b (i1+(1:Int)) from ?g3);rotate_left
 refine eX 0<|nE<|nE<|bH<|sn<|sq<|rG cx [4] [] z0<|sn<|rT<|qR (.b (true)) (.eq ?g4);rotate_left
 revert hh0;rotate_left
 revert hh0;rotate_left
 revert hh0 i1 hh3 hh4 hh5 h6 h7 h8;rotate_left
 revert hh0 i1 hh3 hh4 hh5 h6 h7 h8;rotate_left
 revert hh0 i1 hh3 hh4 hh5 h6 h7;rotate_left
 case g0=>exact (fun h=>by rw [decide_eq_false (fun k=>h (by rw [k]))])
 case g1=>exact (fun h=>⟨by omega,by omega,by omega,fun j hj=>by omega⟩)
 case g2=>exact (fun h i h0 h1 h2 h3 h4 h5=>by rw [decide_eq_false (fun k=>h5 (by rw [k]))])
 case g3=>exact (fun h i h0 h1 h2 h3 h4 h5=>⟨by omega,by omega,h2,fun j hj=>by
   by_cases e:j=i.toNat
   ·rw [e];exact Classical.not_not.1 h5
   ·exact h3 j (by omega)⟩)
 case g4=>exact (fun h i h0 h1 h2 h3 h4=>by rw [decide_eq_true (eq_of_all h2 fun j hj=>h3 j (by omega))])
theorem con131 (a b:List Span):Con Tryz.prog 131 [.sl (a.map c104),.sl (b.map c104)] (.b (decide (a=b))) :=
 by
 refine con_lens 0 (c104) (a) (by kernel_rfl) Go.Proofs.Tryz.func131 (by kernel_rfl) fun hl_0=>con_lens 1 (c104) (b) (by kernel_rfl) Go.Proofs.Tryz.func131 (by kernel_rfl) fun hl_1=>st_con tab_ok (by kernel_rfl) [.tmp 4] 26 Go.Proofs.Tryz.func131 (by kernel_rfl) (by kernel_rfl) ?_
 intro e0 cx
 refine sq<|rG cx [0,1] [] z0<|sn<|sq<|sq<|rG cx [0,1,10] [] (tL 1 c104 a (tL 3 c104 b (tN 4 (↑a.length:Int) (↑b.length:Int) z0)))<|sn<|dC (¬(↑a.length:Int)=(↑b.length:Int)) (fun hh0=>?_) fun hh0=>?_
 refine sq<|rG cx [4] [] z0<|sn<|rT<|nR<|qR (.b (false)) (.eq ?g0);rotate_left
 refine sK<|sn<|sq<|sq<|rG cx [0,1,12,13] [] (tL 1 c104 a z0)<|sn<|bL 0<|st_loop (X:=Int) (fun x=>⟨[(0,.sl (List.map c104 a)),(1,.sl (List.map c104 b)),(12,.i .i64 ((↑a.length:Int))),(13,.i .i64 (x))],[]⟩) (fun x ↦ decE a b x) (fun x ↦ invE a b x) [0,1,12,13] [] ((0:Int)) (by kernel_rfl) (by kernel_rfl) (show invE a b (0:Int) from ?g1) ?_;rotate_left
 intro i1 h_2
 obtain ⟨hh3,hh4,hh5,h6⟩:(0:Int)≤i1∧i1≤(↑a.length:Int)∧a.length=b.length∧∀ (j:Nat),(↑j:Int) < i1→a[j]! = b[j]!:=h_2
 refine sq<|rG cx [0,1,12,13,14] [] (tB 0 (i1 < (↑a.length:Int)) z0)<|sn<|sq<|dC (i1 < (↑a.length:Int)) (fun h7=>?_) fun h7=>?_
 refine sK<|sn<|sq<|bL 1<|sq<|rG cx [0,1,12,13,5] [] z0<|sn<|sq<|rA cx [0,1,12,13,24] [] (fA ((0:Int)≤i1) (fG c104 a i1.toNat (fR (3:Nat) (fN 3 3 (fA ((0:Int)≤i1) (fG c104 b i1.toNat (fR (3:Nat) (fN 3 3 (fT (aggNe_dec (eq104 a[i1.toNat]! b[i1.toNat]!)) (oR 2 (c104 a[i1.toNat]!) (oR 6 (c104 b[i1.toNat]!) (oA 8 (.b (decide ¬a[i1.toNat]! = b[i1.toNat]!)) z0))))))))))))<|sn<|dC (¬a[i1.toNat]! = b[i1.toNat]!) (fun h8=>?_) fun h8=>?_
 refine sq<|rG cx [4] [] z0<|sn<|rT<|bR<|nR<|nR<|bR<|nR<|qR (.b (false)) (.eq ?g2);rotate_left
 refine sK<|bN<|sn<|rG cx [0,1,12,13] [] (tW 0 (i1+(1:Int)) z0)<|sn<|loop_next (i1+(1:Int)) (by kernel_rfl) (show ((↑a.length:Int)-(i1+(1:Int))).toNat < ((↑a.length:Int)-i1).toNat from (by omega)) (show invE a b (i1+(1:Int)) from ?g3);rotate_left
 refine eX 0<|nE<|nE<|bH<|sn<|sq<|rG cx [4] [] z0<|sn<|rT<|qR (.b (true)) (.eq ?g4);rotate_left
 revert hh0;rotate_left
 revert hh0;rotate_left
 revert hh0 i1 hh3 hh4 hh5 h6 h7 h8;rotate_left
 revert hh0 i1 hh3 hh4 hh5 h6 h7 h8;rotate_left
 revert hh0 i1 hh3 hh4 hh5 h6 h7;rotate_left
 case g0=>exact (fun h=>by rw [decide_eq_false (fun k=>h (by rw [k]))])
 case g1=>exact (fun h=>⟨by omega,by omega,by omega,fun j hj=>by omega⟩)
 case g2=>exact (fun h i h0 h1 h2 h3 h4 h5=>by rw [decide_eq_false (fun k=>h5 (by rw [k]))])
 case g3=>exact (fun h i h0 h1 h2 h3 h4 h5=>⟨by omega,by omega,h2,fun j hj=>by
   by_cases e:j=i.toNat
   ·rw [e];exact Classical.not_not.1 h5
   ·exact h3 j (by omega)⟩)
 case g4=>exact (fun h i h0 h1 h2 h3 h4=>by rw [decide_eq_true (eq_of_all h2 fun j hj=>h3 j (by omega))])
theorem con82 (p:Past) (hb:p.cloud.length*16≤140737488350000):Con Tryz.prog 82 [.agg (c26 p)] (.b (decide (p=normP p))) :=
 by
 refine st_con tab_ok (by kernel_rfl) [.tmp 2] 18 Go.Proofs.Tryz.func82 (by kernel_rfl) (by kernel_rfl) ?_
 intro e0 cx
 refine sq<|rG cx [1] [1] z0<|sn<|sq<|rG cx [1,3] [1,3] (fT (con107 (p) (by (with_reducible assumption))) (oA 1 (.agg [.sl (List.map c3 (normP p).vec),.sl (List.map c104 (normP p).cloud)]) z0))<|sn<|sq<|st_join (σ':=⟨[(2,.b (decide (p.vec=(normP p).vec∧p.cloud=(normP p).cloud)))],[]⟩) ?_ ?_
 refine st_split (p.vec=(normP p).vec) (fun h_1=>?_) (fun h_1=>?_)
 refine rg (A:=_∧_∧_∧(AV.b (decide (p.cloud=(normP p).cloud))=AV.b (decide (p.vec=(normP p).vec∧p.cloud=(normP p).cloud)))) cx [(4,{ val:=some (.b (decide (p.vec=(normP p).vec))),tell:=some (.b (true)) }),(10,{ val:=some (.b (decide (p.cloud=(normP p).cloud))) }),(12,{ tell:=some (.b (decide (p.vec=(normP p).vec∧p.cloud=(normP p).cloud))) })] [2] [] ⟨(told_true h_1),(con130 (p.vec) ((normP p).vec)),(con131 (p.cloud) ((normP p).cloud)),(by simp only [eq_true h_1,tsl])⟩ ?_
 exact ⟨rfl,by kernel_rfl⟩
 refine rg (A:=_∧_∧(AV.b false=AV.b (decide (p.vec=(normP p).vec∧p.cloud=(normP p).cloud)))) cx [(4,{ val:=some (.b (decide (p.vec=(normP p).vec))),tell:=some (.b (false)) }),(12,{ tell:=some (.b (decide (p.vec=(normP p).vec∧p.cloud=(normP p).cloud))) })] [2] [] ⟨(told_false h_1),(con130 (p.vec) ((normP p).vec)),(by simp only [eq_false h_1,tsl])⟩ ?_
 exact ⟨rfl,by kernel_rfl⟩
 refine sn<|rT<|qR (.b (decide (p.vec=(normP p).vec∧p.cloud=(normP p).cloud))) (.eq ?g0);rotate_left
 case' g0=>refine (by
  congr 1
  refine decide_eq_decide.2 ?_
  generalize normP p=q
  cases p;cases q;simp)
end Go.Proofs.YtaiepnaokhpmcaaGreat
namespace Go.Proofs.YtaiepnaokhpmcaaGreat
open Go.E
set_option maxRecDepth 100000
set_option maxHeartbeats 4000000
def hasS (s:Span) (d:Dot):Bool:=decide (s.rep=d.rep∧s.lo≤d.num∧d.num≤s.hi)
def idxS (c:List Span) (d:Dot):Int:=if c.any (fun s=>hasS s d)=true then (c.findIdx (fun s=>hasS s d):Int) else -1
def invI (c:List Span) (d:Dot) (i:Int):Prop:=0≤i∧i≤c.length∧∀ j:Nat,(j:Int) < i→hasS c[j]! d=false
def decI (c:List Span) (d:Dot) (i:Int):Nat:=(c.length-i).toNat
def hasP (p:Past) (d:Dot):Bool:=dotB d && (decide (d.rep < p.vec.length∧d.num≤p.vec[d.rep.toNat]!) || p.cloud.any fun s=>hasS s d)
theorem idx_at {c:List Span} {d:Dot}:∀ {i:Nat},i < c.length→hasS c[i]! d=true→(∀ j:Nat,j < i→hasS c[j]! d=false)→idxS c d=i:=by
 intro i hi h hn
 have hany:c.any (fun s=>hasS s d)=true:=List.any_eq_true.2 ⟨c[i]!,bang_in hi,h⟩
 unfold idxS
 rw [if_pos hany]
 have:c.findIdx (fun s=>hasS s d)=i:=by
  rw [List.findIdx_eq hi]
  refine ⟨by rwa [getElem!_pos c i hi] at h,fun j hj=>?_⟩
  have:=hn j hj
  rwa [getElem!_pos c j (by omega)] at this
 rw [this]
theorem idx_no {c:List Span} {d:Dot} (h:∀ j:Nat,j < c.length→hasS c[j]! d=false):idxS c d=-1:=by
 unfold idxS
 rw [if_neg]
 intro k
 obtain ⟨x,hx,hk⟩:=List.any_eq_true.1 k
 obtain ⟨j,hj,rfl⟩:=List.mem_iff_getElem.1 hx
 have:=h j hj
 rw [getElem!_pos c j hj] at this
 rw [this] at hk
 cases hk
theorem idx_any (c:List Span) (d:Dot):decide (0≤idxS c d)=c.any fun s=>hasS s d:=by
 unfold idxS
 cases h:c.any fun s=>hasS s d with
 | true=>rw [if_pos rfl];simp
 | false=>rw [if_neg (by simp)];rfl
theorem con156 (s:Span) (d:Dot):Con Tryz.prog 156 [.agg (c104 s),.eptr (c43 d)] (.b (hasS s d)) :=
 by
 refine st_con tab_ok (by kernel_rfl) [.tmp 3] 23 Go.Proofs.Tryz.func156 (by kernel_rfl) (by kernel_rfl) ?_
 intro e0 cx
 refine sq<|rG cx [1,2] [2] z0<|sn<|sq<|st_join (σ':=⟨[(3,.b (decide (s.rep=d.rep∧s.lo≤d.num∧d.num≤s.hi)))],[]⟩) ?_ ?_
 refine st_split (s.rep=d.rep) (fun h_1=>?_) (fun h_1=>?_)
 refine st_split (s.lo≤d.num) (fun h_2=>?_) (fun h_2=>?_)
 refine rG cx [3] [] (tT 4 (told_true h_1) (tT 10 (told_true h_2) (tB 17 (d.num≤s.hi) (tD 19 (decide (d.num≤s.hi)) (s.rep=d.rep∧s.lo≤d.num∧d.num≤s.hi) (by simp only [eq_true h_1,eq_true h_2,tsl]) z0)))) ?_
 exact ⟨rfl,by kernel_rfl⟩
 refine rG cx [3] [] (tT 4 (told_true h_1) (tT 10 (told_false h_2) (tD 19 false (s.rep=d.rep∧s.lo≤d.num∧d.num≤s.hi) (by simp only [eq_true h_1,eq_false h_2,tsl]) z0))) ?_
 exact ⟨rfl,by kernel_rfl⟩
 refine rG cx [3] [] (tT 4 (told_false h_1) (tD 19 false (s.rep=d.rep∧s.lo≤d.num∧d.num≤s.hi) (by simp only [eq_false h_1,tsl]) z0)) ?_
 exact ⟨rfl,by kernel_rfl⟩
 refine sn<|rT<|qR (.b (decide (s.rep=d.rep∧s.lo≤d.num∧d.num≤s.hi))) (.eq ?g0);rotate_left
 case g0=>exact rfl
theorem con191 (c:List Span) (d:Dot):Con Tryz.prog 191 [.sl (c.map c104),.fn (.func 156) [] [.eptr (c43 d)]] (.i .i64 (idxS c d)) :=
 by
 refine con_lens 0 (c104) (c) (by kernel_rfl) Go.Proofs.Tryz.func191 (by kernel_rfl) fun hl_0=>st_con tab_ok (by kernel_rfl) [.tmp 4] 19 Go.Proofs.Tryz.func191 (by kernel_rfl) (by kernel_rfl) ?_
 intro e0 cx
 refine sq<|rG cx [0,1] [] z0<|sn<|sq<|sq<|rG cx [0,1,7,8] [] (tL 1 c104 c z0)<|sn<|bL 0<|st_loop (X:=Int) (fun x=>⟨[(0,.sl (List.map c104 c)),(1,.fn (Fn.func (156:FuncId)) [] [.eptr [.i .i64 (d.rep),.i .i64 (d.num)]]),(7,.i .i64 ((↑c.length:Int))),(8,.i .i64 (x))],[]⟩) (fun x ↦ decI c d x) (fun x ↦ invI c d x) [0,1,7,8] [] ((0:Int)) (by kernel_rfl) (by kernel_rfl) (show invI c d (0:Int) from ?g0) ?_;rotate_left
 intro i0 h_1
 obtain ⟨hh2,hh3,hh4⟩:(0:Int)≤i0∧i0≤(↑c.length:Int)∧∀ (j:Nat),(↑j:Int) < i0→hasS c[j]! d=false:=h_1
 refine sq<|rG cx [0,1,7,8,9] [] (tB 0 (i0 < (↑c.length:Int)) z0)<|sn<|sq<|dC (i0 < (↑c.length:Int)) (fun h5=>?_) fun h5=>?_
 refine sK<|sn<|sq<|bL 1<|sq<|rG cx [0,1,7,8,5] [] z0<|sn<|sq<|rG cx [0,1,7,8,5,16] [] (fA ((0:Int)≤i0) (fG c104 c i0.toNat (fR (3:Nat) (fN 3 3 (fT (con156 (c[i0.toNat]!) (d)) (oR 3 (c104 c[i0.toNat]!) (oA 5 (.b (hasS c[i0.toNat]! d)) z0)))))))<|sn<|st_cond (hasS c[i0.toNat]! d) (by kernel_rfl) (by kernel_rfl) (fun h6=>?_) (fun h6=>?_)
 refine sq<|rG cx [4] [] z0<|sn<|rT<|bR<|nR<|nR<|bR<|nR<|qR (.i .i64 (i0)) (.eq ?g1);rotate_left
 refine sK<|bN<|sn<|rG cx [0,1,7,8] [] (tW 0 (i0+(1:Int)) z0)<|sn<|loop_next (i0+(1:Int)) (by kernel_rfl) (show ((↑c.length:Int)-(i0+(1:Int))).toNat < ((↑c.length:Int)-i0).toNat from (by omega)) (show invI c d (i0+(1:Int)) from ?g2);rotate_left
 refine eX 0<|nE<|nE<|bH<|sn<|sq<|rG cx [4] [] z0<|sn<|rT<|qR (.i .i64 ((-1:Int))) (.eq ?g3);rotate_left
 rotate_left
 revert i0 hh2 hh3 hh4 h5 h6;rotate_left
 revert i0 hh2 hh3 hh4 h5 h6;rotate_left
 revert i0 hh2 hh3 hh4 h5;rotate_left
 case g0=>exact ⟨by omega,by omega,fun j hj=>by omega⟩
 case g1=>exact (fun i h0 h1 h2 h3 h4=>by rw [idx_at (i:=i.toNat) (by omega) h4 (fun j hj=>h2 j (by omega)),show ((i.toNat:Nat):Int)=i by omega])
 case g2=>exact (fun i h0 h1 h2 h3 h4=>⟨by omega,by omega,fun j hj=>by
   by_cases e:j=i.toNat
   ·rw [e];exact h4
   ·exact h2 j (by omega)⟩)
 case g3=>exact (fun i h0 h1 h2 h3=>by rw [idx_no fun j hj=>h2 j (by omega)])
theorem con155 (c:List Span) (d:Dot):Con Tryz.prog 155 [.sl (c.map c104),.fn (.func 156) [] [.eptr (c43 d)]] (.b (decide (0≤idxS c d))) :=
 by
 refine con_lens 0 (c104) (c) (by kernel_rfl) Go.Proofs.Tryz.func155 (by kernel_rfl) fun hl_0=>st_con tab_ok (by kernel_rfl) [.tmp 4] 9 Go.Proofs.Tryz.func155 (by kernel_rfl) (by kernel_rfl) ?_
 intro e0 cx
 refine sq<|rG cx [0,1] [] z0<|sn<|sq<|rG cx [4] [] (fT (con191 (c) (d)) (tB 3 ((0:Int)≤idxS c d) (oA 2 (.i .i64 (idxS c d)) z0)))<|sn<|rT ?_
 exact q_ret (r:=.b (decide ((0:Int)≤idxS c d))) (obl:=[]) (by kernel_rfl) trivial (AVle.refl _)
theorem con115 (p:Past) (d:Dot):Con Tryz.prog 115 [.agg (c26 p),.agg (c43 d)] (.b (hasP p d)) :=
 by
 refine st_con tab_ok (by kernel_rfl) [.tmp 4] 29 Go.Proofs.Tryz.func115 (by kernel_rfl) (by kernel_rfl) ?_
 intro e0 cx
 refine sq<|rG cx [2,3] [2,3] z0<|sn<|sq<|sq<|rG cx [2,3,7] [2,3] (fT (con154 (d)) (tT 2 (told_not:(AV.b !dotB d)=AV.b (decide ¬dotB d=true)) (oA 1 (.b (dotB d)) z0)))<|sn<|dC (¬dotB d=true) (fun h0=>?_) fun h0=>?_
 refine sq<|rG cx [4] [] z0<|sn<|rT<|nR<|qR (.b (false)) (.eq ?g0);rotate_left
 refine sK<|sn<|sq<|sq<|st_join (σ':=⟨[(2,.ptr (2) (0) (0) (0)),(3,.ptr (3) (0) (0) (0)),(24,.b (decide (d.rep < (↑p.vec.length:Int)∧d.num≤p.vec[d.rep.toNat]!)))],[(2,⟨0,26,.var [.sl (List.map c3 p.vec),.sl (List.map c104 p.cloud)]⟩),(3,⟨0,43,.var [.i .i64 (d.rep),.i .i64 (d.num)]⟩)]⟩) ?_ ?_
 refine st_split (d.rep < (↑p.vec.length:Int)) (fun h2=>?_) (fun h2=>?_)
 refine rA cx [2,3,24] [2,3] (tL 4 c3 p.vec (tT 5 (told_true h2) (fP ((0:Int)≤d.rep) ?g1 (fP ((List.map c3 p.vec)[d.rep.toNat]?=some (c3 p.vec[d.rep.toNat]!)) ?g2 (fR (1:Nat) (tB 15 (d.num≤p.vec[d.rep.toNat]!) (tD 16 (decide (d.num≤p.vec[d.rep.toNat]!)) (d.rep < (↑p.vec.length:Int)∧d.num≤p.vec[d.rep.toNat]!) (by simp only [eq_true h2,tsl]) (oR 13 (c3 p.vec[d.rep.toNat]!) z0)))))))) ?_;rotate_left 2
 exact ⟨rfl,by kernel_rfl⟩
 refine rA cx [2,3,24] [2,3] (tL 4 c3 p.vec (tT 5 (told_false h2) (tD 16 false (d.rep < (↑p.vec.length:Int)∧d.num≤p.vec[d.rep.toNat]!) (by simp only [eq_false h2,tsl]) z0))) ?_
 exact ⟨rfl,by kernel_rfl⟩
 refine sn<|dC (d.rep < (↑p.vec.length:Int)∧d.num≤p.vec[d.rep.toNat]!) (fun h3=>?_) fun h3=>?_
 refine sq<|rG cx [4] [] z0<|sn<|rT<|nR<|qR (.b (true)) (.eq ?g3);rotate_left
 refine sK<|sn<|sq<|rG cx [4] [] (fP (Flat (AV.b (decide ((0:Int)≤idxS p.cloud d)))) (by exact Flat.b _) (fT (con155 (p.cloud) (d)) (oV 3 { val:=some (.b (decide ((0:Int)≤idxS p.cloud d))),flat:=true } z0)))<|sn<|rT<|qR (.b (decide ((0:Int)≤idxS p.cloud d))) (.eq ?g4);rotate_left
 revert h0;rotate_left
 revert h0 h2;rotate_left
 revert h0 h2;rotate_left
 revert h0 h3;rotate_left
 revert h0 h3;rotate_left
 case g0=>intro h;unfold hasP;rw [Bool.eq_false_iff.2 h];rfl
 case g1=>intro h h1;exact (dotB_in (Classical.not_not.1 h)).1
 case g2=>intro h h1;have:=(dotB_in (Classical.not_not.1 h)).1;exact get_map (by omega)
 case g3=>intro h h1;unfold hasP;rw [Classical.not_not.1 h,decide_eq_true h1];rfl
 case g4=>intro h h1;unfold hasP;rw [Classical.not_not.1 h,decide_eq_false h1,idx_any];simp
end Go.Proofs.YtaiepnaokhpmcaaGreat
namespace Go.Proofs.YtaiepnaokhpmcaaGreat
open Go.E
set_option maxRecDepth 100000
set_option maxHeartbeats 4000000
def nrmT (T:Nat→List Run) (r:Nat):List Run:=nrm (T r)
theorem inR_cons (r:Run) (R:List Run) (n:Int):inR (r :: R) n↔(r.lo≤n∧n≤r.hi)∨inR R n:=by simp [inR]
theorem nrm_id {l:List Run} (h:sepR l):nrm l=l:=by
 refine sep_unique (nrm_sep l) h fun n=>?_
 rw [nrm_in]
 constructor
 ·exact fun k=>k.2.2
 ·rintro ⟨r,hr,h1,h2⟩
  have:=h.2 r hr
  exact ⟨by omega,by omega,r,hr,h1,h2⟩
theorem lead_nil:leadR []=(0,[]):=rfl
theorem nrm_nrm (l:List Run):nrm (nrm l)=nrm l:=nrm_id (nrm_sep l)
theorem tabP_nrm (T:Nat→List Run):tabP (nrmT T)=tabP T:=by
 have h1:∀ r,leadT (nrmT T) r=leadT T r:=fun r=>by unfold leadT nrmT;rw [nrm_nrm]
 have h2:∀ r,restT (nrmT T) r=restT T r:=fun r=>by unfold restT nrmT;rw [nrm_nrm]
 have h3:∀ n,szT (nrmT T) n=szT T n:=fun n=>by
  induction n with
  | zero=>rfl
  | succ n ih=>rw [szT,szT,h1,ih]
 have h4:∀ n,cloudT (nrmT T) n=cloudT T n:=fun n=>by
  induction n with
  | zero=>rfl
  | succ n ih=>rw [cloudT,cloudT,h2,ih]
 have h5:vecT (nrmT T) 16=vecT T 16:=by
  unfold vecT
  congr 1
  exact List.map_congr_left fun r _=>h1 r
 unfold tabP
 rw [h3,h4,h5]
theorem nrmT_sep (T:Nat→List Run):∀ r:Nat,r < 16→sepR (nrmT T r):=fun r _=>nrm_sep _
theorem lead_in {l : List Run} (h : sepR l) {n : Int} (hn : 1 ≤ n) : inR l n ↔ n ≤ (leadR l).1 ∨ inR (leadR l).2 n := by
  cases l with
  | nil => rw [lead_nil]; simp only [inR]; constructor
           · rintro ⟨r, hr, _⟩; cases hr
           · rintro (k | ⟨r, hr, _⟩)
             · omega
             · cases hr
  | cons x l =>
    rw [inR_cons]
    unfold leadR
    by_cases hx : x.lo = 1
    · rw [if_neg (by simpa using hx)]
      show _ ↔ n ≤ x.hi ∨ inR l n
      constructor
      · rintro (k | k)
        · exact .inl k.2
        · exact .inr k
      · rintro (k | k)
        · exact .inl ⟨by omega, k⟩
        · exact .inr k
    · rw [if_pos (.inr (by simpa using hx))]
      show _ ↔ n ≤ 0 ∨ inR (x :: l) n
      rw [inR_cons]
      constructor
      · exact fun k => .inr k
      · rintro (k | k)
        · omega
        · exact k
theorem sz_spec (T:Nat→List Run):∀ n:Nat,0≤szT T n∧szT T n≤n∧∀ r:Nat,r < n→szT T n≤r→¬ 0 < leadT T r
 | 0=>⟨by simp [szT],by simp [szT],fun r hr=>by omega⟩
 | n+1=>by
  obtain ⟨h1,h2,h3⟩:=sz_spec T n
  rw [szT]
  split
  ·exact ⟨by omega,by omega,fun r hr k=>by omega⟩
  ·rename_i hn
   refine ⟨h1,by omega,fun r hr k=>?_⟩
   by_cases e:r=n
   ·rw [e];exact hn
   ·exact h3 r (by omega) k
theorem cloud_mem (T:Nat→List Run) (s:Span):∀ n:Nat,s∈cloudT T n↔∃ r:Nat,r < n∧s∈restT T r
 | 0=>by simp [cloudT]
 | n+1=>by
  rw [cloudT,List.mem_append,cloud_mem T s n]
  constructor
  ·rintro (⟨r,h1,h2⟩ | h)
   ·exact ⟨r,by omega,h2⟩
   ·exact ⟨n,by omega,h⟩
  ·rintro ⟨r,h1,h2⟩
   by_cases e:r=n
   ·exact .inr (e ▸ h2)
   ·exact .inl ⟨r,by omega,h2⟩
theorem vec_at (T:Nat→List Run) {r:Nat} (h:(r:Int) < szT T 16):(tabP T).vec[r]! = leadT T r∧r < (tabP T).vec.length:=by
 have h2:=(sz_spec T 16).2.1
 have hl:(vecT T 16).length=16:=by simp [vecT]
 have hr:r < ((vecT T 16).take (szT T 16).toNat).length:=by rw [List.length_take,hl];omega
 refine ⟨?_,hr⟩
 show ((vecT T 16).take (szT T 16).toNat)[r]! = _
 rw [getElem!_pos ((vecT T 16).take (szT T 16).toNat) r hr,List.getElem_take]
 unfold vecT
 rw [List.getElem_append_left (by simp;omega)]
 simp
theorem vec_len (T:Nat→List Run):((tabP T).vec.length:Int)=szT T 16:=by
 have h2:=sz_spec T 16
 show (((vecT T 16).take (szT T 16).toNat).length:Int)=_
 rw [List.length_take]
 simp [vecT]
 omega
theorem has_tab (T:Nat→List Run) (d:Dot):hasP (tabP T) d=true↔dotB d=true∧inR (T d.rep.toNat) d.num:=by
 unfold hasP
 rw [Bool.and_eq_true]
 refine and_congr_right fun hd=>?_
 have hb:=dotB_in hd
 have e1:inR (T d.rep.toNat) d.num↔inR (nrm (T d.rep.toNat)) d.num:=by
  rw [nrm_in]
  exact ⟨fun k=>⟨by omega,by omega,k⟩,fun k=>k.2.2⟩
 rw [e1,lead_in (nrm_sep _) (by omega),Bool.or_eq_true,decide_eq_true_eq]
 refine or_congr ?_ ?_
 ·rw [vec_len]
  constructor
  ·rintro ⟨h1,h2⟩
   have:=(vec_at T (r:=d.rep.toNat) (by omega)).1
   rw [this] at h2
   exact h2
  ·intro k
   have k:d.num≤leadT T d.rep.toNat:=k
   have h1:d.rep < szT T 16:=by
    apply Classical.byContradiction
    intro hn
    have:=(sz_spec T 16).2.2 d.rep.toNat (by omega) (by omega)
    omega
   refine ⟨h1,?_⟩
   rw [(vec_at T (r:=d.rep.toNat) (by omega)).1]
   exact k
 ·rw [List.any_eq_true]
  unfold hasS
  constructor
  ·rintro ⟨s,hs,h⟩
   rw [decide_eq_true_eq] at h
   obtain ⟨r,hr,hs⟩:=(cloud_mem T s 16).1 hs
   unfold restT at hs
   obtain ⟨x,hx,rfl⟩:=List.mem_map.1 hs
   simp only at h
   have:r=d.rep.toNat:=by omega
   subst this
   exact ⟨x,hx,h.2.1,h.2.2⟩
  ·rintro ⟨x,hx,h1,h2⟩
   refine ⟨⟨d.rep.toNat,x.lo,x.hi⟩,(cloud_mem T _ 16).2 ⟨d.rep.toNat,by omega,List.mem_map.2 ⟨x,hx,rfl⟩⟩,?_⟩
   rw [decide_eq_true_eq]
   exact ⟨by show ((d.rep.toNat:Nat):Int)=d.rep;omega,h1,h2⟩
theorem inR_app (a b:List Run) (n:Int):inR (a++b) n↔inR a n∨inR b n:=by
 unfold inR
 constructor
 ·rintro ⟨y,hy,h⟩
  rcases List.mem_append.1 hy with hy | hy
  ·exact .inl ⟨y,hy,h⟩
  ·exact .inr ⟨y,hy,h⟩
 ·rintro (⟨y,hy,h⟩ | ⟨y,hy,h⟩)
  ·exact ⟨y,List.mem_append.2 (.inl hy),h⟩
  ·exact ⟨y,List.mem_append.2 (.inr hy),h⟩
theorem vecR_in {p:Past} {d:Dot} (hd:dotB d=true):inR (vecR p.vec d.rep.toNat) d.num↔(d.rep < p.vec.length∧d.num≤p.vec[d.rep.toNat]!):=by
 have hb:=dotB_in hd
 unfold vecR inR
 split
 ·simp only [List.mem_singleton,exists_eq_left]
  constructor
  ·exact fun k=>⟨by omega,k.2⟩
  ·exact fun k=>⟨by omega,k.2⟩
 ·constructor
  ·rintro ⟨r,hr,_⟩;cases hr
  ·rintro ⟨h,_⟩;omega
theorem cloudR_in {p:Past} {d:Dot} (hd:dotB d=true):inR (cloudR p.cloud d.rep.toNat) d.num↔(p.cloud.any fun s=>hasS s d)=true:=by
 have hb:=dotB_in hd
 rw [List.any_eq_true]
 unfold inR cloudR hasS
 constructor
 ·rintro ⟨x,hx,h1,h2⟩
  obtain ⟨s,hs,rfl⟩:=List.mem_map.1 hx
  obtain ⟨hs,hq⟩:=List.mem_filter.1 hs
  rw [decide_eq_true_eq] at hq
  exact ⟨s,hs,by rw [decide_eq_true_eq];exact ⟨by omega,h1,h2⟩⟩
 ·rintro ⟨s,hs,h⟩
  rw [decide_eq_true_eq] at h
  exact ⟨⟨s.lo,s.hi⟩,List.mem_map.2 ⟨s,List.mem_filter.2 ⟨hs,by rw [decide_eq_true_eq];omega⟩,rfl⟩,h.2.1,h.2.2⟩
theorem has_in (p:Past) (d:Dot):hasP p d=true↔dotB d=true∧(inR (vecR p.vec d.rep.toNat) d.num∨inR (cloudR p.cloud d.rep.toNat) d.num):=by
 unfold hasP
 rw [Bool.and_eq_true]
 refine and_congr_right fun hd=>?_
 rw [vecR_in hd,cloudR_in hd,Bool.or_eq_true,decide_eq_true_eq]
theorem has_open (ps:List Past) (d:Dot):hasP (tabP (openT ps)) d=true↔∃ p∈ps,hasP p d=true:=by
 rw [has_tab]
 have e:inR (openT ps d.rep.toNat) d.num↔∃ p∈ps,inR (vecR p.vec d.rep.toNat++cloudR p.cloud d.rep.toNat) d.num:=by
  unfold inR openT
  constructor
  ·rintro ⟨r,hr,h⟩
   obtain ⟨l,hl,hr⟩:=List.mem_flatten.1 hr
   obtain ⟨p,hp,rfl⟩:=List.mem_map.1 hl
   exact ⟨p,hp,r,hr,h⟩
  ·rintro ⟨p,hp,r,hr,h⟩
   exact ⟨r,List.mem_flatten.2 ⟨_,List.mem_map.2 ⟨p,hp,rfl⟩,hr⟩,h⟩
 rw [e]
 constructor
 ·rintro ⟨hd,p,hp,h⟩
  rw [inR_app] at h
  exact ⟨p,hp,(has_in p d).2 ⟨hd,h⟩⟩
 ·rintro ⟨p,hp,h⟩
  have:=(has_in p d).1 h
  exact ⟨this.1,p,hp,(inR_app _ _ _).2 this.2⟩
theorem has_norm (p:Past) (d:Dot):hasP (normP p) d=hasP p d:=by
 rw [Bool.eq_iff_iff]
 unfold normP
 rw [has_open]
 simp
theorem tab_ext {T U:Nat→List Run} (h:∀ d,hasP (tabP T) d=true↔hasP (tabP U) d=true):tabP T=tabP U:=by
 rw [← tabP_nrm T,← tabP_nrm U]
 refine tabP_congr fun r hr=>?_
 refine sep_unique (nrm_sep _) (nrm_sep _) fun n=>?_
 show inR (nrm _) n↔inR (nrm _) n
 rw [nrm_in,nrm_in]
 refine and_congr_right fun n0=>and_congr_right fun n1=>?_
 have hd:dotB ⟨r,n⟩=true:=by unfold dotB;rw [decide_eq_true_eq];simp only;omega
 have:=h ⟨r,n⟩
 rw [has_tab,has_tab] at this
 simp only [hd,true_and] at this
 exact this
theorem norm_tab (T:Nat→List Run):normP (tabP T)=tabP T:=tab_ext fun d=>by
 have:=has_norm (tabP T) d
 unfold normP at this
 rw [this]
theorem tabP_len (T:Nat→List Run):(tabP T).cloud.length≤8000000000∧(tabP T).vec.length≤16:=by
 have h1:=cloud_len T 16
 have h2:=vec_len T
 have h3:=(sz_spec T 16).2.1
 exact ⟨by show (cloudT T 16).length≤_;omega,by omega⟩
end Go.Proofs.YtaiepnaokhpmcaaGreat
namespace Go.Proofs.YtaiepnaokhpmcaaGreat
open Go.E
set_option maxRecDepth 100000
set_option maxHeartbeats 4000000
def meetL:List Run→List Run→List Run
 | x :: a,y :: b=>(if max x.lo y.lo≤min x.hi y.hi then [⟨max x.lo y.lo,min x.hi y.hi⟩] else [])++(if x.hi < y.hi then meetL a (y :: b) else meetL (x :: a) b)
 | _,_=>[]
termination_by a b=>a.length+b.length
theorem meetL_nil (b:List Run):meetL [] b=[]:=by unfold meetL;rfl
theorem meetL_nil2 (a:List Run):meetL a []=[]:=by unfold meetL;cases a <;> rfl
theorem meetL_cons (x y:Run) (a b:List Run):meetL (x :: a) (y :: b)=(if max x.lo y.lo≤min x.hi y.hi then [⟨max x.lo y.lo,min x.hi y.hi⟩] else [])++(if x.hi < y.hi then meetL a (y :: b) else meetL (x :: a) b):=by rw [meetL]
def othL:Int→List Run→List Run
 | n,[]=>if n≤1000000000 then [⟨n,1000000000⟩] else []
 | n,r :: l=>(if n < r.lo then [⟨n,r.lo-1⟩] else [])++othL (r.hi+1) l
def minR (a b:List Run):List Run:=meetL (nrm a) (nrm (othL 1 (nrm b)))
def metR (a b:List Run):List Run:=meetL (nrm a) (nrm b)
theorem sepR_tail {x:Run} {a:List Run} (h:sepR (x :: a)):sepR a:=⟨(List.pairwise_cons.1 h.1).2,fun r hr=>h.2 r (by simp [hr])⟩
theorem sepR_lt {x:Run} {a:List Run} (h:sepR (x :: a)) {n:Int} (k:inR a n):x.hi+1 < n:=by
 obtain ⟨r,hr,h1,_⟩:=k
 have:=(List.pairwise_cons.1 h.1).1 r hr
 omega
theorem inR_if (c:Prop) [Decidable c] (r:Run) (n:Int):inR (if c then [r] else []) n↔c∧r.lo≤n∧n≤r.hi:=by
 split <;> simp [inR, *]
theorem meetL_in:∀ (k:Nat) (a b:List Run),a.length+b.length≤k→sepR a→sepR b→∀ n,inR (meetL a b) n↔inR a n∧inR b n:=by
 intro k
 induction k with
 | zero =>
  intro a b hk _ _ n
  have:a=[]:=List.eq_nil_of_length_eq_zero (by omega)
  subst this
  rw [meetL_nil]
  simp [inR]
 | succ k ih =>
  intro a b hk ha hb n
  cases a with
  | nil=>rw [meetL_nil];simp [inR]
  | cons x a =>
   cases b with
   | nil=>rw [meetL_nil2];simp [inR]
   | cons y b =>
    have hx:=ha.2 x (by simp)
    have hy:=hb.2 y (by simp)
    have la:inR a n→x.hi+1 < n:=sepR_lt ha
    have lb:inR b n→y.hi+1 < n:=sepR_lt hb
    simp only [List.length_cons] at hk
    rw [meetL_cons,inR_app,inR_if]
    split
    ·rw [ih a (y :: b) (by simp only [List.length_cons];omega) (sepR_tail ha) hb n,inR_cons,inR_cons]
     simp only
     constructor
     ·rintro (h | ⟨h1,h2⟩)
      ·exact ⟨.inl (by omega),.inl (by omega)⟩
      ·exact ⟨.inr h1,h2⟩
     ·rintro ⟨h1 | h1,h2 | h2⟩
      ·exact .inl (by omega)
      ·have:=lb h2;omega
      ·exact .inr ⟨h1,.inl h2⟩
      ·exact .inr ⟨h1,.inr h2⟩
    ·rw [ih (x :: a) b (by simp only [List.length_cons];omega) ha (sepR_tail hb) n,inR_cons,inR_cons]
     simp only
     constructor
     ·rintro (h | ⟨h1,h2⟩)
      ·exact ⟨.inl (by omega),.inl (by omega)⟩
      ·exact ⟨h1,.inr h2⟩
     ·rintro ⟨h1 | h1,h2 | h2⟩
      ·exact .inl (by omega)
      ·exact .inr ⟨.inl h1,h2⟩
      ·have:=la h1;omega
      ·exact .inr ⟨.inr h1,h2⟩
theorem meetL_sub:∀ (k:Nat) (a b:List Run),a.length+b.length≤k→∀ r∈meetL a b,r.lo≤r.hi∧(∃ x∈a,x.lo≤r.lo∧r.hi≤x.hi)∧∃ y∈b,y.lo≤r.lo∧r.hi≤y.hi:=by
 intro k
 induction k with
 | zero =>
  intro a b hk r hr
  have:a=[]:=List.eq_nil_of_length_eq_zero (by omega)
  subst this
  rw [meetL_nil] at hr
  cases hr
 | succ k ih =>
  intro a b hk r hr
  cases a with
  | nil=>rw [meetL_nil] at hr;cases hr
  | cons x a =>
   cases b with
   | nil=>rw [meetL_nil2] at hr;cases hr
   | cons y b =>
    simp only [List.length_cons] at hk
    rw [meetL_cons] at hr
    rcases List.mem_append.1 hr with hr | hr
    ·split at hr
     ·have:r=⟨max x.lo y.lo,min x.hi y.hi⟩:=by simpa using hr
      subst this
      exact ⟨by simp only;omega,⟨x,by simp,by simp only;omega,by simp only;omega⟩,⟨y,by simp,by simp only;omega,by simp only;omega⟩⟩
     ·cases hr
    ·split at hr
     ·obtain ⟨h0,⟨x',hx,h1⟩,h2⟩:=ih a (y :: b) (by simp only [List.length_cons];omega) r hr
      exact ⟨h0,⟨x',by simp [hx],h1⟩,h2⟩
     ·obtain ⟨h0,h1,⟨y',hy,h2⟩⟩:=ih (x :: a) b (by simp only [List.length_cons];omega) r hr
      exact ⟨h0,h1,⟨y',by simp [hy],h2⟩⟩
theorem meetL_sep:∀ (k:Nat) (a b:List Run),a.length+b.length≤k→sepR a→sepR b→sepR (meetL a b):=by
 intro k
 induction k with
 | zero =>
  intro a b hk _ _
  have:a=[]:=List.eq_nil_of_length_eq_zero (by omega)
  subst this
  rw [meetL_nil]
  exact sepR_nil
 | succ k ih =>
  intro a b hk ha hb
  cases a with
  | nil=>rw [meetL_nil];exact sepR_nil
  | cons x a =>
   cases b with
   | nil=>rw [meetL_nil2];exact sepR_nil
   | cons y b =>
    simp only [List.length_cons] at hk
    have hx:=ha.2 x (by simp)
    have hy:=hb.2 y (by simp)
    have pa:=(List.pairwise_cons.1 ha.1).1
    have pb:=(List.pairwise_cons.1 hb.1).1
    rw [meetL_cons]
    have key:∀ m:List Run,sepR m→(∀ r∈m,min x.hi y.hi+1 < r.lo)→sepR ((if max x.lo y.lo≤min x.hi y.hi then [(⟨max x.lo y.lo,min x.hi y.hi⟩:Run)] else [])++m):=by
     intro m hm hlt
     split
     ·refine ⟨List.pairwise_append.2 ⟨by simp,hm.1,fun u hu v hv=>?_⟩,fun r hr=>?_⟩
      ·have:u=⟨max x.lo y.lo,min x.hi y.hi⟩:=by simpa using hu
       subst this
       exact hlt v hv
      ·rcases List.mem_append.1 hr with hr | hr
       ·have:r=⟨max x.lo y.lo,min x.hi y.hi⟩:=by simpa using hr
        subst this
        simp only
        omega
       ·exact hm.2 r hr
     ·exact hm
    by_cases hd:x.hi < y.hi
    ·rw [if_pos hd]
     refine key _ (ih a (y :: b) (by simp only [List.length_cons];omega) (sepR_tail ha) hb) fun r hr=>?_
     obtain ⟨_,⟨x',hx',h1,_⟩,_⟩:=meetL_sub _ a (y :: b) (Nat.le_refl _) r hr
     have:=pa x' hx'
     omega
    ·rw [if_neg hd]
     refine key _ (ih (x :: a) b (by simp only [List.length_cons];omega) ha (sepR_tail hb)) fun r hr=>?_
     obtain ⟨_,_,⟨y',hy',h1,_⟩⟩:=meetL_sub _ (x :: a) b (Nat.le_refl _) r hr
     have:=pb y' hy'
     omega
theorem othL_in : ∀ (l : List Run) (n:Int), sepR l → (∀ r ∈ l, n ≤ r.lo) → ∀ k, inR (othL n l) k ↔ n ≤ k ∧ k ≤ 1000000000 ∧ ¬ inR l k
  | [], n, _, _, k => by
    unfold othL
    rw [inR_if]
    simp only [inR, List.not_mem_nil, false_and, exists_false, not_false_eq_true, and_true]
    omega
  | r :: l, n, h, hn, k => by
    have hr := h.2 r (by simp)
    have h1 := hn r (by simp)
    have pa := (List.pairwise_cons.1 h.1).1
    have ih := othL_in l (r.hi + 1) (sepR_tail h) (fun x hx => by have := pa x hx; omega) k
    have lt : inR l k → r.hi + 1 < k := sepR_lt h
    rw [othL, inR_app, inR_if, ih, inR_cons]
    simp only
    constructor
    · rintro (g | ⟨g1, g2, g3⟩)
      · exact ⟨by omega, by omega, fun c => by rcases c with c | c; · omega
                                               · have := lt c; omega⟩
      · exact ⟨by omega, by omega, fun c => by rcases c with c | c; · omega
                                               · exact g3 c⟩
    · rintro ⟨g1, g2, g3⟩
      by_cases e : k < r.lo
      · exact .inl ⟨by omega, by omega, by omega⟩
      · exact .inr ⟨by apply Classical.byContradiction; intro c; exact g3 (.inl ⟨by omega, by omega⟩), g2, fun c => g3 (.inr c)⟩
theorem othL_lo:∀ (l:List Run) (n:Int),sepR l→(∀ r∈l,n≤r.lo)→∀ r∈othL n l,n≤r.lo∧r.lo≤r.hi∧r.hi≤1000000000
 | [],n,_,_,r,hr=>by
  unfold othL at hr
  split at hr
  ·have:r=⟨n,1000000000⟩:=by simpa using hr
   subst this
   simp only
   omega
  ·cases hr
 | x :: l,n,h,hn,r,hr=>by
  have hx:=h.2 x (by simp)
  have h1:=hn x (by simp)
  have pa:=(List.pairwise_cons.1 h.1).1
  rw [othL] at hr
  rcases List.mem_append.1 hr with hr | hr
  ·split at hr
   ·have:r=⟨n,x.lo-1⟩:=by simpa using hr
    subst this
    simp only
    omega
   ·cases hr
  ·have:=othL_lo l (x.hi+1) (sepR_tail h) (fun y hy=>by have:=pa y hy;omega) r hr
   omega
theorem othL_sep : ∀ (l : List Run) (n:Int), 1 ≤ n → sepR l → (∀ r ∈ l, n ≤ r.lo) → sepR (othL n l)
  | [], n, h1, _, _ => by
    unfold othL
    split
    · exact ⟨by simp, fun r hr => by have : r = ⟨n, 1000000000⟩ := by simpa using hr
                                     subst this; simp only; omega⟩
    · exact sepR_nil
  | x :: l, n, h0, h, hn => by
    have hx := h.2 x (by simp)
    have h1 := hn x (by simp)
    have pa := (List.pairwise_cons.1 h.1).1
    have hp : ∀ r ∈ l, x.hi + 1 ≤ r.lo := fun y hy => by have := pa y hy; omega
    have ih := othL_sep l (x.hi + 1) (by omega) (sepR_tail h) hp
    have lo := othL_lo l (x.hi + 1) (sepR_tail h) hp
    rw [othL]
    split
    · refine ⟨List.pairwise_append.2 ⟨by simp, ih.1, fun u hu v hv => ?_⟩, fun r hr => ?_⟩
      · have : u = ⟨n, x.lo - 1⟩ := by simpa using hu
        subst this
        have := lo v hv
        simp only
        omega
      · rcases List.mem_append.1 hr with hr | hr
        · have : r = ⟨n, x.lo - 1⟩ := by simpa using hr
          subst this
          simp only
          omega
        · exact ih.2 r hr
    · exact ih
theorem oth_sep (b:List Run):sepR (othL 1 (nrm b)):=othL_sep _ _ (Int.le_refl _) (nrm_sep b) fun r hr=>((nrm_sep b).2 r hr).1
theorem minR_sep (a b:List Run):sepR (minR a b):=meetL_sep _ _ _ (Nat.le_refl _) (nrm_sep _) (nrm_sep _)
theorem minR_in (a b:List Run) (n:Int):inR (minR a b) n↔inR (nrm a) n∧¬ inR (nrm b) n:=by
 unfold minR
 rw [meetL_in _ _ _ (Nat.le_refl _) (nrm_sep _) (nrm_sep _) n,nrm_id (oth_sep b),othL_in _ _ (nrm_sep b) (fun r hr=>((nrm_sep b).2 r hr).1)]
 refine and_congr_right fun h=>?_
 rw [nrm_in] at h
 exact ⟨fun k=>k.2.2,fun k=>⟨h.1,h.2.1,k⟩⟩
theorem minR_len (a b:List Run):(minR a b).length≤500000000:=sepR_len (minR_sep a b)
def minusP (a b:Past):Past:=tabP fun r=>minR (openT [a] r) (openT [b] r)
def joinP (ps:List Past):Past:=tabP (openT ps)
theorem has_min (a b:Past) (d:Dot):hasP (minusP a b) d=(hasP a d && !hasP b d):=by
 rw [Bool.eq_iff_iff,minusP,has_tab,minR_in,Bool.and_eq_true,Bool.not_eq_true',← has_norm a d,← has_norm b d]
 unfold normP
 rw [has_tab,← Bool.not_eq_true,has_tab]
 constructor
 ·rintro ⟨h,h1,h2⟩
  have hb:=dotB_in h
  rw [nrm_in] at h1 h2
  exact ⟨⟨h,h1.2.2⟩,fun k=>h2 ⟨by omega,by omega,k.2⟩⟩
 ·rintro ⟨⟨h,h1⟩,h2⟩
  have hb:=dotB_in h
  rw [nrm_in,nrm_in]
  exact ⟨h,⟨by omega,by omega,h1⟩,fun k=>h2 ⟨h,k.2.2⟩⟩
theorem has_join (ps:List Past) (d:Dot):hasP (joinP ps) d=ps.any fun p=>hasP p d:=by
 rw [Bool.eq_iff_iff,joinP,has_open,List.any_eq_true]
theorem minus_form (a b:Past):minusP a b=normP (minusP a b):=(norm_tab _).symm
theorem join_form (ps:List Past):joinP ps=normP (joinP ps):=(norm_tab _).symm
end Go.Proofs.YtaiepnaokhpmcaaGreat
namespace Go.Proofs.YtaiepnaokhpmcaaGreat
open Go.E
set_option maxRecDepth 100000
set_option maxHeartbeats 4000000
def cmpI (a b:Int):Int:=if a < b then -1 else if b < a then 1 else 0
def cmpF (u v:List Int):Nat→Nat→Int
 | _,0=>0
 | r,k+1=>if u[r]! = v[r]! then cmpF u v (r+1) k else cmpI u[r]! v[r]!
def cmpS (s t:Span):Int:=if cmpI s.rep t.rep≠0 then cmpI s.rep t.rep else if cmpI s.lo t.lo≠0 then cmpI s.lo t.lo else cmpI s.hi t.hi
def cmpC:List Span→List Span→Int
 | [],[]=>0
 | [],_ :: _=>-1
 | _ :: _,[]=>1
 | s :: a,t :: b=>if cmpS s t≠0 then cmpS s t else cmpC a b
def cmpQ (x y:Past):Int:=if cmpF x.vec y.vec 0 16≠0 then cmpF x.vec y.vec 0 16 else cmpC x.cloud y.cloud
def cmpP (p q:Past):Int:=cmpQ (normP p) (normP q)
structure Ord3 {α:Type} (c:α→α→Int):Prop where
 rng:∀ x y,c x y=-1∨c x y=0∨c x y=1
 neg:∀ x y,c y x=-(c x y)
 tr:∀ x y z,c x y≤0→c y z≤0→c x z≤0
 tr0:∀ x y z,c x y=0→c y z=0→c x z=0
theorem Ord3.lt {α:Type} {c:α→α→Int} (h:Ord3 c) {x y z:α} (h1:c x y < 0) (h2:c y z≤0):c x z < 0:=by
 have h3:=h.tr x y z (by omega) h2
 apply Classical.byContradiction
 intro h4
 have h5:c x z=0:=by omega
 have h6:c z x=0:=by rw [h.neg x z];omega
 have h7:=h.tr y z x h2 (by omega)
 have:=h.neg x y
 omega
theorem Ord3.lt' {α:Type} {c:α→α→Int} (h:Ord3 c) {x y z:α} (h1:c x y≤0) (h2:c y z < 0):c x z < 0:=by
 have h3:=h.tr x y z h1 (by omega)
 apply Classical.byContradiction
 intro h4
 have h5:c x z=0:=by omega
 have h6:c z x=0:=by rw [h.neg x z];omega
 have h7:=h.tr z x y (by omega) h1
 have:=h.neg y z
 omega
theorem ordI:Ord3 cmpI:=by
 refine ⟨fun x y=>?_,fun x y=>?_,fun x y z=>?_,fun x y z=>?_⟩ <;> unfold cmpI <;> (repeat' split) <;> omega
theorem ord_then {α β γ:Type} {c:β→β→Int} {d:γ→γ→Int} (hc:Ord3 c) (hd:Ord3 d) (f:α→β) (g:α→γ):Ord3 (fun x y=>if c (f x) (f y)≠0 then c (f x) (f y) else d (g x) (g y)):=by
 refine ⟨fun x y=>?_,fun x y=>?_,fun x y z=>?_,fun x y z=>?_⟩
 ·split
  ·exact hc.rng _ _
  ·exact hd.rng _ _
 ·have h1:=hc.neg (f x) (f y)
  have h2:=hd.neg (g x) (g y)
  split <;> split <;> omega
 ·intro h1 h2
  have b1:=hc.neg (f x) (f y)
  by_cases e1:c (f x) (f y)=0
  ·rw [if_neg (by simpa using e1)] at h1
   by_cases e2:c (f y) (f z)=0
   ·rw [if_neg (by simpa using e2)] at h2
    rw [if_neg (by simpa using hc.tr0 _ _ _ e1 e2)]
    exact hd.tr _ _ _ h1 h2
   ·rw [if_pos e2] at h2
    have:=hc.lt' (x:=f x) (y:=f y) (z:=f z) (by omega) (by omega)
    rw [if_pos (by omega)]
    omega
  ·rw [if_pos e1] at h1
   have h2':c (f y) (f z)≤0:=by
    by_cases e2:c (f y) (f z)=0
    ·omega
    ·rw [if_pos e2] at h2;exact h2
   have:=hc.lt (x:=f x) (y:=f y) (z:=f z) (by omega) h2'
   rw [if_pos (by omega)]
   omega
 ·intro h1 h2
  have e1:c (f x) (f y)=0:=by
   apply Classical.byContradiction
   intro e
   rw [if_pos e] at h1
   exact e h1
  have e2:c (f y) (f z)=0:=by
   apply Classical.byContradiction
   intro e
   rw [if_pos e] at h2
   exact e h2
  rw [if_neg (by simpa using e1)] at h1
  rw [if_neg (by simpa using e2)] at h2
  rw [if_neg (by simpa using hc.tr0 _ _ _ e1 e2)]
  exact hd.tr0 _ _ _ h1 h2
theorem cmpI_zero {a b:Int}:cmpI a b=0↔a=b:=by unfold cmpI;split <;> (try split) <;> omega
theorem ordF (k:Nat):∀ r:Nat,Ord3 fun u v:List Int=>cmpF u v r k:=by
 induction k with
 | zero=>exact fun r=>⟨fun _ _=>.inr (.inl rfl),fun _ _=>rfl,fun _ _ _ _ _=>Int.le_refl _,fun _ _ _ _ _=>rfl⟩
 | succ k ih =>
  intro r
  have h:=ord_then ordI (ih (r+1)) (fun u:List Int=>u[r]!) (fun u=>u)
  have e:(fun u v:List Int=>cmpF u v r (k+1))=fun u v=>if cmpI u[r]! v[r]!≠0 then cmpI u[r]! v[r]! else cmpF u v (r+1) k:=by
   funext u v
   rw [cmpF]
   by_cases e:u[r]! = v[r]!
   ·rw [if_pos e,if_neg (by rw [cmpI_zero.2 e];simp)]
   ·rw [if_neg e,if_pos (fun k=>e (cmpI_zero.1 k))]
  rw [e]
  exact h
theorem ordS:Ord3 cmpS:=ord_then ordI (ord_then ordI ordI (fun s:Span=>s.lo) (fun s:Span=>s.hi)) (fun s:Span=>s.rep) (fun s=>s)
theorem ordC:Ord3 cmpC:=by
 refine ⟨fun x=>?_,fun x=>?_,fun x=>?_,fun x=>?_⟩
 ·induction x with
  | nil=>intro y;cases y <;> simp [cmpC]
  | cons s a ih =>
   intro y
   cases y with
   | nil=>simp [cmpC]
   | cons t b =>
    rw [cmpC]
    split
    ·exact ordS.rng _ _
    ·exact ih b
 ·induction x with
  | nil=>intro y;cases y <;> simp [cmpC]
  | cons s a ih =>
   intro y
   cases y with
   | nil=>simp [cmpC]
   | cons t b =>
    rw [cmpC,cmpC]
    have h1:=ordS.neg s t
    have h2:=ih b
    split <;> split <;> omega
 ·induction x with
  | nil=>intro y z _ _;cases z <;> simp [cmpC]
  | cons s a ih =>
   intro y z h1 h2
   cases y with
   | nil=>simp [cmpC] at h1
   | cons t b =>
    cases z with
    | nil=>simp [cmpC] at h2
    | cons r d =>
     rw [cmpC] at h1 h2 ⊢
     by_cases e1:cmpS s t=0
     ·rw [if_neg (by simpa using e1)] at h1
      by_cases e2:cmpS t r=0
      ·rw [if_neg (by simpa using e2)] at h2
       rw [if_neg (by simpa using ordS.tr0 _ _ _ e1 e2)]
       exact ih b d h1 h2
      ·rw [if_pos e2] at h2
       have:=ordS.lt' (x:=s) (y:=t) (z:=r) (by omega) (by omega)
       rw [if_pos (by omega)]
       omega
     ·rw [if_pos e1] at h1
      have h2':cmpS t r≤0:=by
       by_cases e2:cmpS t r=0
       ·omega
       ·rw [if_pos e2] at h2;exact h2
      have:=ordS.lt (x:=s) (y:=t) (z:=r) (by omega) h2'
      rw [if_pos (by omega)]
      omega
 ·induction x with
  | nil =>
   intro y z h1 h2
   cases y with
   | nil=>exact h2
   | cons t b=>simp [cmpC] at h1
  | cons s a ih =>
   intro y z h1 h2
   cases y with
   | nil=>simp [cmpC] at h1
   | cons t b =>
    cases z with
    | nil=>simp [cmpC] at h2
    | cons r d =>
     rw [cmpC] at h1 h2 ⊢
     have e1:cmpS s t=0:=by
      apply Classical.byContradiction
      intro e
      rw [if_pos e] at h1
      exact e h1
     have e2:cmpS t r=0:=by
      apply Classical.byContradiction
      intro e
      rw [if_pos e] at h2
      exact e h2
     rw [if_neg (by simpa using e1)] at h1
     rw [if_neg (by simpa using e2)] at h2
     rw [if_neg (by simpa using ordS.tr0 _ _ _ e1 e2)]
     exact ih b d h1 h2
theorem ordQ:Ord3 cmpQ:=ord_then (ordF 16 0) ordC (fun p:Past=>p.vec) (fun p=>p.cloud)
theorem ordP:Ord3 cmpP:=⟨fun _ _=>ordQ.rng _ _,fun _ _=>ordQ.neg _ _,fun _ _ _=>ordQ.tr _ _ _,fun _ _ _=>ordQ.tr0 _ _ _⟩
end Go.Proofs.YtaiepnaokhpmcaaGreat
namespace Go.Proofs.YtaiepnaokhpmcaaGreat
open Go.E
set_option maxRecDepth 100000
set_option maxHeartbeats 4000000
def orI (v:List Int):Int:=(v.find? fun x=>decide (¬ x=0)).getD 0
def invOr (v:List Int) (i:Int):Prop:=0≤i∧i≤v.length∧∀ j:Nat,(j:Int) < i→v[j]! = 0
def decOr (v:List Int) (i:Int):Nat:=(v.length-i).toNat
theorem or_at {v:List Int}:∀ {i:Nat},i < v.length→¬ v[i]! = 0→(∀ j:Nat,j < i→v[j]! = 0)→orI v=v[i]!:=by
 intro i hi h hn
 unfold orI
 have:v.find? (fun x=>decide (¬ x=0))=some v[i]!:=by
  rw [getElem!_pos v i hi] at h ⊢
  rw [List.find?_eq_some_iff_getElem]
  refine ⟨by simpa using h,i,hi,rfl,fun j hj=>?_⟩
  have:=hn j hj
  rw [getElem!_pos v j (by omega)] at this
  simpa using this
 rw [this];rfl
theorem or_no {v:List Int} (h:∀ j:Nat,j < v.length→v[j]! = 0):orI v=0:=by
 unfold orI
 rw [List.find?_eq_none.2]
 ·rfl
 ·intro x hx
  obtain ⟨j,hj,rfl⟩:=List.mem_iff_getElem.1 hx
  have:=h j hj
  rw [getElem!_pos v j hj] at this
  simpa using this
theorem or_three (s t:Span):orI [cmpI s.rep t.rep,cmpI s.lo t.lo,cmpI s.hi t.hi]=cmpS s t:=by
 unfold orI cmpS
 by_cases h1:cmpI s.rep t.rep=0
 ·by_cases h2:cmpI s.lo t.lo=0
  ·by_cases h3:cmpI s.hi t.hi=0 <;> simp [h1,h2,h3]
  ·simp [h1,h2]
 ·simp [h1]
def invCf (a b:List Span) (i:Int):Prop:=0≤i∧i≤a.length∧i≤b.length∧cmpC a b=cmpC (a.drop i.toNat) (b.drop i.toNat)
def decCf (a b:List Span) (i:Int):Nat:=(a.length-i).toNat
theorem dropS {a:List Span} {i:Int} (h0:0≤i) (h:i < a.length):a.drop i.toNat=a[i.toNat]! :: a.drop (i+1).toNat:=by
 rw [show (i+1).toNat=i.toNat+1 by omega,getElem!_pos a i.toNat (by omega)]
 exact List.drop_eq_getElem_cons (by omega)
theorem dropN {a:List Span} {i:Int} (h:¬ i < a.length):a.drop i.toNat=[]:=List.drop_of_length_le (by omega)
theorem cc_more {a b:List Span} {i:Int} (h0:0≤i) (ha:i < a.length) (hb:¬ i < b.length) (h:cmpC a b=cmpC (a.drop i.toNat) (b.drop i.toNat)):cmpC a b=1:=by
 rw [h,dropS h0 ha,dropN hb];rfl
theorem cc_less {a b:List Span} {i:Int} (h0:0≤i) (ha:¬ i < a.length) (hb:i < b.length) (h:cmpC a b=cmpC (a.drop i.toNat) (b.drop i.toNat)):cmpC a b=-1:=by
 rw [h,dropS h0 hb,dropN ha];rfl
theorem cc_same {a b:List Span} {i:Int} (ha:¬ i < a.length) (hb:¬ i < b.length) (h:cmpC a b=cmpC (a.drop i.toNat) (b.drop i.toNat)):cmpC a b=0:=by
 rw [h,dropN hb,dropN ha];rfl
theorem cc_diff {a b:List Span} {i:Int} (h0:0≤i) (ha:i < a.length) (hb:i < b.length) (hd:¬ cmpS a[i.toNat]! b[i.toNat]! = 0) (h:cmpC a b=cmpC (a.drop i.toNat) (b.drop i.toNat)):cmpC a b=cmpS a[i.toNat]! b[i.toNat]!:=by
 rw [h,dropS h0 ha,dropS h0 hb,cmpC,if_pos hd]
theorem cc_next {a b:List Span} {i:Int} (h0:0≤i) (ha:i < a.length) (hb:i < b.length) (hd:cmpS a[i.toNat]! b[i.toNat]! = 0) (h:cmpC a b=cmpC (a.drop i.toNat) (b.drop i.toNat)):invCf a b (i+1):=by
 refine ⟨by omega,by omega,by omega,?_⟩
 rw [h,dropS h0 ha,dropS h0 hb,cmpC,if_neg (by simpa using hd)]
def isCF (u v:List Int) (r:Int):Prop:=cmpF u v 0 16=cmpF u v r.toNat (16-r).toNat
def invCq (x y:Past) (r:Int) (u:List Int) (c:List Span) (v:List Int) (d:List Span):Prop:=u=x.vec∧c=x.cloud∧v=y.vec∧d=y.cloud∧0≤r∧r≤16∧isCF x.vec y.vec r
def decCq (r:Int) (u:List Int) (c:List Span) (v:List Int) (d:List Span):Nat:=(16-r).toNat
def invCp (u v:List Int) (r:Int):Prop:=0≤r∧r≤16∧isCF u v r
theorem bang_no {u:List Int} {r:Int} (h0:0≤r) (h:¬ r < u.length):u[r.toNat]! = 0:=by
 rw [getElem!_def,List.getElem?_eq_none (by omega)];rfl
theorem cf_step {u v:List Int} {r:Int} (h0:0≤r) (h1:r < 16) (h:isCF u v r):cmpF u v 0 16=if u[r.toNat]! = v[r.toNat]! then cmpF u v (r+1).toNat (16-(r+1)).toNat else cmpI u[r.toNat]! v[r.toNat]!:=by
 unfold isCF at h
 rw [h,show (16-r).toNat=(16-(r+1)).toNat+1 by omega,cmpF,show r.toNat+1=(r+1).toNat by omega]
theorem cf_diff {u v:List Int} {r:Int} (h0:0≤r) (h1:r < 16) (hd:¬ u[r.toNat]! = v[r.toNat]!) (h:isCF u v r):cmpF u v 0 16=cmpI u[r.toNat]! v[r.toNat]!:=by rw [cf_step h0 h1 h,if_neg hd]
theorem cf_next {u v:List Int} {r:Int} (h0:0≤r) (h1:r < 16) (hd:u[r.toNat]! = v[r.toNat]!) (h:isCF u v r):invCp u v (r+1):=by
 refine ⟨by omega,by omega,?_⟩
 unfold isCF
 rw [cf_step h0 h1 h,if_pos hd]
theorem cf_end {u v:List Int} {r:Int} (h1:r≤16) (hn:¬ r < 16) (h:isCF u v r):cmpF u v 0 16=0:=by
 unfold isCF at h
 rw [h,show (16-r).toNat=0 by omega];rfl
theorem cp_vec {p q:Past} {x:Int} (h:cmpF (normP p).vec (normP q).vec 0 16=x) (hx:¬ x=0):cmpP p q=x:=by
 unfold cmpP cmpQ
 rw [if_pos (by rw [h];exact hx),h]
theorem cp_cloud {p q:Past} (h:cmpF (normP p).vec (normP q).vec 0 16=0):cmpP p q=cmpC (normP p).cloud (normP q).cloud:=by
 unfold cmpP cmpQ
 rw [if_neg (by rw [h];simp)]
theorem cmpI_ne {a b:Int} (h:¬ a=b):¬ cmpI a b=0:=fun k=>h (cmpI_zero.1 k)
theorem con210 (x:Int):Con Tryz.prog 210 [.i .i64 x] (.b false) :=
 by
 refine st_con tab_ok (by kernel_rfl) [.tmp 2] 6 Go.Proofs.Tryz.func210 (by kernel_rfl) (by kernel_rfl) ?_
 intro e0 cx
 refine sq<|rG cx [0] [] z0<|sn<|sq<|rG cx [2] [] (tT 2 (told_ins:AV.b (x != x)=AV.b false) z0)<|sn<|rT ?_
 exact q_ret (r:=.b (false)) (obl:=[]) (by kernel_rfl) trivial (AVle.refl _)
theorem con187 (a b:Int):Con Tryz.prog 187 [.i .i64 a,.i .i64 b] (.i .i64 (cmpI a b)) :=
 by
 refine st_con tab_ok (by kernel_rfl) [.tmp 4] 20 Go.Proofs.Tryz.func187 (by kernel_rfl) (by kernel_rfl) ?_
 intro e0 cx
 refine sq<|rG cx [0,1] [] z0<|sn<|sq<|rG cx [0,1,5] [] (fT (con210 (a)) (oA 1 (.b (false)) z0))<|sn<|sq<|rG cx [0,1,5,6] [] (fT (con210 (b)) (oA 1 (.b (false)) z0))<|sn<|sq<|sq<|rG cx [0,1,6,11] [] z0<|sn<|st_false (by kernel_rfl) (by kernel_rfl)<|sK<|sn<|sq<|sq<|rG cx [0,1,13] [] z0<|sn<|st_false (by kernel_rfl) (by kernel_rfl)<|sK<|sn<|sq<|sq<|rG cx [0,1,16] [] (tB 2 (a < b) z0)<|sn<|dC (a < b) (fun h0=>?_) fun h0=>?_
 refine sq<|rG cx [4] [] z0<|sn<|rT<|nR<|qR (.i .i64 ((-1:Int))) (.eq ?g0);rotate_left
 refine sK<|sn<|sq<|sq<|rG cx [19] [] (tB 2 (b < a) z0)<|sn<|dC (b < a) (fun h1=>?_) fun h1=>?_
 refine sq<|rG cx [4] [] z0<|sn<|rT<|nR<|qR (.i .i64 ((1:Int))) (.eq ?g1);rotate_left
 refine sK<|sn<|sq<|rG cx [4] [] z0<|sn<|rT<|qR (.i .i64 ((0:Int))) (.eq ?g2);rotate_left
 revert h0;rotate_left
 revert h0 h1;rotate_left
 revert h0 h1;rotate_left
 case g0=>intro h;unfold cmpI;rw [if_pos h]
 case g1=>intro h k;unfold cmpI;rw [if_neg h,if_pos k]
 case g2=>intro h k;unfold cmpI;rw [if_neg h,if_neg k]
theorem con190 (v:List Int):Con Tryz.prog 190 [.sl (v.map c3)] (.i .i64 (orI v)) :=
 by
 refine con_lens 0 (c3) (v) (by kernel_rfl) Go.Proofs.Tryz.func190 (by kernel_rfl) fun hl_0=>st_con tab_ok (by kernel_rfl) [.tmp 2] 18 Go.Proofs.Tryz.func190 (by kernel_rfl) (by kernel_rfl) ?_
 intro e0 cx
 refine sq<|rG cx [0] [] z0<|sn<|sq<|rG cx [0,3] [] z0<|sn<|sq<|sq<|rG cx [3,6,7,8] [] (tL 1 c3 v z0)<|sn<|bL 0<|st_loop (X:=Int) (fun x=>⟨[(3,.i .i64 ((0:Int))),(6,.sl (List.map c3 v)),(7,.i .i64 ((↑v.length:Int))),(8,.i .i64 (x))],[]⟩) (fun x ↦ decOr v x) (fun x ↦ invOr v x) [3,6,7,8] [] ((0:Int)) (by kernel_rfl) (by kernel_rfl) (show invOr v (0:Int) from ?g0) ?_;rotate_left
 intro i0 h_1
 obtain ⟨hh2,hh3,hh4⟩:(0:Int)≤i0∧i0≤(↑v.length:Int)∧∀ (j:Nat),(↑j:Int) < i0→v[j]! = (0:Int):=h_1
 refine sq<|rG cx [3,6,7,8,9] [] (tB 0 (i0 < (↑v.length:Int)) z0)<|sn<|sq<|dC (i0 < (↑v.length:Int)) (fun h5=>?_) fun h5=>?_
 refine sK<|sn<|sq<|bL 1<|sq<|rG cx [3,6,7,8,5] [] (fA ((0:Int)≤i0) (fG c3 v i0.toNat (fR (1:Nat) (oR 0 (c3 v[i0.toNat]!) z0))))<|sn<|sq<|rG cx [3,6,7,8,5,14] [] (tN 2 v[i0.toNat]! (0:Int) z0)<|sn<|dC (¬v[i0.toNat]! = (0:Int)) (fun h6=>?_) fun h6=>?_
 refine sq<|rG cx [2] [] z0<|sn<|rT<|bR<|nR<|nR<|bR<|nR<|qR (.i .i64 (v[i0.toNat]!)) (.eq ?g1);rotate_left
 refine sK<|bN<|sn<|rG cx [3,6,7,8] [] (tW 0 (i0+(1:Int)) z0)<|sn<|loop_next (i0+(1:Int)) (by kernel_rfl) (show ((↑v.length:Int)-(i0+(1:Int))).toNat < ((↑v.length:Int)-i0).toNat from (by omega)) (show invOr v (i0+(1:Int)) from ?g2);rotate_left
 refine eX 0<|nE<|nE<|bH<|sn<|sq<|rG cx [2] [] z0<|sn<|rT<|qR (.i .i64 ((0:Int))) (.eq ?g3);rotate_left
 rotate_left
 revert i0 hh2 hh3 hh4 h5 h6;rotate_left
 revert i0 hh2 hh3 hh4 h5 h6;rotate_left
 revert i0 hh2 hh3 hh4 h5;rotate_left
 case g0=>exact ⟨by omega,by omega,fun j hj=>by omega⟩
 case g1=>intro i h0 h1 h2 h3 h4;rw [or_at (i:=i.toNat) (by omega) h4 (fun j hj=>h2 j (by omega))]
 case g2 =>
  intro i h0 h1 h2 h3 h4
  exact ⟨by omega,by omega,fun j hj=>by
   by_cases e:j=i.toNat
   ·rw [e];exact Classical.not_not.1 h4
   ·exact h2 j (by omega)⟩
 case g3=>intro i h0 h1 h2 h3;rw [or_no fun j hj=>h2 j (by omega)]
theorem con189 (s t:Span):Con Tryz.prog 189 [.agg (c104 s),.agg (c104 t)] (.i .i64 (cmpS s t)) :=
 by
 refine st_con tab_ok (by kernel_rfl) [.tmp 4] 22 Go.Proofs.Tryz.func189 (by kernel_rfl) (by kernel_rfl) ?_
 intro e0 cx
 refine sq<|rG cx [2,3] [2,3] z0<|sn<|sq<|rA cx [4] [] (fT (con187 (s.rep) (t.rep)) (fT (con187 (s.lo) (t.lo)) (fT (con187 (s.hi) (t.hi)) (fP (Flat (AV.i .i64 (orI [cmpI s.rep t.rep,cmpI s.lo t.lo,cmpI s.hi t.hi]))) (by exact Flat.i _ _) (fT (con190 ([cmpI s.rep t.rep,cmpI s.lo t.lo,cmpI s.hi t.hi])) (oA 4 (.i .i64 (cmpI s.rep t.rep)) (oA 9 (.i .i64 (cmpI s.lo t.lo)) (oA 14 (.i .i64 (cmpI s.hi t.hi)) (oV 16 { val:=some (.i .i64 (orI [cmpI s.rep t.rep,cmpI s.lo t.lo,cmpI s.hi t.hi])),flat:=true } z0)))))))))<|sn<|rT<|qR (.i .i64 (orI [cmpI s.rep t.rep,cmpI s.lo t.lo,cmpI s.hi t.hi])) (.eq ?g0);rotate_left
 case g0=>rw [or_three]
theorem con188 (a b:List Span):Con Tryz.prog 188 [.sl (a.map c104),.sl (b.map c104),.fn (.func 189) [] []] (.i .i64 (cmpC a b)) :=
 by
 refine con_lens 0 (c104) (a) (by kernel_rfl) Go.Proofs.Tryz.func188 (by kernel_rfl) fun hl_0=>con_lens 1 (c104) (b) (by kernel_rfl) Go.Proofs.Tryz.func188 (by kernel_rfl) fun hl_1=>st_con tab_ok (by kernel_rfl) [.tmp 6] 39 Go.Proofs.Tryz.func188 (by kernel_rfl) (by kernel_rfl) ?_
 intro e0 cx
 refine sq<|rG cx [0,1,2] [] z0<|sn<|sq<|sq<|rG cx [0,1,2,11,12,13] [] (tL 1 c104 a z0)<|sn<|bL 0<|st_loop (X:=Int) (fun x=>⟨[(0,.sl (List.map c104 a)),(1,.sl (List.map c104 b)),(2,.fn (Fn.func (189:FuncId)) [] []),(11,.sl (List.map c104 a)),(12,.i .i64 ((↑a.length:Int))),(13,.i .i64 (x))],[]⟩) (fun x ↦ decCf a b x) (fun x ↦ invCf a b x) [0,1,2,11,12,13] [] ((0:Int)) (by kernel_rfl) (by kernel_rfl) (show invCf a b (0:Int) from ?g0) ?_;rotate_left
 intro i0 h_1
 obtain ⟨hh2,hh3,hh4,hh5⟩:(0:Int)≤i0∧i0≤(↑a.length:Int)∧i0≤(↑b.length:Int)∧cmpC a b=cmpC (List.drop i0.toNat a) (List.drop i0.toNat b):=h_1
 refine sq<|rG cx [0,1,2,11,12,13,14] [] (tB 0 (i0 < (↑a.length:Int)) z0)<|sn<|sq<|dC (i0 < (↑a.length:Int)) (fun hh6=>?_) fun hh6=>?_
 refine sK<|sn<|sq<|bL 1<|sq<|rG cx [0,1,2,11,12,13,8,7] [8] (fA ((0:Int)≤i0) (fG c104 a i0.toNat (fR (3:Nat) (fN 3 3 (oR 1 (c104 a[i0.toNat]!) z0)))))<|sn<|sq<|sq<|rG cx [0,1,2,11,12,13,8,7,21] [8] (tL 2 c104 b (tB 3 ((↑b.length:Int)≤i0) z0))<|sn<|dC ((↑b.length:Int)≤i0) (fun h7=>?_) fun h7=>?_
 refine sq<|rG cx [6] [] z0<|sn<|rT<|nR<|bR<|nR<|nR<|bR<|nR<|qR (.i .i64 ((1:Int))) (.eq ?g1);rotate_left
 refine sK<|sn<|sq<|rG cx [0,1,2,11,12,13,8,9] [8,9] (fA ((0:Int)≤i0) (fG c104 b i0.toNat (fR (3:Nat) (fN 3 3 (oR 2 (c104 b[i0.toNat]!) z0)))))<|sn<|sq<|rG cx [0,1,2,11,12,13,10] [] (fT (con189 (a[i0.toNat]!) (b[i0.toNat]!)) (oA 3 (.i .i64 (cmpS a[i0.toNat]! b[i0.toNat]!)) z0))<|sn<|sq<|rG cx [0,1,2,11,12,13,10,31] [] (tN 1 (cmpS a[i0.toNat]! b[i0.toNat]!) (0:Int) z0)<|sn<|dC (¬cmpS a[i0.toNat]! b[i0.toNat]! = (0:Int)) (fun h8=>?_) fun h8=>?_
 refine sq<|rG cx [6] [] z0<|sn<|rT<|bR<|nR<|nR<|bR<|nR<|qR (.i .i64 (cmpS a[i0.toNat]! b[i0.toNat]!)) (.eq ?g2);rotate_left
 refine sK<|bN<|sn<|rG cx [0,1,2,11,12,13] [] (tW 0 (i0+(1:Int)) z0)<|sn<|loop_next (i0+(1:Int)) (by kernel_rfl) (show ((↑a.length:Int)-(i0+(1:Int))).toNat < ((↑a.length:Int)-i0).toNat from (by omega)) (show invCf a b (i0+(1:Int)) from ?g3);rotate_left
 refine eX 0<|nE<|nE<|bH<|sn<|sq<|sq<|rG cx [38] [] (tL 1 c104 a (tL 3 c104 b (tB 4 ((↑a.length:Int) < (↑b.length:Int)) z0)))<|sn<|dC ((↑a.length:Int) < (↑b.length:Int)) (fun h9=>?_) fun h9=>?_
 refine sq<|rG cx [6] [] z0<|sn<|rT<|nR<|qR (.i .i64 ((-1:Int))) (.eq ?g4);rotate_left
 refine sK<|sn<|sq<|rG cx [6] [] z0<|sn<|rT<|qR (.i .i64 ((0:Int))) (.eq ?g5);rotate_left
 rotate_left
 revert i0 hh2 hh3 hh4 hh5 hh6 h7;rotate_left
 revert i0 hh2 hh3 hh4 hh5 hh6 h7 h8;rotate_left
 revert i0 hh2 hh3 hh4 hh5 hh6 h7 h8;rotate_left
 revert i0 hh2 hh3 hh4 hh5 hh6 h9;rotate_left
 revert i0 hh2 hh3 hh4 hh5 hh6 h9;rotate_left
 case g0=>exact ⟨by omega,by omega,by omega,rfl⟩
 case g1=>intro i h0 h1 h2 h3 h4 h5;rw [cc_more h0 h4 (by omega) h3]
 case g2=>intro i h0 h1 h2 h3 h4 h5 h6;rw [cc_diff h0 h4 (by omega) h6 h3]
 case g3=>intro i h0 h1 h2 h3 h4 h5 h6;exact cc_next h0 h4 (by omega) (Classical.not_not.1 h6) h3
 case g4=>intro i h0 h1 h2 h3 h4 h5;rw [cc_less h0 h4 (by omega) h3]
 case g5=>intro i h0 h1 h2 h3 h4 h5;rw [cc_same h4 (by omega) h3]
theorem con152 (p q:Past) (hb:p.cloud.length*16≤140737488350000) (hq:q.cloud.length*16≤140737488350000):Con Tryz.prog 152 [.agg (c26 p),.agg (c26 q)] (.i .i64 (cmpP p q)) :=
 by
 have D:∀ {r:Int} {u v:List Int},u=(normP p).vec→v=(normP q).vec→0≤r→r < 16→∀ {a b:Int},u[r.toNat]! = a→v[r.toNat]! = b→¬ a=b→isCF (normP p).vec (normP q).vec r→cmpI a b=cmpP p q:=by
  intro r u v e1 e3 h0 h1 a b ha hb hn h
  rw [e1] at ha
  rw [e3] at hb
  have e:=cf_diff h0 h1 (by rw [ha,hb];exact hn) h
  rw [ha,hb] at e
  exact (cp_vec e (cmpI_ne hn)).symm
 have N:∀ {r:Int} {u v:List Int} {c d:List Span},u=(normP p).vec→c=(normP p).cloud→v=(normP q).vec→d=(normP q).cloud→0≤r→r < 16→∀ {a b:Int},u[r.toNat]! = a→v[r.toNat]! = b→¬ ¬ a=b→isCF (normP p).vec (normP q).vec r→invCq (normP p) (normP q) (r+1) u c v d:=by
  intro r u v c d e1 e2 e3 e4 h0 h1 a b ha hb hn h
  have e:=cf_next h0 h1 (by rw [← e1,← e3,ha,hb];exact Classical.not_not.1 hn) h
  exact ⟨e1,e2,e3,e4,e.1,e.2.1,e.2.2⟩
 refine st_con tab_ok (by kernel_rfl) [.tmp 4] 49 Go.Proofs.Tryz.func152 (by kernel_rfl) (by kernel_rfl) ?_
 intro e0 cx
 refine sq<|rG cx [2,3] [2,3] z0<|sn<|sq<|rA cx [5,6] [5,6] (fT (con107 (p) (by (with_reducible assumption))) (fT (con107 (q) (by (with_reducible assumption))) (oA 1 (.agg [.sl (List.map c3 (normP p).vec),.sl (List.map c104 (normP p).cloud)]) (oA 3 (.agg [.sl (List.map c3 (normP q).vec),.sl (List.map c104 (normP q).cloud)]) z0))))<|sn<|sq<|sq<|rG cx [5,6,14] [5,6] z0<|sn<|bL 0<|st_loop (X:=Int×List Int×List Span×List Int×List Span) (fun x=>⟨[(5,.ptr (5) (0) (0) (0)),(6,.ptr (6) (0) (0) (0)),(14,.i .i64 (x.1))],[(5,⟨0,26,.var [.sl (List.map c3 x.2.1),.sl (List.map c104 x.2.2.1)]⟩),(6,⟨0,26,.var [.sl (List.map c3 x.2.2.2.1),.sl (List.map c104 x.2.2.2.2)]⟩)]⟩) (fun x ↦ decCq x.1 x.2.1 x.2.2.1 x.2.2.2.1 x.2.2.2.2) (fun x ↦ invCq (normP p) (normP q) x.1 x.2.1 x.2.2.1 x.2.2.2.1 x.2.2.2.2) [5,6,14] [5,6] (((0:Int),(normP p).vec,(normP p).cloud,(normP q).vec,(normP q).cloud)) (by kernel_rfl) (by kernel_rfl) (show invCq (normP p) (normP q) (0:Int) (normP p).vec (normP p).cloud (normP q).vec (normP q).cloud from ?g0) ?_;rotate_left
 rintro ⟨r0,u1,c2,v3,d4⟩ h_5
 obtain ⟨h6,h7,h8,h9,h10,h11,h12⟩:u1=(normP p).vec∧c2=(normP p).cloud∧v3=(normP q).vec∧d4=(normP q).cloud∧(0:Int)≤r0∧r0≤(16:Int)∧isCF (normP p).vec (normP q).vec r0:=h_5
 refine sq<|rG cx [5,6,14,15] [5,6] (tB 0 (r0 < (16:Int)) z0)<|sn<|sq<|dC (r0 < (16:Int)) (fun h13=>?_) fun h13=>?_
 refine sK<|sn<|sq<|bL 1<|sq<|rG cx [5,6,14,7] [5,6] z0<|sn<|sq<|rG cx [5,6,14,7,8,9] [5,6] z0<|sn<|sq<|sq<|rG cx [5,6,14,7,8,9,21] [5,6] (tL 3 c3 u1 (tB 4 (r0 < (↑u1.length:Int)) z0))<|sn<|dC (r0 < (↑u1.length:Int)) (fun h14=>?_) fun h14=>?_
 refine rG cx [5,6,14,7,8,9] [5,6] (fA ((0:Int)≤r0) (fG c3 u1 r0.toNat (fR (1:Nat) (oR 3 (c3 u1[r0.toNat]!) z0))))<|sn<|sq<|sq<|rG cx [5,6,14,7,8,9,31] [5,6] (tL 3 c3 v3 (tB 4 (r0 < (↑v3.length:Int)) z0))<|sn<|dC (r0 < (↑v3.length:Int)) (fun h15=>?_) fun h15=>?_
 refine rG cx [5,6,14,8,9] [5,6] (fA ((0:Int)≤r0) (fG c3 v3 r0.toNat (fR (1:Nat) (oR 3 (c3 v3[r0.toNat]!) z0))))<|sn<|sq<|rG cx [5,6,14,8,9,39] [5,6] (tN 2 u1[r0.toNat]! v3[r0.toNat]! z0)<|sn<|dC (¬u1[r0.toNat]! = v3[r0.toNat]!) (fun h16=>?_) fun h16=>?_
 refine sq<|rG cx [4] [] (fT (con187 (u1[r0.toNat]!) (v3[r0.toNat]!)) (oA 2 (.i .i64 (cmpI u1[r0.toNat]! v3[r0.toNat]!)) z0))<|sn<|rT<|bR<|nR<|nR<|bR<|nR<|qR (.i .i64 (cmpI u1[r0.toNat]! v3[r0.toNat]!)) (.eq ?g1);rotate_left
 refine sK<|bN<|sn<|rG cx [5,6,14] [5,6] (tW 0 (r0+(1:Int)) z0)<|sn<|loop_next ((r0+(1:Int),u1,c2,v3,d4)) (by kernel_rfl) (show ((16:Int)-(r0+(1:Int))).toNat < ((16:Int)-r0).toNat from (by omega)) (show invCq (normP p) (normP q) (r0+(1:Int)) u1 c2 v3 d4 from ?g2);rotate_left
 refine sK<|sn<|sq<|rG cx [5,6,14,8,9,39] [5,6] (tN 2 u1[r0.toNat]! (0:Int) z0)<|sn<|dC (¬u1[r0.toNat]! = (0:Int)) (fun h17=>?_) fun h17=>?_
 refine sq<|rG cx [4] [] (fT (con187 (u1[r0.toNat]!) ((0:Int))) (oA 2 (.i .i64 (cmpI u1[r0.toNat]! (0:Int))) z0))<|sn<|rT<|bR<|nR<|nR<|bR<|nR<|qR (.i .i64 (cmpI u1[r0.toNat]! (0:Int))) (.eq ?g3);rotate_left
 refine sK<|bN<|sn<|rG cx [5,6,14] [5,6] (tW 0 (r0+(1:Int)) z0)<|sn<|loop_next ((r0+(1:Int),u1,c2,v3,d4)) (by kernel_rfl) (show ((16:Int)-(r0+(1:Int))).toNat < ((16:Int)-r0).toNat from (by omega)) (show invCq (normP p) (normP q) (r0+(1:Int)) u1 c2 v3 d4 from ?g4);rotate_left
 refine sK<|sn<|sq<|sq<|rG cx [5,6,14,7,8,9,31] [5,6] (tL 3 c3 v3 (tB 4 (r0 < (↑v3.length:Int)) z0))<|sn<|dC (r0 < (↑v3.length:Int)) (fun h18=>?_) fun h18=>?_
 refine rG cx [5,6,14,8,9] [5,6] (fA ((0:Int)≤r0) (fG c3 v3 r0.toNat (fR (1:Nat) (oR 3 (c3 v3[r0.toNat]!) z0))))<|sn<|sq<|rG cx [5,6,14,8,9,39] [5,6] (tN 2 (0:Int) v3[r0.toNat]! z0)<|sn<|dC (¬(0:Int)=v3[r0.toNat]!) (fun h19=>?_) fun h19=>?_
 refine sq<|rG cx [4] [] (fT (con187 ((0:Int)) (v3[r0.toNat]!)) (oA 2 (.i .i64 (cmpI (0:Int) v3[r0.toNat]!)) z0))<|sn<|rT<|bR<|nR<|nR<|bR<|nR<|qR (.i .i64 (cmpI (0:Int) v3[r0.toNat]!)) (.eq ?g5);rotate_left
 refine sK<|bN<|sn<|rG cx [5,6,14] [5,6] (tW 0 (r0+(1:Int)) z0)<|sn<|loop_next ((r0+(1:Int),u1,c2,v3,d4)) (by kernel_rfl) (show ((16:Int)-(r0+(1:Int))).toNat < ((16:Int)-r0).toNat from (by omega)) (show invCq (normP p) (normP q) (r0+(1:Int)) u1 c2 v3 d4 from ?g6);rotate_left
 refine sK<|sn<|sq<|rG cx [5,6,14,8,9,39] [5,6] z0<|sn<|st_false (by kernel_rfl) (by kernel_rfl)<|sK<|bN<|sn<|rG cx [5,6,14] [5,6] (tW 0 (r0+(1:Int)) z0)<|sn<|loop_next ((r0+(1:Int),u1,c2,v3,d4)) (by kernel_rfl) (show ((16:Int)-(r0+(1:Int))).toNat < ((16:Int)-r0).toNat from (by omega)) (show invCq (normP p) (normP q) (r0+(1:Int)) u1 c2 v3 d4 from ?g7);rotate_left
 refine eX 0<|nE<|nE<|bH<|sn<|sq<|rG cx [4] [] (fT (con188 (c2) (d4)) (oA 4 (.i .i64 (cmpC c2 d4)) z0))<|sn<|rT<|qR (.i .i64 (cmpC c2 d4)) (.eq ?g8);rotate_left
 rotate_left
 revert r0 u1 c2 v3 d4 h6 h7 h8 h9 h10 h11 h12 h13 h14 h15 h16;rotate_left
 revert r0 u1 c2 v3 d4 h6 h7 h8 h9 h10 h11 h12 h13 h14 h15 h16;rotate_left
 revert r0 u1 c2 v3 d4 h6 h7 h8 h9 h10 h11 h12 h13 h14 h15 h17;rotate_left
 revert r0 u1 c2 v3 d4 h6 h7 h8 h9 h10 h11 h12 h13 h14 h15 h17;rotate_left
 revert r0 u1 c2 v3 d4 h6 h7 h8 h9 h10 h11 h12 h13 h14 h18 h19;rotate_left
 revert r0 u1 c2 v3 d4 h6 h7 h8 h9 h10 h11 h12 h13 h14 h18 h19;rotate_left
 revert r0 u1 c2 v3 d4 h6 h7 h8 h9 h10 h11 h12 h13 h14 h18;rotate_left
 revert r0 u1 c2 v3 d4 h6 h7 h8 h9 h10 h11 h12 h13;rotate_left
 case g0=>exact ⟨Eq.refl _,Eq.refl _,Eq.refl _,Eq.refl _,by omega,by omega,Eq.refl _⟩
 case g1=>intro r u c v d e1 e2 e3 e4 h0 h1 h h2 h3 h4 h5;exact congrArg (AV.i .i64) (D e1 e3 h0 h2 (Eq.refl _) (Eq.refl _) h5 h)
 case g2=>intro r u c v d e1 e2 e3 e4 h0 h1 h h2 h3 h4 h5;exact N e1 e2 e3 e4 h0 h2 (Eq.refl _) (Eq.refl _) h5 h
 case g3=>intro r u c v d e1 e2 e3 e4 h0 h1 h h2 h3 h4 h5;exact congrArg (AV.i .i64) (D e1 e3 h0 h2 (Eq.refl _) (bang_no h0 h4) h5 h)
 case g4=>intro r u c v d e1 e2 e3 e4 h0 h1 h h2 h3 h4 h5;exact N e1 e2 e3 e4 h0 h2 (Eq.refl _) (bang_no h0 h4) h5 h
 case g5=>intro r u c v d e1 e2 e3 e4 h0 h1 h h2 h3 h4 h5;exact congrArg (AV.i .i64) (D e1 e3 h0 h2 (bang_no h0 h3) (Eq.refl _) h5 h)
 case g6=>intro r u c v d e1 e2 e3 e4 h0 h1 h h2 h3 h4 h5;exact N e1 e2 e3 e4 h0 h2 (bang_no h0 h3) (Eq.refl _) h5 h
 case g7=>intro r u c v d e1 e2 e3 e4 h0 h1 h h2 h3 h4;exact N e1 e2 e3 e4 h0 h2 (bang_no h0 h3) (bang_no h0 h4) (fun k=>k (Eq.refl _)) h
 case g8=>intro r u c v d e1 e2 e3 e4 h0 h1 h h2;rw [e2,e4,cp_cloud (cf_end h1 h2 h)]
end Go.Proofs.YtaiepnaokhpmcaaGreat
namespace Go.Proofs.YtaiepnaokhpmcaaGreat
open Go.E
set_option maxRecDepth 100000
set_option maxHeartbeats 4000000
theorem bl_cons (a b:UInt8) (x y:List UInt8):Go.Op.bytesLess (a :: x) (b :: y)=true↔a.toNat < b.toNat∨(a=b∧Go.Op.bytesLess x y=true):=by
 rw [Go.Op.bytesLess,Bool.or_eq_true,Bool.and_eq_true,decide_eq_true_eq,beq_iff_eq,UInt8.lt_iff_toNat_lt]
theorem bl_irr:∀ l:List UInt8,¬ Go.Op.bytesLess l l=true
 | []=>by simp [Go.Op.bytesLess]
 | a :: l=>by
  rw [bl_cons]
  rintro (h | h)
  ·omega
  ·exact bl_irr l h.2
theorem bl_trans:∀ {x y z:List UInt8},Go.Op.bytesLess x y=true→Go.Op.bytesLess y z=true→Go.Op.bytesLess x z=true
 | _,[],_,h,_=>by cases ‹List UInt8› <;> simp [Go.Op.bytesLess] at h
 | _,_ :: _,[],_,h=>by simp [Go.Op.bytesLess] at h
 | [],_ :: _,c :: z,_,_=>by simp [Go.Op.bytesLess]
 | a :: x,b :: y,c :: z,h1,h2=>by
  rw [bl_cons] at *
  rcases h1 with h1 | ⟨rfl,h1⟩
  ·rcases h2 with h2 | ⟨rfl,h2⟩
   ·exact .inl (by omega)
   ·exact .inl h1
  ·rcases h2 with h2 | ⟨rfl,h2⟩
   ·exact .inl h2
   ·exact .inr ⟨rfl,bl_trans h1 h2⟩
theorem bl_total:∀ {x y:List UInt8},¬ Go.Op.bytesLess x y=true→¬ Go.Op.bytesLess y x=true→x=y
 | [],[],_,_=>rfl
 | [],b :: y,h,_=>by simp [Go.Op.bytesLess] at h
 | a :: x,[],_,h=>by simp [Go.Op.bytesLess] at h
 | a :: x,b :: y,h1,h2=>by
  rw [bl_cons] at *
  have e:a=b:=UInt8.toNat_inj.1 (by omega)
  subst e
  rw [bl_total (fun h=>h1 (.inr ⟨rfl,h⟩)) (fun h=>h2 (.inr ⟨rfl,h⟩))]
theorem sLt_irr (x:ByteArray):¬ sLt x x=true:=bl_irr _
theorem sLt_trans {x y z:ByteArray} (h1:sLt x y=true) (h2:sLt y z=true):sLt x z=true:=bl_trans h1 h2
theorem sLt_total {x y:ByteArray} (h1:¬ sLt x y=true) (h2:¬ sLt y x=true):x=y:=by
 have e:=bl_total h1 h2
 rw [ByteArray.toList_eq,ByteArray.toList_eq] at e
 exact ByteArray.ext (Array.ext' e)
end Go.Proofs.YtaiepnaokhpmcaaGreat
namespace Go.Proofs.YtaiepnaokhpmcaaGreat
open Go.E
set_option maxRecDepth 100000
set_option maxHeartbeats 4000000
open Go Go.Lib Go.RowKit Go.Proofs
def cmpSt (a b:ByteArray):Int:=compareBytes a.data.toList b.data.toList
theorem cmpB_less:∀ x y:List UInt8,compareBytes x y=if Go.Op.bytesLess x y=true then -1 else if Go.Op.bytesLess y x=true then 1 else 0
 | [],[]=>rfl
 | [],b :: y=>by simp [compareBytes,Go.Op.bytesLess]
 | a :: x,[]=>by simp [compareBytes,Go.Op.bytesLess]
 | a :: x,b :: y=>by
  have ih:=cmpB_less x y
  rw [compareBytes]
  by_cases h1:a < b
  ·rw [if_pos h1,if_pos ((bl_cons _ _ _ _).2 (.inl (UInt8.lt_iff_toNat_lt.1 h1)))]
  ·by_cases h2:b < a
   ·rw [if_neg h1,if_pos h2,if_neg,if_pos ((bl_cons _ _ _ _).2 (.inl (UInt8.lt_iff_toNat_lt.1 h2)))]
    rw [bl_cons]
    rintro (k | ⟨rfl,_⟩)
    ·exact h1 (UInt8.lt_iff_toNat_lt.2 k)
    ·rw [UInt8.lt_iff_toNat_lt] at h2;omega
   ·have e:a=b:=UInt8.toNat_inj.1 (by rw [UInt8.lt_iff_toNat_lt] at h1 h2;omega)
    subst e
    rw [if_neg h1,if_neg h1,ih]
    have c:∀ u v:List UInt8,Go.Op.bytesLess (a :: u) (a :: v)=Go.Op.bytesLess u v:=fun u v=>by
     rw [Bool.eq_iff_iff,bl_cons]
     constructor
     ·rintro (k | ⟨_,k⟩)
      ·omega
      ·exact k
     ·exact fun k=>.inr ⟨rfl,k⟩
    rw [c,c]
theorem cmpSt_less (a b:ByteArray):cmpSt a b=if sLt a b=true then -1 else if sLt b a=true then 1 else 0:=by
 unfold cmpSt sLt
 rw [ByteArray.toList_eq,ByteArray.toList_eq]
 exact cmpB_less _ _
set_option maxHeartbeats 4000000 in
theorem compare_calls (a b:ByteArray) (w:World):Calls Tryz.prog 186 #[.string a,.string b] w fun e w'=>e=.returned (.int .i64 (cmpSt a b))∧w'=w:=by
 go_enter Tryz.func186,Tryz.ntmps186
 go_wp2
 rw [run_callFunc_extern Tryz.func209 (by kernel_rfl) (by kernel_rfl) (by kernel_rfl) (e:=Extern.BytealgCompare.compare) (by kernel_rfl),Lib.run_compareString]
 simp only [Result.andThen]
 rw [Oper.upon_value]
 go_wp2
 go_ret
 exact ⟨rfl,rfl⟩
theorem con186 (a b:ByteArray):Con Tryz.prog 186 [.s a,.s b] (.i .i64 (cmpSt a b)):=by
 refine ⟨⟨_,Tryz.func186,by kernel_rfl,by kernel_rfl⟩,fun w S0 vs hS hl hv=>?_⟩
 obtain ⟨v,u,rfl⟩:∃ v u,vs=[v,u]:=by
  match vs,hl with
  | [v,u],_=>exact ⟨v,u,rfl⟩
 have h1:=hv 0 _ v rfl rfl
 have h2:=hv 1 _ u rfl rfl
 cases h1
 cases h2
 refine (compare_calls a b w).mono ?_
 rintro e w' ⟨rfl,rfl⟩
 exact ⟨_,rfl,.i _ _,Below.refl _ _⟩
theorem con151 (a b:ByteArray):Con Tryz.prog 151 [.s a,.s b] (.i .i64 (cmpSt a b)) :=
 by
 refine st_con tab_ok (by kernel_rfl) [.tmp 4] 8 Go.Proofs.Tryz.func151 (by kernel_rfl) (by kernel_rfl) ?_
 intro e0 cx
 refine sq<|rG cx [0,1] [] z0<|sn<|sq<|rG cx [4] [] (fT (con186 (a) (b)) (oA 2 (.i .i64 (cmpSt a b)) z0))<|sn<|rT ?_
 exact q_ret (r:=.i .i64 (cmpSt a b)) (obl:=[]) (by kernel_rfl) trivial (AVle.refl _)
end Go.Proofs.YtaiepnaokhpmcaaGreat
namespace Go.Proofs.YtaiepnaokhpmcaaGreat
open Go.E
set_option maxRecDepth 100000
set_option maxHeartbeats 4000000
def sizeR:List Run→Int
 | []=>0
 | r :: l=>r.hi-r.lo+1+sizeR l
def maxR:List Run→Int
 | []=>0
 | r :: l=>if (clipR r).lo≤(clipR r).hi then max (clipR r).hi (maxR l) else maxR l
theorem sizeR_app (a b:List Run):sizeR (a++b)=sizeR a+sizeR b:=by
 induction a with
 | nil=>simp [sizeR]
 | cons e a ih=>simp only [List.cons_append,sizeR,ih];omega
theorem maxR_is:∀ a:List Run,(maxR a=0∧∀ n,1≤n→n≤1000000000→¬ inR a n)∨(1≤maxR a∧maxR a≤1000000000∧inR a (maxR a)∧∀ n,1≤n→n≤1000000000→inR a n→n≤maxR a)
 | []=>.inl ⟨rfl,fun n _ _ h=>by obtain ⟨r,hr,_⟩:=h;cases hr⟩
 | r :: l=>by
  have hin:∀ n,inR (r :: l) n↔(r.lo≤n∧n≤r.hi)∨inR l n:=fun n=>by
   unfold inR
   constructor
   ·rintro ⟨x,hx,h1,h2⟩
    rcases List.mem_cons.1 hx with rfl | hx
    ·exact .inl ⟨h1,h2⟩
    ·exact .inr ⟨x,hx,h1,h2⟩
   ·rintro (⟨h1,h2⟩ | ⟨x,hx,h1,h2⟩)
    ·exact ⟨r,by simp,h1,h2⟩
    ·exact ⟨x,by simp [hx],h1,h2⟩
  have hc1:(clipR r).lo=max r.lo 1:=rfl
  have hc2:(clipR r).hi=min r.hi 1000000000:=rfl
  unfold maxR
  split
  ·rename_i hc
   rw [hc1,hc2] at hc
   right
   rcases maxR_is l with ⟨h1,h2⟩ | ⟨h1,h2,h3,h4⟩
   ·have e:max (clipR r).hi (maxR l)=(clipR r).hi:=by rw [h1];omega
    rw [e,hc2]
    refine ⟨by omega,by omega,(hin _).2 (.inl ⟨by omega,by omega⟩),fun n n1 n2 hn=>?_⟩
    rcases (hin n).1 hn with k | k
    ·omega
    ·exact absurd k (h2 n n1 n2)
   ·refine ⟨by omega,by omega,?_,fun n n1 n2 hn=>?_⟩
    ·rcases Int.le_total (maxR l) (clipR r).hi with k | k
     ·rw [Int.max_eq_left k,hc2];exact (hin _).2 (.inl ⟨by omega,by omega⟩)
     ·rw [Int.max_eq_right k];exact (hin _).2 (.inr h3)
    ·rcases (hin n).1 hn with k | k
     ·omega
     ·have:=h4 n n1 n2 k;omega
  ·rename_i hc
   rw [hc1,hc2] at hc
   rcases maxR_is l with ⟨h1,h2⟩ | ⟨h1,h2,h3,h4⟩
   ·refine .inl ⟨h1,fun n n1 n2 hn=>?_⟩
    rcases (hin n).1 hn with k | k
    ·omega
    ·exact h2 n n1 n2 k
   ·refine .inr ⟨h1,h2,(hin _).2 (.inr h3),fun n n1 n2 hn=>?_⟩
    rcases (hin n).1 hn with k | k
    ·omega
    ·exact h4 n n1 n2 k
theorem maxR_ext {a b:List Run} (h:∀ n,1≤n→n≤1000000000→(inR a n↔inR b n)):maxR a=maxR b:=by
 rcases maxR_is a with ⟨a1,a2⟩ | ⟨a1,a2,a3,a4⟩ <;> rcases maxR_is b with ⟨b1,b2⟩ | ⟨b1,b2,b3,b4⟩
 ·rw [a1,b1]
 ·exact absurd ((h _ b1 b2).2 b3) (a2 _ b1 b2)
 ·exact absurd ((h _ a1 a2).1 a3) (b2 _ a1 a2)
 ·have:=a4 _ b1 b2 ((h _ b1 b2).2 b3)
  have:=b4 _ a1 a2 ((h _ a1 a2).1 a3)
  omega
theorem maxR_nrm (a:List Run):maxR (nrm a)=maxR a:=maxR_ext fun n h1 h2=>by
 rw [nrm_in]
 exact ⟨fun k=>k.2.2,fun k=>⟨h1,h2,k⟩⟩
theorem maxR_snoc (r:Run):∀ a:List Run,maxR (a++[r])=if (clipR r).lo≤(clipR r).hi then max (maxR a) (clipR r).hi else maxR a
 | []=>by
  have hc1:(clipR r).lo=max r.lo 1:=rfl
  simp only [List.nil_append,maxR]
  split <;> omega
 | x :: a=>by
  have ih:=maxR_snoc r a
  simp only [List.cons_append,maxR,ih]
  split <;> split <;> omega
end Go.Proofs.YtaiepnaokhpmcaaGreat
namespace Go.Proofs.YtaiepnaokhpmcaaGreat
open Go.E
set_option maxRecDepth 100000
set_option maxHeartbeats 4000000
def sizeT (T:Nat→List Run):Nat→Int
 | 0=>0
 | n+1=>sizeT T n+sizeR (nrm (T n))
theorem size_is (p:Past):∃ n:Int,n=sizeT (openT [p]) 16:=⟨_,rfl⟩
noncomputable def sizeP (p:Past):Int:=Classical.choose (size_is p)
theorem sizeP_eq (p:Past):sizeP p=sizeT (openT [p]) 16:=Classical.choose_spec (size_is p)
def lastP (p:Past) (rep:Int):Int:=if rep < 0∨16≤rep then 0 else maxR (openT [p] rep.toNat)
theorem sizeR_pos:∀ {l:List Run},sepR l→0≤sizeR l∧(sizeR l=0→l=[])
 | [],_=>⟨Int.le_refl _,fun _=>rfl⟩
 | r :: l,h=>by
  have hr:=h.2 r (by simp)
  have ih:=(sizeR_pos (sepR_tail h)).1
  rw [sizeR]
  exact ⟨by omega,fun k=>by omega⟩
theorem sizeR_le:∀ {l:List Run},sepR l→∀ m:Int,(∀ r∈l,m≤r.lo)→sizeR l≤1000000001-m∨l=[]
 | [],_,m,_=>.inr rfl
 | r :: l,h,m,hm=>by
  have hr:=h.2 r (by simp)
  have h1:=hm r (by simp)
  have pa:=(List.pairwise_cons.1 h.1).1
  rw [sizeR]
  rcases sizeR_le (sepR_tail h) (r.hi+1) (fun x hx=>by have:=pa x hx;omega) with k | k
  ·left;omega
  ·subst k
   left
   rw [sizeR]
   omega
theorem sizeR_rng {l:List Run} (h:sepR l):0≤sizeR l∧sizeR l≤1000000000:=by
 refine ⟨(sizeR_pos h).1,?_⟩
 rcases sizeR_le h 1 (fun r hr=>(h.2 r hr).1) with k | k
 ·omega
 ·subst k;simp [sizeR]
theorem sizeT_rng (T:Nat→List Run):∀ n:Nat,0≤sizeT T n∧sizeT T n≤n*1000000000
 | 0=>by simp [sizeT]
 | n+1=>by
  have:=sizeT_rng T n
  have:=sizeR_rng (nrm_sep (T n))
  rw [sizeT]
  omega
theorem sizeT_zero (T:Nat→List Run):∀ n:Nat,sizeT T n=0↔∀ r:Nat,r < n→nrm (T r)=[]
 | 0=>by simp [sizeT]
 | n+1=>by
  have h1:=sizeT_rng T n
  have h2:=sizeR_pos (nrm_sep (T n))
  have ih:=sizeT_zero T n
  rw [sizeT]
  constructor
  ·intro k r hr
   by_cases e:r=n
   ·rw [e];exact h2.2 (by omega)
   ·exact ih.1 (by omega) r (by omega)
  ·intro k
   rw [ih.2 fun r hr=>k r (by omega),k n (by omega)]
   rfl
theorem nrm_empty {a:List Run}:nrm a=[]↔∀ n,¬ inR (nrm a) n:=by
 constructor
 ·intro h n k
  rw [h] at k
  obtain ⟨r,hr,_⟩:=k
  cases hr
 ·intro h
  cases e:nrm a with
  | nil=>rfl
  | cons r l =>
   have hs:=nrm_sep a
   rw [e] at hs h
   have:=hs.2 r (by simp)
   exact absurd ⟨r,by simp,Int.le_refl _,this.2.1⟩ (h r.lo)
theorem sizeP_zero (p:Past):sizeP p=0↔∀ d,hasP p d=false:=by
 rw [sizeP_eq,sizeT_zero]
 constructor
 ·intro h d
  rw [← has_norm,← Bool.not_eq_true]
  intro k
  unfold normP at k
  rw [has_tab] at k
  have hb:=dotB_in k.1
  have:=nrm_empty.1 (h d.rep.toNat (by omega)) d.num
  rw [nrm_in] at this
  exact this ⟨by omega,by omega,k.2⟩
 ·intro h r hr
  refine nrm_empty.2 fun n k=>?_
  rw [nrm_in] at k
  have hd:dotB ⟨r,n⟩=true:=by unfold dotB;rw [decide_eq_true_eq];simp only;omega
  have h1:=h ⟨r,n⟩
  rw [← has_norm,← Bool.not_eq_true] at h1
  refine h1 ?_
  unfold normP
  rw [has_tab]
  exact ⟨hd,k.2.2⟩
theorem has_none (d:Dot):hasP ⟨[],[]⟩ d=false:=by
 unfold hasP
 cases h:dotB d with
 | false=>rfl
 | true =>
  have hb:=dotB_in h
  simp
  omega
theorem norm_none:normP ⟨[],[]⟩=⟨[],[]⟩:=by
 have h1:∀ r:Nat,r < 16→openT [⟨[],[]⟩] r=[]:=fun r hr=>by simp [openT,vecR,cloudR]
 have h2:nrm []=[]:=by
  refine nrm_empty.2 fun n k=>?_
  rw [nrm_in] at k
  obtain ⟨r,hr,_⟩:=k.2.2
  cases hr
 unfold normP
 rw [tabP_congr (U:=fun _=>[]) fun r hr=>h1 r hr]
 have l0:∀ r,leadT (fun _=>[]) r=0:=fun r=>by unfold leadT;rw [h2];rfl
 have s0:∀ n,szT (fun _=>[]) n=0:=fun n=>by
  induction n with
  | zero=>rfl
  | succ n ih=>rw [szT,if_neg (by rw [l0];omega),ih]
 have c0:∀ n,cloudT (fun _=>[]) n=[]:=fun n=>by
  induction n with
  | zero=>rfl
  | succ n ih=>rw [cloudT,ih];unfold restT;rw [h2];rfl
 unfold tabP
 rw [s0,c0]
 rfl
end Go.Proofs.YtaiepnaokhpmcaaGreat
namespace Go.Proofs.YtaiepnaokhpmcaaGreat
open Go.E
set_option maxRecDepth 100000
set_option maxHeartbeats 4000000
def isLet (c:Int):Bool:=decide (65≤c∧c≤90)
def isDig (c:Int):Bool:=decide (48≤c∧c≤57)
def isMrk (c:Int):Bool:=decide (c=45∨c=46)
def standsB (s:ByteArray) (i:Nat):Bool:=isLet (byt s i) || isDig (byt s i) || (isMrk (byt s i) && decide (i≠0∧i+1≠s.size) && !isMrk (byt s (i-1)))
def allUp (p:Nat→Bool):Nat→Bool
 | 0=>true
 | n+1=>allUp p n && p n
theorem allUp_iff (p:Nat→Bool):∀ n,allUp p n=true↔∀ i,i < n→p i=true
 | 0=>by simp [allUp]
 | n+1=>by
  rw [allUp,Bool.and_eq_true,allUp_iff p n]
  constructor
  ·rintro ⟨h1,h2⟩ i hi
   by_cases e:i=n
   ·rw [e];exact h2
   ·exact h1 i (by omega)
  ·intro h;exact ⟨fun i hi=>h i (by omega),h n (by omega)⟩
def chkE (s:ByteArray):Int:=if s.size=0 then 20 else if 24 < s.size then 21 else if allUp (standsB s) s.size=true then 0 else 22
def good (s:ByteArray):Bool:=decide (chkE s=0)
def invG (s:ByteArray) (i:Int):Prop:=0≤i∧i≤s.size∧∀ j:Nat,(j:Int) < i→standsB s j=true
def decG (s:ByteArray) (i:Int):Nat:=(s.size-i).toNat
theorem chkE_bad {s:ByteArray} (h0:¬ s.size=0) (h1:¬ 24 < s.size) {i:Nat} (hi:i < s.size) (h:standsB s i=false):chkE s=22:=by
 unfold chkE
 rw [if_neg h0,if_neg h1,if_neg]
 intro k
 have:=(allUp_iff _ _).1 k i hi
 rw [h] at this;cases this
theorem chkE_ok {s:ByteArray} (h0:¬ s.size=0) (h1:¬ 24 < s.size) (h:∀ j:Nat,j < s.size→standsB s j=true):chkE s=0:=by
 unfold chkE
 rw [if_neg h0,if_neg h1,if_pos ((allUp_iff _ _).2 h)]
theorem size_zero (s:ByteArray):s.size=0↔s=⟨#[]⟩:=by
 constructor
 ·intro h;exact ByteArray.ext (Array.eq_empty_of_size_eq_zero h)
 ·rintro rfl;rfl
theorem stands_iff (s:ByteArray) (i:Nat):standsB s i=true↔isLet (byt s i)=true∨isDig (byt s i)=true∨(isMrk (byt s i)=true∧i≠0∧i+1≠s.size∧¬ isMrk (byt s (i-1))=true):=by
 unfold standsB
 cases isLet (byt s i) <;> cases isDig (byt s i) <;> cases isMrk (byt s i) <;> cases isMrk (byt s (i-1)) <;> simp
theorem invG_step {s:ByteArray} {i:Int} (h0:0≤i) (h1:i < s.size) (h2:∀ j:Nat,(j:Int) < i→standsB s j=true) (h:standsB s i.toNat=true):invG s (i+1) :=
 ⟨by omega,by omega,fun j hj=>by
  by_cases e:j=i.toNat
  ·rw [e];exact h
  ·exact h2 j (by omega)⟩
theorem not_stands {s:ByteArray} {i:Nat} (h:¬ standsB s i=true):standsB s i=false:=by simpa using h
theorem con201 (c:Int):Con Tryz.prog 201 [.i .u8 c] (.b (isLet c)) :=
 by
 refine st_con tab_ok (by kernel_rfl) [.tmp 2] 9 Go.Proofs.Tryz.func201 (by kernel_rfl) (by kernel_rfl) ?_
 intro e0 cx
 refine sq<|rG cx [0] [] z0<|sn<|sq<|st_join (σ':=⟨[(2,.b (decide ((65:Int)≤c∧c≤(90:Int))))],[]⟩) ?_ ?_
 refine st_split ((65:Int)≤c) (fun h_1=>?_) (fun h_1=>?_)
 refine rG cx [2] [] (tT 1 (told_true h_1) (tB 4 (c≤(90:Int)) (tD 6 (decide (c≤(90:Int))) ((65:Int)≤c∧c≤(90:Int)) (by simp only [eq_true h_1,tsl]) z0))) ?_
 exact ⟨rfl,by kernel_rfl⟩
 refine rG cx [2] [] (tT 1 (told_false h_1) (tD 6 false ((65:Int)≤c∧c≤(90:Int)) (by simp only [eq_false h_1,tsl]) z0)) ?_
 exact ⟨rfl,by kernel_rfl⟩
 refine sn<|rT<|qR (.b (decide ((65:Int)≤c∧c≤(90:Int)))) (.eq ?g0);rotate_left
 case g0=>exact rfl
theorem con202 (c:Int):Con Tryz.prog 202 [.i .u8 c] (.b (isDig c)) :=
 by
 refine st_con tab_ok (by kernel_rfl) [.tmp 2] 9 Go.Proofs.Tryz.func202 (by kernel_rfl) (by kernel_rfl) ?_
 intro e0 cx
 refine sq<|rG cx [0] [] z0<|sn<|sq<|st_join (σ':=⟨[(2,.b (decide ((48:Int)≤c∧c≤(57:Int))))],[]⟩) ?_ ?_
 refine st_split ((48:Int)≤c) (fun h_1=>?_) (fun h_1=>?_)
 refine rG cx [2] [] (tT 1 (told_true h_1) (tB 4 (c≤(57:Int)) (tD 6 (decide (c≤(57:Int))) ((48:Int)≤c∧c≤(57:Int)) (by simp only [eq_true h_1,tsl]) z0))) ?_
 exact ⟨rfl,by kernel_rfl⟩
 refine rG cx [2] [] (tT 1 (told_false h_1) (tD 6 false ((48:Int)≤c∧c≤(57:Int)) (by simp only [eq_false h_1,tsl]) z0)) ?_
 exact ⟨rfl,by kernel_rfl⟩
 refine sn<|rT<|qR (.b (decide ((48:Int)≤c∧c≤(57:Int)))) (.eq ?g0);rotate_left
 case g0=>exact rfl
theorem con203 (c:Int):Con Tryz.prog 203 [.i .u8 c] (.b (isMrk c)) :=
 by
 refine st_con tab_ok (by kernel_rfl) [.tmp 2] 9 Go.Proofs.Tryz.func203 (by kernel_rfl) (by kernel_rfl) ?_
 intro e0 cx
 refine sq<|rG cx [0] [] z0<|sn<|sq<|st_join (σ':=⟨[(2,.b (decide (c=(45:Int)∨c=(46:Int))))],[]⟩) ?_ ?_
 refine st_split (c=(45:Int)) (fun h_1=>?_) (fun h_1=>?_)
 refine rG cx [2] [] (tT 1 (told_true h_1) (tD 6 true (c=(45:Int)∨c=(46:Int)) (by simp only [eq_true h_1,tsl]) z0)) ?_
 exact ⟨rfl,by kernel_rfl⟩
 refine rG cx [2] [] (tT 1 (told_false h_1) (tB 4 (c=(46:Int)) (tD 6 (decide (c=(46:Int))) (c=(45:Int)∨c=(46:Int)) (by simp only [eq_false h_1,tsl]) z0))) ?_
 exact ⟨rfl,by kernel_rfl⟩
 refine sn<|rT<|qR (.b (decide (c=(45:Int)∨c=(46:Int)))) (.eq ?g0);rotate_left
 case g0=>exact rfl
theorem con232 (c:Int):Con Tryz.prog 232 [.i .u8 c] (.b (isLet c)) :=
 by
 refine st_con tab_ok (by kernel_rfl) [.tmp 2] 9 Go.Proofs.Tryz.func232 (by kernel_rfl) (by kernel_rfl) ?_
 intro e0 cx
 refine sq<|rG cx [0] [] z0<|sn<|sq<|st_join (σ':=⟨[(2,.b (decide ((65:Int)≤c∧c≤(90:Int))))],[]⟩) ?_ ?_
 refine st_split ((65:Int)≤c) (fun h_1=>?_) (fun h_1=>?_)
 refine rG cx [2] [] (tT 1 (told_true h_1) (tB 4 (c≤(90:Int)) (tD 6 (decide (c≤(90:Int))) ((65:Int)≤c∧c≤(90:Int)) (by simp only [eq_true h_1,tsl]) z0))) ?_
 exact ⟨rfl,by kernel_rfl⟩
 refine rG cx [2] [] (tT 1 (told_false h_1) (tD 6 false ((65:Int)≤c∧c≤(90:Int)) (by simp only [eq_false h_1,tsl]) z0)) ?_
 exact ⟨rfl,by kernel_rfl⟩
 refine sn<|rT<|qR (.b (decide ((65:Int)≤c∧c≤(90:Int)))) (.eq ?g0);rotate_left
 case g0=>exact rfl
theorem con233 (c:Int):Con Tryz.prog 233 [.i .u8 c] (.b (isDig c)) :=
 by
 refine st_con tab_ok (by kernel_rfl) [.tmp 2] 9 Go.Proofs.Tryz.func233 (by kernel_rfl) (by kernel_rfl) ?_
 intro e0 cx
 refine sq<|rG cx [0] [] z0<|sn<|sq<|st_join (σ':=⟨[(2,.b (decide ((48:Int)≤c∧c≤(57:Int))))],[]⟩) ?_ ?_
 refine st_split ((48:Int)≤c) (fun h_1=>?_) (fun h_1=>?_)
 refine rG cx [2] [] (tT 1 (told_true h_1) (tB 4 (c≤(57:Int)) (tD 6 (decide (c≤(57:Int))) ((48:Int)≤c∧c≤(57:Int)) (by simp only [eq_true h_1,tsl]) z0))) ?_
 exact ⟨rfl,by kernel_rfl⟩
 refine rG cx [2] [] (tT 1 (told_false h_1) (tD 6 false ((48:Int)≤c∧c≤(57:Int)) (by simp only [eq_false h_1,tsl]) z0)) ?_
 exact ⟨rfl,by kernel_rfl⟩
 refine sn<|rT<|qR (.b (decide ((48:Int)≤c∧c≤(57:Int)))) (.eq ?g0);rotate_left
 case g0=>exact rfl
theorem con234 (c:Int):Con Tryz.prog 234 [.i .u8 c] (.b (isMrk c)) :=
 by
 refine st_con tab_ok (by kernel_rfl) [.tmp 2] 9 Go.Proofs.Tryz.func234 (by kernel_rfl) (by kernel_rfl) ?_
 intro e0 cx
 refine sq<|rG cx [0] [] z0<|sn<|sq<|st_join (σ':=⟨[(2,.b (decide (c=(45:Int)∨c=(46:Int))))],[]⟩) ?_ ?_
 refine st_split (c=(45:Int)) (fun h_1=>?_) (fun h_1=>?_)
 refine rG cx [2] [] (tT 1 (told_true h_1) (tD 6 true (c=(45:Int)∨c=(46:Int)) (by simp only [eq_true h_1,tsl]) z0)) ?_
 exact ⟨rfl,by kernel_rfl⟩
 refine rG cx [2] [] (tT 1 (told_false h_1) (tB 4 (c=(46:Int)) (tD 6 (decide (c=(46:Int))) (c=(45:Int)∨c=(46:Int)) (by simp only [eq_false h_1,tsl]) z0))) ?_
 exact ⟨rfl,by kernel_rfl⟩
 refine sn<|rT<|qR (.b (decide (c=(45:Int)∨c=(46:Int)))) (.eq ?g0);rotate_left
 case g0=>exact rfl
theorem con199 (s:ByteArray) (i:Int) (h0:0≤i) (h1:i < s.size) (h2:s.size≤24):Con Tryz.prog 199 [.s s,.i .i64 i] (.b (standsB s i.toNat)) :=
 by
 refine st_con tab_ok (by kernel_rfl) [.tmp 4] 33 Go.Proofs.Tryz.func199 (by kernel_rfl) (by kernel_rfl) ?_
 intro e0 cx
 refine sq<|rG cx [0,1] [] z0<|sn<|sq ?_
 have hl_0:=(rng_byt s)
 have hl_1:=(rng_byt s i.toNat)
 refine rG cx [0,1,5] [] (fA ((0:Int)≤i) (fP (Option.map (fun b ↦ (↑b.toNat:Int)) s[i.toNat]?=some (byt s i.toNat)) (by (with_reducible refine get_byt ?_;omega)) (oA 2 (.i .u8 (byt s i.toNat)) z0))) ?_
 refine sn<|sq<|sq<|st_join (σ':=⟨[(0,.s (s)),(1,.i .i64 (i)),(5,.i .u8 (byt s i.toNat)),(14,.b (decide (isLet (byt s i.toNat)=true∨isDig (byt s i.toNat)=true)))],[]⟩) ?_ ?_
 refine st_split (isLet (byt s i.toNat)=true) (fun h_3=>?_) (fun h_3=>?_)
 refine rg (A:=_∧_∧(AV.b true=AV.b (decide (isLet (byt s i.toNat)=true∨isDig (byt s i.toNat)=true)))) cx [(1,{ val:=some (.b (isLet (byt s i.toNat))),tell:=some (.b (true)) }),(5,{ tell:=some (.b (decide (isLet (byt s i.toNat)=true∨isDig (byt s i.toNat)=true))) })] [0,1,5,14] [] ⟨(told_eqt h_3),(con232 (byt s i.toNat)),(by simp only [eq_true h_3,tsl])⟩ ?_
 exact ⟨rfl,by kernel_rfl⟩
 refine rg (A:=_∧_∧_∧(AV.b (isDig (byt s i.toNat))=AV.b (decide (isLet (byt s i.toNat)=true∨isDig (byt s i.toNat)=true)))) cx [(1,{ val:=some (.b (isLet (byt s i.toNat))),tell:=some (.b (false)) }),(4,{ val:=some (.b (isDig (byt s i.toNat))) }),(5,{ tell:=some (.b (decide (isLet (byt s i.toNat)=true∨isDig (byt s i.toNat)=true))) })] [0,1,5,14] [] ⟨(told_eqn h_3),(con232 (byt s i.toNat)),(con233 (byt s i.toNat)),(by simp only [eq_false h_3,tsl])⟩ ?_
 exact ⟨rfl,by kernel_rfl⟩
 refine sn<|dC (isLet (byt s i.toNat)=true∨isDig (byt s i.toNat)=true) (fun h4=>?_) fun h4=>?_
 refine sq<|rG cx [4] [] z0<|sn<|rT<|nR<|qR (.b (true)) (.eq ?g0);rotate_left
 refine sK<|sn<|sq<|sq<|rG cx [0,1,17] [] (fT (con234 (byt s i.toNat)) (tT 2 (told_not:(AV.b !isMrk (byt s i.toNat))=AV.b (decide ¬isMrk (byt s i.toNat)=true)) (oA 1 (.b (isMrk (byt s i.toNat))) z0)))<|sn<|dC (¬isMrk (byt s i.toNat)=true) (fun h5=>?_) fun h5=>?_
 refine sq<|rG cx [4] [] z0<|sn<|rT<|nR<|qR (.b (false)) (.eq ?g1);rotate_left
 refine sK<|sn<|sq<|sq<|st_join (σ':=⟨[(0,.s (s)),(1,.i .i64 (i)),(26,.b (decide (i=(0:Int)∨i=(↑s.size:Int)-(1:Int))))],[]⟩) ?_ ?_
 refine st_split (i=(0:Int)) (fun h_7=>?_) (fun h_7=>?_)
 refine rG cx [0,1,26] [] (tT 1 (told_true h_7) (tD 8 true (i=(0:Int)∨i=(↑s.size:Int)-(1:Int)) (by simp only [eq_true h_7,tsl]) z0)) ?_
 exact ⟨rfl,by kernel_rfl⟩
 refine rG cx [0,1,26] [] (tT 1 (told_false h_7) (tW 6 ((↑s.size:Int)-(1:Int)) (tB 7 (i=(↑s.size:Int)-(1:Int)) (tD 8 (decide (i=(↑s.size:Int)-(1:Int))) (i=(0:Int)∨i=(↑s.size:Int)-(1:Int)) (by simp only [eq_false h_7,tsl]) z0)))) ?_
 exact ⟨rfl,by kernel_rfl⟩
 refine sn<|dC (i=(0:Int)∨i=(↑s.size:Int)-(1:Int)) (fun h8=>?_) fun h8=>?_
 refine sq<|rG cx [4] [] z0<|sn<|rT<|nR<|qR (.b (false)) (.eq ?g2);rotate_left
 refine sK<|sn<|sq ?_
 have hl_9:=(rng_byt s (i-(1:Int)).toNat)
 refine rG cx [4] [] (tW 2 (i-(1:Int)) (fO ((0:Int)≤i-(1:Int)) (fP (Option.map (fun b ↦ (↑b.toNat:Int)) s[(i-(1:Int)).toNat]?=some (byt s (i-(1:Int)).toNat)) (by (with_reducible refine get_byt ?_;omega)) (fT (con234 (byt s (i-(1:Int)).toNat)) (tT 5 (told_not:(AV.b !isMrk (byt s (i-(1:Int)).toNat))=AV.b (decide ¬isMrk (byt s (i-(1:Int)).toNat)=true)) (oA 3 (.i .u8 (byt s (i-(1:Int)).toNat)) (oA 4 (.b (isMrk (byt s (i-(1:Int)).toNat))) z0))))))) ?_
 refine sn<|rT<|qR (.b (decide ¬isMrk (byt s (i-(1:Int)).toNat)=true)) (.eq ?g3);rotate_left
 revert h4;rotate_left
 revert h4 h5;rotate_left
 revert h4 h5 h8;rotate_left
 revert h4 h5 h8;rotate_left
 case' g3=>refine (fun h k l=>?_)
 case' g2=>refine (fun h k l=>?_)
 case' g1=>refine (fun h k=>?_)
 case' g0=>refine (fun h=>?_)
 ·rw [(stands_iff s i.toNat).2 (h.elim .inl fun h=>.inr (.inl h))]
 ·rw [not_stands];rw [stands_iff];rintro (a | a | a)
  ·exact h (.inl a)
  ·exact h (.inr a)
  ·exact k a.1
 ·rw [not_stands];rw [stands_iff];rintro (a | a | a)
  ·exact h (.inl a)
  ·exact h (.inr a)
  ·omega
 ·have e:(i-1).toNat=i.toNat-1:=by omega
  rw [e]
  by_cases m:isMrk (byt s (i.toNat-1))=true
  ·rw [not_stands]
   ·rw [m];rfl
   ·rw [stands_iff];rintro (a | a | a)
    ·exact h (.inl a)
    ·exact h (.inr a)
    ·exact a.2.2.2 m
  ·rw [(stands_iff s i.toNat).2 (.inr (.inr ⟨Classical.not_not.1 k,by omega,by omega,m⟩)),decide_eq_true m]
theorem con172 (s:ByteArray):Con Tryz.prog 172 [.s s] (.tup [.dead,.i .i64 (chkE s)]) :=
 by
 refine st_con tab_ok (by kernel_rfl) [.tmp 2,.tmp 3] 48 Go.Proofs.Tryz.func172 (by kernel_rfl) (by kernel_rfl) ?_
 intro e0 cx
 refine sq<|rG cx [0] [] z0<|sn<|sq<|sq<|rG cx [0,7] [] (tT 1 (told_seq:AV.b (s.toList == { data:=#[]:ByteArray }.toList)=AV.b (decide (s={ data:=#[]:ByteArray }))) z0)<|sn<|dC (s={ data:=#[]:ByteArray }) (fun hh0=>?_) fun hh0=>?_
 refine sq<|rG cx [2,3] [] z0<|sn<|rT<|nR<|qR (.tup [.i .i64 ((0:Int)),.i .i64 ((20:Int))]) (AVle.tup (ZLe.cons AVle.dead (ZLe.cons (AVle.eq (show AV.i .i64 (20:Int)=AV.i .i64 (chkE s) from ?g0)) ZLe.nil)));rotate_left
 refine sK<|sn<|sq<|sq<|rG cx [0,10] [] (tB 2 ((24:Int) < (↑s.size:Int)) z0)<|sn<|dC ((24:Int) < (↑s.size:Int)) (fun hh1=>?_) fun hh1=>?_
 refine sq<|rG cx [2,3] [] z0<|sn<|rT<|nR<|qR (.tup [.i .i64 ((0:Int)),.i .i64 ((21:Int))]) (AVle.tup (ZLe.cons AVle.dead (ZLe.cons (AVle.eq (show AV.i .i64 (21:Int)=AV.i .i64 (chkE s) from ?g1)) ZLe.nil)));rotate_left
 refine sK<|sn<|sq<|sq<|rG cx [0,12,13] [] z0<|sn<|bL 0<|st_loop (X:=Int) (fun x=>⟨[(0,.s (s)),(12,.i .i64 ((↑s.size:Int))),(13,.i .i64 (x))],[]⟩) (fun x ↦ decG s x) (fun x ↦ invG s x) [0,12,13] [] ((0:Int)) (by kernel_rfl) (by kernel_rfl) (show invG s (0:Int) from ?g2) ?_;rotate_left
 intro i2 h_3
 obtain ⟨hh4,hh5,h6⟩:(0:Int)≤i2∧i2≤(↑s.size:Int)∧∀ (j:Nat),(↑j:Int) < i2→standsB s j=true:=h_3
 refine sq<|rG cx [0,12,13,14] [] (tB 0 (i2 < (↑s.size:Int)) z0)<|sn<|sq<|dC (i2 < (↑s.size:Int)) (fun h7=>?_) fun h7=>?_
 refine sK<|sn<|sq<|bL 1<|sq<|rG cx [0,12,13,4] [] z0<|sn<|sq ?_
 have hl_8:=(rng_byt s)
 have hl_9:=(rng_byt s i2.toNat)
 refine rG cx [0,12,13,4,5] [] (fA ((0:Int)≤i2) (fP (Option.map (fun b ↦ (↑b.toNat:Int)) s[i2.toNat]?=some (byt s i2.toNat)) (by (with_reducible refine get_byt ?_;omega)) (oA 2 (.i .u8 (byt s i2.toNat)) z0))) ?_
 refine sn<|sq<|sq<|st_join (σ':=⟨[(0,.s (s)),(12,.i .i64 ((↑s.size:Int))),(13,.i .i64 (i2)),(4,.i .i64 (i2)),(5,.i .u8 (byt s i2.toNat)),(24,.b (decide (isLet (byt s i2.toNat)=true∨isDig (byt s i2.toNat)=true)))],[]⟩) ?_ ?_
 refine st_split (isLet (byt s i2.toNat)=true) (fun h_11=>?_) (fun h_11=>?_)
 refine rg (A:=_∧_∧(AV.b true=AV.b (decide (isLet (byt s i2.toNat)=true∨isDig (byt s i2.toNat)=true)))) cx [(1,{ val:=some (.b (isLet (byt s i2.toNat))),tell:=some (.b (true)) }),(5,{ tell:=some (.b (decide (isLet (byt s i2.toNat)=true∨isDig (byt s i2.toNat)=true))) })] [0,12,13,4,5,24] [] ⟨(told_eqt h_11),(con201 (byt s i2.toNat)),(by simp only [eq_true h_11,tsl])⟩ ?_
 exact ⟨rfl,by kernel_rfl⟩
 refine rg (A:=_∧_∧_∧(AV.b (isDig (byt s i2.toNat))=AV.b (decide (isLet (byt s i2.toNat)=true∨isDig (byt s i2.toNat)=true)))) cx [(1,{ val:=some (.b (isLet (byt s i2.toNat))),tell:=some (.b (false)) }),(4,{ val:=some (.b (isDig (byt s i2.toNat))) }),(5,{ tell:=some (.b (decide (isLet (byt s i2.toNat)=true∨isDig (byt s i2.toNat)=true))) })] [0,12,13,4,5,24] [] ⟨(told_eqn h_11),(con201 (byt s i2.toNat)),(con202 (byt s i2.toNat)),(by simp only [eq_false h_11,tsl])⟩ ?_
 exact ⟨rfl,by kernel_rfl⟩
 refine sn<|dC (isLet (byt s i2.toNat)=true∨isDig (byt s i2.toNat)=true) (fun h_12=>?_) fun h_12=>?_
 refine eX 1<|nE<|bH<|sn<|rG cx [0,12,13] [] (tW 0 (i2+(1:Int)) z0)<|sn<|loop_next (i2+(1:Int)) (by kernel_rfl) (show ((↑s.size:Int)-(i2+(1:Int))).toNat < ((↑s.size:Int)-i2).toNat from (by omega)) (show invG s (i2+(1:Int)) from ?g3);rotate_left
 refine sK<|sn<|sq<|st_join (σ':=⟨[(0,.s (s)),(12,.i .i64 ((↑s.size:Int))),(13,.i .i64 (i2)),(4,.i .i64 (i2)),(45,.b (decide (¬isMrk (byt s i2.toNat)=true∨i2=(0:Int)∨i2=(↑s.size:Int)-(1:Int)∨isMrk (byt s (i2-(1:Int)).toNat)=true)))],[]⟩) ?_ ?_
 refine st_split (¬isMrk (byt s i2.toNat)=true) (fun h_14=>?_) (fun h_14=>?_)
 have hl_15:=(rng_byt s (i2-(1:Int)).toNat)
 refine rg (A:=_∧_∧(AV.b true=AV.b (decide (¬isMrk (byt s i2.toNat)=true∨i2=(0:Int)∨i2=(↑s.size:Int)-(1:Int)∨isMrk (byt s (i2-(1:Int)).toNat)=true)))) cx [(1,{ val:=some (.b (isMrk (byt s i2.toNat))),tell:=some (.b (false)) }),(20,{ tell:=some (.b (decide (¬isMrk (byt s i2.toNat)=true∨i2=(0:Int)∨i2=(↑s.size:Int)-(1:Int)∨isMrk (byt s (i2-(1:Int)).toNat)=true))) })] [0,12,13,4,45] [] ⟨(told_eqn h_14),(con203 (byt s i2.toNat)),(by simp only [eq_false h_14,tsl])⟩ ?_
 exact ⟨rfl,by kernel_rfl⟩
 refine st_split (i2=(0:Int)) (fun h_16=>?_) (fun h_16=>?_)
 have hl_17:=(rng_byt s (i2-(1:Int)).toNat)
 refine rG cx [0,12,13,4,45] [] (fT (con203 (byt s i2.toNat)) (tT 2 (told_not:(AV.b !isMrk (byt s i2.toNat))=AV.b (decide ¬isMrk (byt s i2.toNat)=true)) (tT 3 (told_false h_14) (tT 5 (told_true h_16) (tT 20 (by first | (simp only [eq_false h_14,eq_true h_16,tsl];done) | simp_all:AV.b true=AV.b (decide (¬isMrk (byt s i2.toNat)=true∨i2=(0:Int)∨i2=(↑s.size:Int)-(1:Int)∨isMrk (byt s (i2-(1:Int)).toNat)=true))) (oA 1 (.b (isMrk (byt s i2.toNat))) z0)))))) ?_
 exact ⟨rfl,by kernel_rfl⟩
 refine st_split (i2=(↑s.size:Int)-(1:Int)) (fun h_18=>?_) (fun h_18=>?_)
 have hl_19:=(rng_byt s (i2-(1:Int)).toNat)
 refine rG cx [0,12,13,4,45] [] (fT (con203 (byt s i2.toNat)) (tT 2 (told_not:(AV.b !isMrk (byt s i2.toNat))=AV.b (decide ¬isMrk (byt s i2.toNat)=true)) (tT 3 (told_false h_14) (tT 5 (told_false h_16) (tW 11 ((↑s.size:Int)-(1:Int)) (tT 12 (told_true h_18) (tT 20 (by first | (simp only [eq_false h_14,eq_false h_16,eq_true h_18,tsl];done) | simp_all:AV.b true=AV.b (decide (¬isMrk (byt s i2.toNat)=true∨i2=(0:Int)∨i2=(↑s.size:Int)-(1:Int)∨isMrk (byt s (i2-(1:Int)).toNat)=true))) (oA 1 (.b (isMrk (byt s i2.toNat))) z0)))))))) ?_
 exact ⟨rfl,by kernel_rfl⟩
 have hl_20:=(rng_byt s (i2-(1:Int)).toNat)
 refine rG cx [0,12,13,4,45] [] (fT (con203 (byt s i2.toNat)) (tT 2 (told_not:(AV.b !isMrk (byt s i2.toNat))=AV.b (decide ¬isMrk (byt s i2.toNat)=true)) (tT 3 (told_false h_14) (tT 5 (told_false h_16) (tW 11 ((↑s.size:Int)-(1:Int)) (tT 12 (told_false h_18) (tW 17 (i2-(1:Int)) (fO ((0:Int)≤i2-(1:Int)) (fP (Option.map (fun b ↦ (↑b.toNat:Int)) s[(i2-(1:Int)).toNat]?=some (byt s (i2-(1:Int)).toNat)) (by (with_reducible refine get_byt ?_;omega)) (fT (con203 (byt s (i2-(1:Int)).toNat)) (tT 20 (by first | (simp only [eq_false h_14,eq_false h_16,eq_false h_18,tsl];done) | simp_all:AV.b (isMrk (byt s (i2-(1:Int)).toNat))=AV.b (decide (¬isMrk (byt s i2.toNat)=true∨i2=(0:Int)∨i2=(↑s.size:Int)-(1:Int)∨isMrk (byt s (i2-(1:Int)).toNat)=true))) (oA 1 (.b (isMrk (byt s i2.toNat))) (oA 18 (.i .u8 (byt s (i2-(1:Int)).toNat)) (oA 19 (.b (isMrk (byt s (i2-(1:Int)).toNat))) z0)))))))))))))) ?_
 exact ⟨rfl,by kernel_rfl⟩
 refine sn<|dC (¬isMrk (byt s i2.toNat)=true∨i2=(0:Int)∨i2=(↑s.size:Int)-(1:Int)∨isMrk (byt s (i2-(1:Int)).toNat)=true) (fun h_21=>?_) fun h_21=>?_
 refine sq<|rG cx [2,3] [] z0<|sn<|rT<|bR<|nR<|nR<|bR<|nR<|qR (.tup [.i .i64 (i2),.i .i64 ((22:Int))]) (AVle.tup (ZLe.cons AVle.dead (ZLe.cons (AVle.eq (show AV.i .i64 (22:Int)=AV.i .i64 (chkE s) from ?g4)) ZLe.nil)));rotate_left
 refine sK<|bN<|sn<|rG cx [0,12,13] [] (tW 0 (i2+(1:Int)) z0)<|sn<|loop_next (i2+(1:Int)) (by kernel_rfl) (show ((↑s.size:Int)-(i2+(1:Int))).toNat < ((↑s.size:Int)-i2).toNat from (by omega)) (show invG s (i2+(1:Int)) from ?g5);rotate_left
 refine eX 0<|nE<|nE<|bH<|sn<|sq<|rG cx [2,3] [] z0<|sn<|rT<|qR (.tup [.i .i64 ((0:Int)),.i .i64 ((0:Int))]) (AVle.tup (ZLe.cons AVle.dead (ZLe.cons (AVle.eq (show AV.i .i64 (0:Int)=AV.i .i64 (chkE s) from ?g6)) ZLe.nil)));rotate_left
 revert hh0;rotate_left
 revert hh0 hh1;rotate_left
 revert hh0 hh1;rotate_left
 clear hl_9;revert hh0 hh1 i2 hh4 hh5 h6 h7 h_12;rotate_left
 clear hl_9;revert hh0 hh1 i2 hh4 hh5 h6 h7 h_12 h_21;rotate_left
 clear hl_9;revert hh0 hh1 i2 hh4 hh5 h6 h7 h_12 h_21;rotate_left
 revert hh0 hh1 i2 hh4 hh5 h6 h7;rotate_left
 case g2=>exact (fun h k=>⟨by omega,by omega,fun j hj=>by omega⟩)
 case' g6=>refine (fun h k i h0 h1 h2 h3=>?_)
 case' g5=>refine (fun h k i h0 h1 h2 h3 h4 h5=>?_)
 case' g4=>refine (fun h k i h0 h1 h2 h3 h4 h5=>?_)
 case' g3=>refine (fun h k i h0 h1 h2 h3 h4=>?_)
 case' g1=>refine (fun h k=>?_)
 case' g0=>refine (fun h=>?_)
 ·rw [chkE,if_pos ((size_zero s).2 h)]
 ·rw [chkE,if_neg (fun e=>h ((size_zero s).1 e)),if_pos (by omega)]
 ·exact invG_step h0 h3 h2 ((stands_iff _ _).2 (h4.elim .inl fun h=>.inr (.inl h)))
 ·rw [chkE_bad (fun e=>h ((size_zero s).1 e)) (by omega) (i:=i.toNat) (by omega) (not_stands _)]
  have e:(i-1).toNat=i.toNat-1:=by omega
  rw [e] at h5
  rw [stands_iff];rintro (a | a | a)
  ·exact h4 (.inl a)
  ·exact h4 (.inr a)
  ·rcases h5 with h5 | h5 | h5 | h5
   ·exact h5 a.1
   ·omega
   ·omega
   ·exact a.2.2.2 h5
 ·have e:(i-1).toNat=i.toNat-1:=by omega
  rw [e] at h5
  refine invG_step h0 h3 h2 ((stands_iff _ _).2 (.inr (.inr ⟨Classical.byContradiction fun a=>h5 (.inl a),?_,?_,fun a=>h5 (.inr (.inr (.inr a)))⟩)))
  ·intro a;exact h5 (.inr (.inl (by omega)))
  ·intro a;exact h5 (.inr (.inr (.inl (by omega))))
 ·rw [chkE_ok (fun e=>h ((size_zero s).1 e)) (by omega) fun j hj=>h2 j (by omega)]
theorem con169 (s:ByteArray):Con Tryz.prog 169 [.s s] (.tup [.dead,.i .i64 (chkE s)]) :=
 by
 refine st_con tab_ok (by kernel_rfl) [.tmp 2,.tmp 3] 22 Go.Proofs.Tryz.func169 (by kernel_rfl) (by kernel_rfl) ?_
 intro e0 cx
 refine sq<|rG cx [0] [] z0<|sn<|sq<|sq<|rG cx [0,7] [] (tB 2 ((↑s.size:Int)=(0:Int)) z0)<|sn<|dC ((↑s.size:Int)=(0:Int)) (fun hh0=>?_) fun hh0=>?_
 refine sq<|rG cx [2,3] [] z0<|sn<|rT<|nR<|qR (.tup [.i .i64 ((0:Int)),.i .i64 ((20:Int))]) (AVle.tup (ZLe.cons AVle.dead (ZLe.cons (AVle.eq (show AV.i .i64 (20:Int)=AV.i .i64 (chkE s) from ?g0)) ZLe.nil)));rotate_left
 refine sK<|sn<|sq<|sq<|rG cx [0,10] [] (tB 2 ((24:Int) < (↑s.size:Int)) z0)<|sn<|dC ((24:Int) < (↑s.size:Int)) (fun hh1=>?_) fun hh1=>?_
 refine sq<|rG cx [2,3] [] z0<|sn<|rT<|nR<|qR (.tup [.i .i64 ((0:Int)),.i .i64 ((21:Int))]) (AVle.tup (ZLe.cons AVle.dead (ZLe.cons (AVle.eq (show AV.i .i64 (21:Int)=AV.i .i64 (chkE s) from ?g1)) ZLe.nil)));rotate_left
 refine sK<|sn<|sq<|sq<|rG cx [0,4] [] z0<|sn<|bL 0<|st_loop (X:=Int) (fun x=>⟨[(0,.s (s)),(4,.i .i64 (x))],[]⟩) (fun x ↦ decG s x) (fun x ↦ invG s x) [0,4] [] ((0:Int)) (by kernel_rfl) (by kernel_rfl) (show invG s (0:Int) from ?g2) ?_;rotate_left
 intro i2 h_3
 obtain ⟨hh4,h5,h6⟩:(0:Int)≤i2∧i2≤(↑s.size:Int)∧∀ (j:Nat),(↑j:Int) < i2→standsB s j=true:=h_3
 refine sq<|sq<|rG cx [0,4,14] [] (tB 3 (i2 < (↑s.size:Int)) z0)<|sn<|dC (i2 < (↑s.size:Int)) (fun h7=>?_) fun h7=>?_
 refine sK<|sn<|sq<|bL 1<|sq<|rG cx [0,4,20] [] (fT (con199 (s) (i2) (by (with_reducible assumption)) (by (with_reducible assumption)) (by omega)) (tT 3 (told_not:(AV.b !standsB s i2.toNat)=AV.b (decide ¬standsB s i2.toNat=true)) (oA 2 (.b (standsB s i2.toNat)) z0)))<|sn<|dC (¬standsB s i2.toNat=true) (fun h8=>?_) fun h8=>?_
 refine sq<|rG cx [2,3] [] z0<|sn<|rT<|bR<|nR<|nR<|bR<|nR<|qR (.tup [.i .i64 (i2),.i .i64 ((22:Int))]) (AVle.tup (ZLe.cons AVle.dead (ZLe.cons (AVle.eq (show AV.i .i64 (22:Int)=AV.i .i64 (chkE s) from ?g3)) ZLe.nil)));rotate_left
 refine sK<|bN<|sn<|rG cx [0,4] [] (tW 1 (i2+(1:Int)) z0)<|sn<|loop_next (i2+(1:Int)) (by kernel_rfl) (show ((↑s.size:Int)-(i2+(1:Int))).toNat < ((↑s.size:Int)-i2).toNat from (by omega)) (show invG s (i2+(1:Int)) from ?g4);rotate_left
 refine eX 0<|nE<|nE<|bH<|sn<|sq<|rG cx [2,3] [] z0<|sn<|rT<|qR (.tup [.i .i64 ((0:Int)),.i .i64 ((0:Int))]) (AVle.tup (ZLe.cons AVle.dead (ZLe.cons (AVle.eq (show AV.i .i64 (0:Int)=AV.i .i64 (chkE s) from ?g5)) ZLe.nil)));rotate_left
 revert hh0;rotate_left
 revert hh0 hh1;rotate_left
 revert hh0 hh1;rotate_left
 revert hh0 hh1 i2 hh4 h5 h6 h7 h8;rotate_left
 revert hh0 hh1 i2 hh4 h5 h6 h7 h8;rotate_left
 revert hh0 hh1 i2 hh4 h5 h6 h7;rotate_left
 case g2=>exact (fun h k=>⟨by omega,by omega,fun j hj=>by omega⟩)
 case' g5=>refine (fun h k i h0 h1 h2 h3=>?_)
 case' g4=>refine (fun h k i h0 h1 h2 h3 h4=>?_)
 case' g3=>refine (fun h k i h0 h1 h2 h3 h4=>?_)
 case' g1=>refine (fun h k=>?_)
 case' g0=>refine (fun h=>?_)
 ·rw [chkE,if_pos (by omega)]
 ·rw [chkE,if_neg (by omega),if_pos (by omega)]
 ·rw [chkE_bad (by omega) (by omega) (i:=i.toNat) (by omega) (not_stands h4)]
 ·exact invG_step h0 h3 h2 (Classical.not_not.1 h4)
 ·rw [chkE_ok (by omega) (by omega) fun j hj=>h2 j (by omega)]
theorem con138 (s:ByteArray):Con Tryz.prog 138 [.s s] (.b (good s)) :=
 by
 refine st_con tab_ok (by kernel_rfl) [.tmp 2] 12 Go.Proofs.Tryz.func138 (by kernel_rfl) (by kernel_rfl) ?_
 intro e0 cx
 refine sq<|rG cx [0] [] z0<|sn<|sq<|rG cx [4] [] (fT (con172 (s)) (oA 1 (resC (con172 (s))) z0))<|sn<|sq<|rG cx [2] [] (tB 1 (chkE s=(0:Int)) z0)<|sn<|rT<|qR (.b (decide (chkE s=(0:Int)))) (.eq ?g0);rotate_left
 case g0=>exact rfl
theorem con125 (s:ByteArray):Con Tryz.prog 125 [.s s] (.b (good s)) :=
 by
 refine st_con tab_ok (by kernel_rfl) [.tmp 2] 12 Go.Proofs.Tryz.func125 (by kernel_rfl) (by kernel_rfl) ?_
 intro e0 cx
 refine sq<|rG cx [0] [] z0<|sn<|sq<|rG cx [4] [] (fT (con169 (s)) (oA 1 (resC (con169 (s))) z0))<|sn<|sq<|rG cx [2] [] (tB 1 (chkE s=(0:Int)) z0)<|sn<|rT<|qR (.b (decide (chkE s=(0:Int)))) (.eq ?g0);rotate_left
 case g0=>exact rfl
end Go.Proofs.YtaiepnaokhpmcaaGreat
namespace Go.Proofs.YtaiepnaokhpmcaaGreat
open Go.E
set_option maxRecDepth 100000
set_option maxHeartbeats 4000000
theorem ordSt:Ord3 cmpSt:=by
 refine ⟨fun x y=>?_,fun x y=>?_,fun x y z h1 h2=>?_,fun x y z h1 h2=>?_⟩
 ·rw [cmpSt_less];split <;> (try split) <;> simp
 ·rw [cmpSt_less,cmpSt_less]
  by_cases a:sLt x y=true
  ·have b:¬ sLt y x=true:=fun b=>sLt_irr _ (sLt_trans a b)
   rw [if_pos a,if_neg b,if_pos a];rfl
  ·by_cases b:sLt y x=true
   ·rw [if_pos b,if_neg a,if_pos b]
   ·rw [if_neg b,if_neg a,if_neg a,if_neg b];rfl
 ·rw [cmpSt_less] at *
  by_cases c:sLt x z=true
  ·rw [if_pos c];omega
  ·rw [if_neg c]
   by_cases d:sLt z x=true
   ·exfalso
    by_cases a:sLt x y=true
    ·have e:sLt z y=true:=sLt_trans d a
     have f:¬ sLt y z=true:=fun f=>sLt_irr _ (sLt_trans e f)
     rw [if_neg f,if_pos e] at h2
     omega
    ·by_cases b:sLt y x=true
     ·rw [if_neg a,if_pos b] at h1;omega
     ·have:=sLt_total a b
      subst this
      rw [if_neg c,if_pos d] at h2
      omega
   ·rw [if_neg d];omega
 ·rw [cmpSt_less] at *
  have eq:∀ u v:ByteArray,(if sLt u v=true then (-1:Int) else if sLt v u=true then 1 else 0)=0→u=v:=by
   intro u v h
   by_cases a:sLt u v=true
   ·rw [if_pos a] at h;omega
   ·by_cases b:sLt v u=true
    ·rw [if_neg a,if_pos b] at h;omega
    ·exact sLt_total a b
  have e1:=eq _ _ h1
  have e2:=eq _ _ h2
  subst e1 e2
  rw [if_neg (sLt_irr x),if_neg (sLt_irr x)]
theorem cmpSt_zero {a b:ByteArray}:cmpSt a b=0↔a=b:=by
 rw [cmpSt_less]
 constructor
 ·intro h
  by_cases c:sLt a b=true
  ·rw [if_pos c] at h;omega
  ·by_cases d:sLt b a=true
   ·rw [if_neg c,if_pos d] at h;omega
   ·exact sLt_total c d
 ·rintro rfl
  rw [if_neg (sLt_irr _),if_neg (sLt_irr _)]
def cmpRec (r s:Record):Int:=if cmpSt r.sku s.sku≠0 then cmpSt r.sku s.sku else cmpP r.past s.past
theorem ordRec:Ord3 cmpRec:=ord_then ordSt ordP (fun r:Record=>r.sku) (fun r=>r.past)
def noneS:ByteArray:=⟨#[]⟩
noncomputable def ckR (r:Record):Int:=if ¬ r.sku=noneS∧good r.sku=false then 5 else if ¬ r.past=normP r.past∨sizeP r.past=0 then 1 else 0
noncomputable def okRs (rs:List Record) (i:Nat):Bool:=decide (ckR rs[i]! = 0) && (decide (i=0) || decide (cmpRec rs[i-1]! rs[i]! < 0))
noncomputable def okLR (rs:List Record):Bool:=allUp (okRs rs) rs.length
noncomputable def recE (rs:List Record):Int:=if okLR rs=true then 0 else 1
def upR (rs:List Record):Prop:=rs.Pairwise fun r s=>cmpRec r s < 0
def formR (rs:List Record):Prop:=(∀ r∈rs,ckR r=0)∧upR rs
theorem ck_ok {r:Record}:ckR r=0↔(r.sku=noneS∨good r.sku=true)∧r.past=normP r.past∧¬ sizeP r.past=0:=by
 unfold ckR
 by_cases a:¬ r.sku=noneS∧good r.sku=false
 ·rw [if_pos a]
  constructor
  ·intro h;omega
  ·rintro ⟨k | k,_⟩
   ·exact absurd k a.1
   ·rw [a.2] at k;cases k
 ·rw [if_neg a]
  by_cases b:¬ r.past=normP r.past∨sizeP r.past=0
  ·rw [if_pos b]
   constructor
   ·intro h;omega
   ·rintro ⟨_,h1,h2⟩
    rcases b with b | b
    ·exact absurd h1 b
    ·exact absurd b h2
  ·rw [if_neg b]
   refine ⟨fun _=>⟨?_,Classical.byContradiction fun k=>b (.inl k),fun k=>b (.inr k)⟩,fun _=>rfl⟩
   by_cases c:r.sku=noneS
   ·exact .inl c
   ·right
    cases e:good r.sku with
    | true=>rfl
    | false=>exact absurd ⟨c,e⟩ a
theorem okRs_iff (rs:List Record) (i:Nat):okRs rs i=true↔ckR rs[i]! = 0∧(i=0∨cmpRec rs[i-1]! rs[i]! < 0):=by
 unfold okRs
 rw [Bool.and_eq_true,Bool.or_eq_true,decide_eq_true_iff,decide_eq_true_iff,decide_eq_true_iff]
theorem up_of_adj {rs:List Record} (h:∀ i:Nat,0 < i→i < rs.length→cmpRec rs[i-1]! rs[i]! < 0):upR rs:=by
 have key:∀ d i:Nat,i+d+1 < rs.length→cmpRec rs[i]! rs[i+d+1]! < 0:=by
  intro d
  induction d with
  | zero=>intro i hi;exact h (i+1) (by omega) hi
  | succ d ih =>
   intro i hi
   have h1:=ih i (by omega)
   have h2:=h (i+d+2) (by omega) (by omega)
   rw [show i+d+2-1=i+d+1 by omega] at h2
   rw [show i+(d+1)+1=i+d+2 by omega]
   exact ordRec.lt h1 (by omega)
 unfold upR
 rw [List.pairwise_iff_getElem]
 intro i j hi hj hij
 have:=key (j-i-1) i (by omega)
 rw [show i+(j-i-1)+1=j by omega,getElem!_pos rs i hi,getElem!_pos rs j hj] at this
 exact this
theorem okLR_iff (rs:List Record):okLR rs=true↔formR rs:=by
 unfold okLR
 rw [allUp_iff]
 constructor
 ·intro h
  refine ⟨fun r hr=>?_,up_of_adj fun i h0 hi=>?_⟩
  ·obtain ⟨i,hi,rfl⟩:=List.mem_iff_getElem.1 hr
   have:=((okRs_iff _ _).1 (h i hi)).1
   rwa [getElem!_pos rs i hi] at this
  ·rcases ((okRs_iff _ _).1 (h i hi)).2 with k | k
   ·omega
   ·exact k
 ·intro h i hi
  rw [okRs_iff]
  refine ⟨h.1 _ (bang_in hi),?_⟩
  by_cases e:i=0
  ·exact .inl e
  ·right
   have:=List.pairwise_iff_getElem.1 h.2 (i-1) i (by omega) hi (by omega)
   rw [← getElem!_pos rs (i-1) (by omega),← getElem!_pos rs i hi] at this
   exact this
theorem recE_iff (rs:List Record):recE rs=0↔formR rs:=by
 rw [← okLR_iff]
 unfold recE
 split
 ·rename_i h;simp [h]
 ·rename_i h;simp [h]
theorem recE_bad {rs:List Record} {i:Nat} (hi:i < rs.length) (h:¬ okRs rs i=true):recE rs=1:=by
 unfold recE okLR
 rw [if_neg]
 intro k
 exact h ((allUp_iff _ _).1 k i hi)
theorem recE_ok {rs:List Record} (h:∀ j:Nat,j < rs.length→okRs rs j=true):recE rs=0:=by
 unfold recE okLR
 rw [if_pos ((allUp_iff _ _).2 h)]
end Go.Proofs.YtaiepnaokhpmcaaGreat
namespace Go.Proofs.YtaiepnaokhpmcaaGreat
open Go.E
set_option maxRecDepth 100000
set_option maxHeartbeats 4000000
def invZ (a:List Run) (s i:Int):Prop:=0≤i∧i≤(nrm a).length∧s=sizeR ((nrm a).take i.toNat)
def decZ (a:List Run) (s i:Int):Nat:=((nrm a).length-i).toNat
def invLa (a:List Run) (m i:Int):Prop:=0≤i∧i≤a.length∧m=maxR (a.take i.toNat)
def decLa (a:List Run) (m i:Int):Nat:=(a.length-i).toNat
def invSz (p:Past) (s i:Int) (T:Nat→List Run):Prop:=T=openT [p]∧0≤i∧i≤16∧s=sizeT (openT [p]) i.toNat
def decSz (p:Past) (s i:Int) (T:Nat→List Run):Nat:=(16-i).toNat
theorem sepR_take {l:List Run} (h:sepR l) (n:Nat):sepR (l.take n):=⟨h.1.sublist (List.take_sublist _ _),fun r hr=>h.2 r (List.mem_of_mem_take hr)⟩
theorem sizeR_next {l:List Run} {i:Int} (h0:0≤i) (h:i < l.length):sizeR (l.take (i+1).toNat)=sizeR (l.take i.toNat)+(l[i.toNat]!.hi-l[i.toNat]!.lo+1):=by
 rw [← take_step h0 h,sizeR_app]
 simp [sizeR]
theorem tot_le {p:Past} (hb:p.cloud.length*16≤140737488350000):totP [p]*16≤140737488351232:=by rw [tot_one];omega
theorem open_le {p:Past} (hb:p.cloud.length*16≤140737488350000) (r:Nat):(openT [p] r).length*16≤140737488351232:=by
 have:=openT_len r [p]
 have:=tot_le hb
 omega
theorem con180 (a:List Run) (hb:a.length*16≤140737488351232):Con Tryz.prog 180 [.sl (a.map c154)] (.i .i64 (sizeR (nrm a))) :=
 by
 have hs:=nrm_sep a
 have hr:∀ i:Int,0≤i→i < (nrm a).length→1≤(nrm a)[i.toNat]!.lo∧(nrm a)[i.toNat]!.lo≤(nrm a)[i.toNat]!.hi∧(nrm a)[i.toNat]!.hi≤1000000000:=fun i h0 h1=>hs.2 _ (bang_in (by omega))
 have hz:∀ i:Int,0≤sizeR ((nrm a).take i.toNat)∧sizeR ((nrm a).take i.toNat)≤1000000000:=fun i=>sizeR_rng (sepR_take hs _)
 refine con_lens 0 (c154) (a) (by kernel_rfl) Go.Proofs.Tryz.func180 (by kernel_rfl) fun hl_0=>st_con tab_ok (by kernel_rfl) [.tmp 2] 23 Go.Proofs.Tryz.func180 (by kernel_rfl) (by kernel_rfl) ?_
 intro e0 cx
 refine sq<|rG cx [0] [] z0<|sn<|sq<|rG cx [0,3] [] z0<|sn<|sq<|sq ?_
 have hl_0:=(rng_nrm a)
 refine rG cx [3,7,8,9] [] (fT (con182 (a) (by (with_reducible assumption))) (tL 2 c154 (nrm a) (oA 1 (.sl (List.map c154 (nrm a))) z0)))<|sn<|bL 0<|st_loop (X:=Int×Int) (fun x=>⟨[(3,.i .i64 (x.1)),(7,.sl (List.map c154 (nrm a))),(8,.i .i64 ((↑(nrm a).length:Int))),(9,.i .i64 (x.2))],[]⟩) (fun x ↦ decZ a x.1 x.2) (fun x ↦ invZ a x.1 x.2) [3,7,8,9] [] (((0:Int),(0:Int))) (by kernel_rfl) (by kernel_rfl) (show invZ a (0:Int) (0:Int) from ?g0) ?_;rotate_left
 rintro ⟨s1,i2⟩ h_3
 obtain ⟨h4,h5,h6⟩:(0:Int)≤i2∧i2≤(↑(nrm a).length:Int)∧s1=sizeR (List.take i2.toNat (nrm a)):=h_3
 refine sq<|rG cx [3,7,8,9,10] [] (tB 0 (i2 < (↑(nrm a).length:Int)) z0)<|sn<|sq<|dC (i2 < (↑(nrm a).length:Int)) (fun h7=>?_) fun h7=>?_
 refine sK<|sn<|sq<|bL 1<|sq<|rG cx [3,7,8,9,5] [5] (fA ((0:Int)≤i2) (fG c154 (nrm a) i2.toNat (fR (2:Nat) (fN 2 2 (oR 0 (c154 (nrm a)[i2.toNat]!) z0)))))<|sn<|rG cx [3,7,8,9] [] (tT 5 (told_i64 ?g1 ?g2:AV.i .i64 (IntKind.i64.wrap ((nrm a)[i2.toNat]!.hi-(nrm a)[i2.toNat]!.lo))=AV.i .i64 ((nrm a)[i2.toNat]!.hi-(nrm a)[i2.toNat]!.lo)) (tT 6 (told_i64 ?g3 ?g4:AV.i .i64 (IntKind.i64.wrap ((nrm a)[i2.toNat]!.hi-(nrm a)[i2.toNat]!.lo+(1:Int)))=AV.i .i64 ((nrm a)[i2.toNat]!.hi-(nrm a)[i2.toNat]!.lo+(1:Int))) (tT 7 (told_i64 ?g5 ?g6:AV.i .i64 (IntKind.i64.wrap (s1+((nrm a)[i2.toNat]!.hi-(nrm a)[i2.toNat]!.lo+(1:Int))))=AV.i .i64 (s1+((nrm a)[i2.toNat]!.hi-(nrm a)[i2.toNat]!.lo+(1:Int)))) z0))) ?_;rotate_left 6
 refine bN<|sn<|rG cx [3,7,8,9] [] (tW 0 (i2+(1:Int)) z0)<|sn<|loop_next ((s1+((nrm a)[i2.toNat]!.hi-(nrm a)[i2.toNat]!.lo+(1:Int)),i2+(1:Int))) (by kernel_rfl) (show ((↑(nrm a).length:Int)-(i2+(1:Int))).toNat < ((↑(nrm a).length:Int)-i2).toNat from (by omega)) (show invZ a (s1+((nrm a)[i2.toNat]!.hi-(nrm a)[i2.toNat]!.lo+(1:Int))) (i2+(1:Int)) from ?g7);rotate_left
 refine eX 0<|nE<|nE<|bH<|sn<|sq<|rG cx [2] [] z0<|sn<|rT<|qR (.i .i64 (s1)) (.eq ?g8);rotate_left
 rotate_left
 revert s1 i2 h4 h5 h6 h7;rotate_left
 revert s1 i2 h4 h5 h6 h7;rotate_left
 revert s1 i2 h4 h5 h6 h7;rotate_left
 revert s1 i2 h4 h5 h6 h7;rotate_left
 revert s1 i2 h4 h5 h6 h7;rotate_left
 revert s1 i2 h4 h5 h6 h7;rotate_left
 revert s1 i2 h4 h5 h6 h7;rotate_left
 revert s1 i2 h4 h5 h6 h7;rotate_left
 case g0=>exact ⟨by omega,by omega,by simp [sizeR]⟩
 case g7=>intro s i h0 h1 h2 h3;exact ⟨by omega,by omega,by rw [h2,sizeR_next h0 h3]⟩
 case g8=>intro s i h0 h1 h2 h3;rw [h2,List.take_of_length_le (by omega)]
 all_goals (intro s i h0 h1 h2 h3;have:=hr i h0 h3;have:=hz i;omega)
theorem con146 (a:List Run):Con Tryz.prog 146 [.sl (a.map c154)] (.i .i64 (maxR a)) :=
 by
 refine con_lens 0 (c154) (a) (by kernel_rfl) Go.Proofs.Tryz.func146 (by kernel_rfl) fun hl_0=>st_con tab_ok (by kernel_rfl) [.tmp 2] 26 Go.Proofs.Tryz.func146 (by kernel_rfl) (by kernel_rfl) ?_
 intro e0 cx
 refine sq<|rG cx [0] [] z0<|sn<|sq<|rG cx [0,3] [] z0<|sn<|sq<|sq<|rG cx [3,8,9,10] [] (tL 1 c154 a z0)<|sn<|bL 0<|st_loop (X:=Int×Int) (fun x=>⟨[(3,.i .i64 (x.1)),(8,.sl (List.map c154 a)),(9,.i .i64 ((↑a.length:Int))),(10,.i .i64 (x.2))],[]⟩) (fun x ↦ decLa a x.1 x.2) (fun x ↦ invLa a x.1 x.2) [3,8,9,10] [] (((0:Int),(0:Int))) (by kernel_rfl) (by kernel_rfl) (show invLa a (0:Int) (0:Int) from ?g0) ?_;rotate_left
 rintro ⟨m0,i1⟩ h_2
 obtain ⟨hh3,hh4,h5⟩:(0:Int)≤i1∧i1≤(↑a.length:Int)∧m0=maxR (List.take i1.toNat a):=h_2
 refine sq<|rG cx [3,8,9,10,11] [] (tB 0 (i1 < (↑a.length:Int)) z0)<|sn<|sq<|dC (i1 < (↑a.length:Int)) (fun h6=>?_) fun h6=>?_
 refine sK<|sn<|sq<|bL 1<|sq<|rG cx [3,8,9,10,5] [5] (fA ((0:Int)≤i1) (fG c154 a i1.toNat (fR (2:Nat) (fN 2 2 (oR 0 (c154 a[i1.toNat]!) z0)))))<|sn<|sq<|rG cx [3,8,9,10,6,7] [6] (fT (con181 (a[i1.toNat]!)) (oA 1 (.tup [.agg [.i .i64 ((clipR a[i1.toNat]!).lo),.i .i64 ((clipR a[i1.toNat]!).hi)],.b (decide ((clipR a[i1.toNat]!).lo≤(clipR a[i1.toNat]!).hi))]) z0))<|sn<|sq<|rG cx [3,8,9,10,6,19] [6] z0<|sn<|dC ((clipR a[i1.toNat]!).lo≤(clipR a[i1.toNat]!).hi) (fun h7=>?_) fun h7=>?_
 refine rG cx [3,8,9,10] [] (tT 3 (told_max:AV.i .i64 (if (clipR a[i1.toNat]!).hi > m0 then (clipR a[i1.toNat]!).hi else m0)=AV.i .i64 (max m0 (clipR a[i1.toNat]!).hi)) z0)<|bN<|sn<|rG cx [3,8,9,10] [] (tW 0 (i1+(1:Int)) z0)<|sn<|loop_next ((max m0 (clipR a[i1.toNat]!).hi,i1+(1:Int))) (by kernel_rfl) (show ((↑a.length:Int)-(i1+(1:Int))).toNat < ((↑a.length:Int)-i1).toNat from (by omega)) (show invLa a (max m0 (clipR a[i1.toNat]!).hi) (i1+(1:Int)) from ?g1);rotate_left
 refine sK<|bN<|sn<|rG cx [3,8,9,10] [] (tW 0 (i1+(1:Int)) z0)<|sn<|loop_next ((m0,i1+(1:Int))) (by kernel_rfl) (show ((↑a.length:Int)-(i1+(1:Int))).toNat < ((↑a.length:Int)-i1).toNat from (by omega)) (show invLa a m0 (i1+(1:Int)) from ?g2);rotate_left
 refine eX 0<|nE<|nE<|bH<|sn<|sq<|rG cx [2] [] z0<|sn<|rT<|qR (.i .i64 (m0)) (.eq ?g3);rotate_left
 rotate_left
 revert m0 i1 hh3 hh4 h5 h6 h7;rotate_left
 revert m0 i1 hh3 hh4 h5 h6 h7;rotate_left
 revert m0 i1 hh3 hh4 h5 h6;rotate_left
 case g0=>exact ⟨by omega,by omega,by simp [maxR]⟩
 case g1=>intro m i h0 h1 h2 h3 h4;exact ⟨by omega,by omega,by rw [← take_step h0 h3,maxR_snoc,if_pos h4,h2]⟩
 case g2=>intro m i h0 h1 h2 h3 h4;exact ⟨by omega,by omega,by rw [← take_step h0 h3,maxR_snoc,if_neg h4,h2]⟩
 case g3=>intro m i h0 h1 h2 h3;rw [h2,List.take_of_length_le (by omega)]
theorem con145 (p:Past) (hb:p.cloud.length*16≤140737488350000):Con Tryz.prog 145 [.agg (c26 p)] (.i .i64 (sizeP p)) :=
 by
 have hz:=sizeT_rng (openT [p])
 have hr:∀ r,0≤sizeR (nrm (openT [p] r))∧sizeR (nrm (openT [p] r))≤1000000000:=fun r=>sizeR_rng (nrm_sep _)
 refine st_con tab_ok (by kernel_rfl) [.tmp 2] 21 Go.Proofs.Tryz.func145 (by kernel_rfl) (by kernel_rfl) ?_
 intro e0 cx
 refine sq<|rG cx [1] [1] z0<|sn<|sq<|rG cx [1,3] [1] z0<|sn<|sq<|sq<|rG cx [3,8,10] [8] (fT (con102 ([p]) ?g0) (oV 2 { val:=some (.ptr ((152:Nat)) (0) (0) (0)),row:=(tabC c154 (16:Nat) (openT [p])) } z0)) ?_;rotate_left
 refine sn<|bL 0<|st_loop (X:=Int×Int×(Nat→List Run)) (fun x=>⟨[(3,.i .i64 (x.1)),(8,.ptr (8) (0) (0) (0)),(10,.i .i64 (x.2.1))],[(8,⟨0,152,.arr (tabC c154 (16:Nat) x.2.2)⟩)]⟩) (fun x ↦ decSz p x.1 x.2.1 x.2.2) (fun x ↦ invSz p x.1 x.2.1 x.2.2) [3,8,10] [8] (((0:Int),(0:Int),openT [p])) (by kernel_rfl) (by kernel_rfl) (show invSz p (0:Int) (0:Int) (openT [p]) from ?g1) ?_;rotate_left
 rintro ⟨s0,i1,T2⟩ h_3
 obtain ⟨hh4,h5,h6,h7⟩:T2=openT [p]∧(0:Int)≤i1∧i1≤(16:Int)∧s0=sizeT (openT [p]) i1.toNat:=h_3
 refine sq<|rG cx [3,8,10,11] [8] (tB 0 (i1 < (16:Int)) z0)<|sn<|sq<|dC (i1 < (16:Int)) (fun h8=>?_) fun h8=>?_
 refine sK<|sn<|sq<|bL 1<|sq<|rG cx [3,8,10,5] [8] (fA ((0:Int)≤i1) (fO (i1 < (↑(16:Nat):Int)) (fP ((tabC c154 (16:Nat) T2)[i1.toNat*(1:Nat)+0]?=some (AV.sl (List.map c154 (T2 i1.toNat)))) (by ((try simp only [Nat.mul_one,Nat.add_zero,Nat.zero_add]);with_reducible refine get_tabC ?_;omega)) (oR 2 [.sl (List.map c154 (T2 i1.toNat))] z0)))) ?_
 refine sn ?_
 have hl_9:=(rng_nrm (T2 i1.toNat))
 refine rG cx [3,8,10] [8] (fT (con180 (T2 i1.toNat) ?g2) (tT 3 (told_i64 ?g3 ?g4:AV.i .i64 (IntKind.i64.wrap (s0+sizeR (nrm (T2 i1.toNat))))=AV.i .i64 (s0+sizeR (nrm (T2 i1.toNat)))) (oA 2 (.i .i64 (sizeR (nrm (T2 i1.toNat)))) z0))) ?_;rotate_left 3
 refine bN<|sn<|rG cx [3,8,10] [8] (tW 0 (i1+(1:Int)) z0)<|sn<|loop_next ((s0+sizeR (nrm (T2 i1.toNat)),i1+(1:Int),T2)) (by kernel_rfl) (show ((16:Int)-(i1+(1:Int))).toNat < ((16:Int)-i1).toNat from (by omega)) (show invSz p (s0+sizeR (nrm (T2 i1.toNat))) (i1+(1:Int)) T2 from ?g5);rotate_left
 refine eX 0<|nE<|nE<|bH<|sn<|sq<|rG cx [2] [] z0<|sn<|rT<|qR (.i .i64 (s0)) (.eq ?g6);rotate_left
 rotate_left
 rotate_left
 clear hl_9;revert s0 i1 T2 hh4 h5 h6 h7 h8;rotate_left
 clear hl_9;revert s0 i1 T2 hh4 h5 h6 h7 h8;rotate_left
 clear hl_9;revert s0 i1 T2 hh4 h5 h6 h7 h8;rotate_left
 clear hl_9;revert s0 i1 T2 hh4 h5 h6 h7 h8;rotate_left
 revert s0 i1 T2 hh4 h5 h6 h7 h8;rotate_left
 case g0=>exact tot_le hb
 case g1=>exact ⟨rfl,by omega,by omega,rfl⟩
 case g2=>intro s i T h0 h1 h2 h3 h4;subst h0;exact open_le hb _
 case g3=>intro s i T h0 h1 h2 h3 h4;subst h0;have:=hz i.toNat;have:=hr i.toNat;omega
 case g4=>intro s i T h0 h1 h2 h3 h4;subst h0;have:=hz i.toNat;have:=hr i.toNat;omega
 case g5=>intro s i T h0 h1 h2 h3 h4;subst h0;exact ⟨rfl,by omega,by omega,by rw [show (i+1).toNat=i.toNat+1 by omega,sizeT,h3]⟩
 case g6=>intro s i T h0 h1 h2 h3 h4;rw [h3,show i.toNat=16 by omega,sizeP_eq]
theorem con98 (p:Past) (hb:p.cloud.length*16≤140737488350000):Con Tryz.prog 98 [.agg (c26 p)] (.b (decide (sizeP p=0))) :=
 by
 refine st_con tab_ok (by kernel_rfl) [.tmp 2] 6 Go.Proofs.Tryz.func98 (by kernel_rfl) (by kernel_rfl) ?_
 intro e0 cx
 refine sq<|rG cx [1] [1] z0<|sn<|sq<|rG cx [2] [] (fT (con145 (p) (by (with_reducible assumption))) (tB 2 (sizeP p=(0:Int)) (oA 1 (.i .i64 (sizeP p)) z0)))<|sn<|rT ?_
 exact q_ret (r:=.b (decide (sizeP p=(0:Int)))) (obl:=[]) (by kernel_rfl) trivial (AVle.refl _)
theorem con99 (p:Past) (rep:Int) (hb:p.cloud.length*16≤140737488350000):Con Tryz.prog 99 [.agg (c26 p),.i .i64 rep] (.i .i64 (lastP p rep)) :=
 by
 refine st_con tab_ok (by kernel_rfl) [.tmp 4] 19 Go.Proofs.Tryz.func99 (by kernel_rfl) (by kernel_rfl) ?_
 intro e0 cx
 refine sq<|rG cx [1,2] [2] z0<|sn<|sq<|sq<|st_join (σ':=⟨[(1,.i .i64 (rep)),(2,.ptr (2) (0) (0) (0)),(10,.b (decide (rep < (0:Int)∨(16:Int)≤rep)))],[(2,⟨0,26,.var [.sl (List.map c3 p.vec),.sl (List.map c104 p.cloud)]⟩)]⟩) ?_ ?_
 refine st_split (rep < (0:Int)) (fun h_1=>?_) (fun h_1=>?_)
 refine rG cx [1,2,10] [2] (tT 1 (told_true h_1) (tD 5 true (rep < (0:Int)∨(16:Int)≤rep) (by simp only [eq_true h_1,tsl]) z0)) ?_
 exact ⟨rfl,by kernel_rfl⟩
 refine rG cx [1,2,10] [2] (tT 1 (told_false h_1) (tB 4 ((16:Int)≤rep) (tD 5 (decide ((16:Int)≤rep)) (rep < (0:Int)∨(16:Int)≤rep) (by simp only [eq_false h_1,tsl]) z0))) ?_
 exact ⟨rfl,by kernel_rfl⟩
 refine sn<|dC (rep < (0:Int)∨(16:Int)≤rep) (fun h2=>?_) fun h2=>?_
 refine sq<|rG cx [4] [] z0<|sn<|rT<|nR<|qR (.i .i64 ((0:Int))) (.eq ?g0);rotate_left
 refine sK<|sn<|sq<|rG cx [4] [] (fT (con102 ([p]) ?g1) (fO ((0:Int)≤rep) (fO (rep < (↑(16:Nat):Int)) (fP ((tabC c154 (16:Nat) (openT [p]))[rep.toNat*(1:Nat)+0]?=some (AV.sl (List.map c154 (openT [p] rep.toNat)))) (by ((try simp only [Nat.mul_one,Nat.add_zero,Nat.zero_add]);with_reducible refine get_tabC ?_;omega)) (fT (con146 (openT [p] rep.toNat)) (oV 2 { val:=some (.ptr ((152:Nat)) (0) (0) (0)),row:=(tabC c154 (16:Nat) (openT [p])) } (oR 6 [.sl (List.map c154 (openT [p] rep.toNat))] (oA 7 (resC (con146 (openT [p] rep.toNat))) z0)))))))) ?_;rotate_left
 refine sn<|rT<|qR (.i .i64 (maxR (openT [p] rep.toNat))) (.eq ?g2);rotate_left
 revert h2;rotate_left
 revert h2;rotate_left
 revert h2;rotate_left
 case g0=>intro h;unfold lastP;rw [if_pos h]
 case g1=>intro h;exact tot_le hb
 case g2=>intro h;unfold lastP;rw [if_neg h]
end Go.Proofs.YtaiepnaokhpmcaaGreat
namespace Go.Proofs.YtaiepnaokhpmcaaGreat
open Go.E
set_option maxRecDepth 100000
set_option maxHeartbeats 4000000
def szR (r:Record):Prop:=r.past.cloud.length*16≤140737488350000
def szRs (rs:List Record):Prop:=∀ r∈rs,szR r
theorem szRs_at {rs:List Record} (h:szRs rs) {i:Int} (h0:0≤i) (hi:i < rs.length):szR rs[i.toNat]!:=h _ (bang_in (by omega))
theorem szRs_at' {rs:List Record} (h:szRs rs) {i:Int} (h0:0 < i) (hi:i < rs.length):szR rs[(i-1).toNat]!:=h _ (bang_in (by omega))
def invKc (rs:List Record) (i:Int):Prop:=0≤i∧i≤rs.length∧∀ j:Nat,(j:Int) < i→okRs rs j=true
def decKc (rs:List Record) (i:Int):Nat:=(rs.length-i).toNat
theorem invKc_step {rs:List Record} {i:Int} (h0:0≤i) (h1:i < rs.length) (h2:∀ j:Nat,(j:Int) < i→okRs rs j=true) (h:okRs rs i.toNat=true):invKc rs (i+1) :=
 ⟨by omega,by omega,fun j hj=>by
  by_cases e:j=i.toNat
  ·rw [e];exact h
  ·exact h2 j (by omega)⟩
theorem con132 (r:Record) (hb:szR r):Con Tryz.prog 132 [.agg (c81 r)] (.i .i64 (ckR r)) :=
 by
 have g:∀ {b:Bool},¬ b=true→b=false:=fun {b} h=>by cases b <;> simp_all
 refine st_con tab_ok (by kernel_rfl) [.tmp 2] 21 Go.Proofs.Tryz.func132 (by kernel_rfl) (by kernel_rfl) ?_
 intro e0 cx
 refine sq<|rG cx [1] [1] z0<|sn<|sq<|sq<|st_join (σ':=⟨[(1,.ptr (1) (0) (0) (0)),(11,.b (decide (¬r.sku={ data:=#[]:ByteArray }∧¬good r.sku=true)))],[(1,⟨0,81,.var [.s (r.sku),.sl (List.map c3 r.past.vec),.sl (List.map c104 r.past.cloud)]⟩)]⟩) ?_ ?_
 refine st_split (¬r.sku={ data:=#[]:ByteArray }) (fun h_1=>?_) (fun h_1=>?_)
 refine rG cx [1,11] [1] (tT 2 (told_snet h_1:(AV.b !r.sku.toList == { data:=#[]:ByteArray }.toList)=AV.b true) (fT (con138 (r.sku)) (tT 7 (told_not:(AV.b !good r.sku)=AV.b (decide ¬good r.sku=true)) (tD 8 (decide ¬good r.sku=true) (¬r.sku={ data:=#[]:ByteArray }∧¬good r.sku=true) (by simp only [eq_false h_1,tsl]) (oA 6 (.b (good r.sku)) z0))))) ?_
 exact ⟨rfl,by kernel_rfl⟩
 refine rG cx [1,11] [1] (tT 2 (told_sne:(AV.b !r.sku.toList == { data:=#[]:ByteArray }.toList)=AV.b (decide ¬r.sku={ data:=#[]:ByteArray })) (tT 3 (told_false h_1) (tT 8 (by first | (simp only [eq_false h_1,tsl];done) | simp_all:AV.b false=AV.b (decide (¬r.sku={ data:=#[]:ByteArray }∧¬good r.sku=true))) z0))) ?_
 exact ⟨rfl,by kernel_rfl⟩
 refine sn<|dC (¬r.sku={ data:=#[]:ByteArray }∧¬good r.sku=true) (fun h2=>?_) fun h2=>?_
 refine sq<|rG cx [2] [] z0<|sn<|rT<|nR<|qR (.i .i64 ((5:Int))) (.eq ?g0);rotate_left
 refine sK<|sn<|sq<|sq<|st_join (σ':=⟨[(20,.b (decide (¬r.past=normP r.past∨sizeP r.past=(0:Int))))],[]⟩) ?_ ?_
 refine st_split (¬r.past=normP r.past) (fun h4=>?_) (fun h4=>?_)
 refine rg (A:=_∧_∧(AV.b true=AV.b (decide (¬r.past=normP r.past∨sizeP r.past=(0:Int))))) cx [(2,{ val:=some (.b (decide (r.past=normP r.past))),tell:=some (.b (false)) }),(8,{ tell:=some (.b (decide (¬r.past=normP r.past∨sizeP r.past=(0:Int)))) })] [20] [] ⟨(told_false h4),(con82 (r.past) ?g1),(by simp only [eq_false h4,tsl])⟩ ?_;rotate_left
 exact ⟨rfl,by kernel_rfl⟩
 refine rG cx [20] [] (fT (con82 (r.past) ?g2) (tQ 3 (r.past=normP r.past) (tT 4 (told_false h4) (fT (con98 (r.past) ?g3) (tT 8 (by first | (simp only [eq_false h4,tsl];done) | simp_all:AV.b (decide (sizeP r.past=(0:Int)))=AV.b (decide (¬r.past=normP r.past∨sizeP r.past=(0:Int)))) (oA 2 (.b (decide (r.past=normP r.past))) (oA 7 (.b (decide (sizeP r.past=(0:Int)))) z0))))))) ?_;rotate_left 2
 exact ⟨rfl,by kernel_rfl⟩
 refine sn<|dC (¬r.past=normP r.past∨sizeP r.past=(0:Int)) (fun h5=>?_) fun h5=>?_
 refine sq<|rG cx [2] [] z0<|sn<|rT<|nR<|qR (.i .i64 ((1:Int))) (.eq ?g4);rotate_left
 refine sK<|sn<|sq<|rG cx [2] [] z0<|sn<|rT<|qR (.i .i64 ((0:Int))) (.eq ?g5);rotate_left
 revert h2;rotate_left
 revert h2 h4;rotate_left
 revert h2 h4;rotate_left
 revert h2 h4;rotate_left
 revert h2 h5;rotate_left
 revert h2 h5;rotate_left
 case g0=>intro h;unfold ckR;rw [if_pos ⟨h.1,g h.2⟩]
 case g1=>intros;exact hb
 case g2=>intros;exact hb
 case g3=>intros;exact hb
 case g4=>intro h k;unfold ckR;rw [if_neg (fun c=>h ⟨c.1,by rw [c.2];simp⟩),if_pos k]
 case g5=>intro h k;unfold ckR;rw [if_neg (fun c=>h ⟨c.1,by rw [c.2];simp⟩),if_neg k]
theorem con106 (r s:Record) (hr:szR r) (hs:szR s):Con Tryz.prog 106 [.agg (c81 r),.agg (c81 s)] (.i .i64 (cmpRec r s)) :=
 by
 refine st_con tab_ok (by kernel_rfl) [.tmp 4] 19 Go.Proofs.Tryz.func106 (by kernel_rfl) (by kernel_rfl) ?_
 intro e0 cx
 refine sq<|rG cx [2,3] [2,3] z0<|sn<|sq<|sq<|rG cx [2,3,5] [2,3] (fT (con151 (r.sku) (s.sku)) (oA 4 (.i .i64 (cmpSt r.sku s.sku)) z0))<|sn<|sq<|rG cx [2,3,5,12] [2,3] (tN 1 (cmpSt r.sku s.sku) (0:Int) z0)<|sn<|dC (¬cmpSt r.sku s.sku=(0:Int)) (fun h0=>?_) fun h0=>?_
 refine sq<|rG cx [4] [] z0<|sn<|rT<|nR<|qR (.i .i64 (cmpSt r.sku s.sku)) (.eq ?g0);rotate_left
 refine sK<|sn<|sq<|rG cx [4] [] (fT (con152 (r.past) (s.past) ?g1 ?g2) (oA 4 (.i .i64 (cmpP r.past s.past)) z0)) ?_;rotate_left 2
 refine sn<|rT<|qR (.i .i64 (cmpP r.past s.past)) (.eq ?g3);rotate_left
 revert h0;rotate_left
 revert h0;rotate_left
 revert h0;rotate_left
 revert h0;rotate_left
 case g0=>intro h;unfold cmpRec;rw [if_pos h]
 case g1=>intro h;exact hr
 case g2=>intro h;exact hs
 case g3=>intro h;unfold cmpRec;rw [if_neg h]
theorem con83 (rs:List Record) (hb:szRs rs):Con Tryz.prog 83 [.sl (rs.map c81)] (.i .i64 (recE rs)) :=
 by
 have e:∀ {i:Int},0≤i→(i-1).toNat=i.toNat-1:=fun {i} h=>by omega
 refine con_lens 0 (c81) (rs) (by kernel_rfl) Go.Proofs.Tryz.func83 (by kernel_rfl) fun hl_0=>st_con tab_ok (by kernel_rfl) [.tmp 2] 30 Go.Proofs.Tryz.func83 (by kernel_rfl) (by kernel_rfl) ?_
 intro e0 cx
 refine sq<|rG cx [0] [] z0<|sn<|sq<|sq<|rG cx [0,5,6,7] [] (tL 1 c81 rs z0)<|sn<|bL 0<|st_loop (X:=Int) (fun x=>⟨[(0,.sl (List.map c81 rs)),(5,.sl (List.map c81 rs)),(6,.i .i64 ((↑rs.length:Int))),(7,.i .i64 (x))],[]⟩) (fun x ↦ decKc rs x) (fun x ↦ invKc rs x) [0,5,6,7] [] ((0:Int)) (by kernel_rfl) (by kernel_rfl) (show invKc rs (0:Int) from ?g0) ?_;rotate_left
 intro i0 h_1
 obtain ⟨hh2,hh3,hh4⟩:(0:Int)≤i0∧i0≤(↑rs.length:Int)∧∀ (j:Nat),(↑j:Int) < i0→okRs rs j=true:=h_1
 refine sq<|rG cx [0,5,6,7,8] [] (tB 0 (i0 < (↑rs.length:Int)) z0)<|sn<|sq<|dC (i0 < (↑rs.length:Int)) (fun hh5=>?_) fun hh5=>?_
 refine sK<|sn<|sq<|bL 1<|sq<|rG cx [0,5,6,7,4,3] [4] (fA ((0:Int)≤i0) (fG c81 rs i0.toNat (fR (3:Nat) (fN 3 3 (oR 1 (c81 rs[i0.toNat]!) z0)))))<|sn<|sq<|st_join (σ':=⟨[(0,.sl (List.map c81 rs)),(5,.sl (List.map c81 rs)),(6,.i .i64 ((↑rs.length:Int))),(7,.i .i64 (i0)),(28,.b (decide (¬ckR rs[i0.toNat]! = (0:Int)∨(0:Int) < i0∧(0:Int)≤cmpRec rs[(i0-(1:Int)).toNat]! rs[i0.toNat]!)))],[]⟩) ?_ ?_
 refine st_split (¬ckR rs[i0.toNat]! = (0:Int)) (fun h7=>?_) (fun h7=>?_)
 refine rA cx [0,5,6,7,28] [] (fT (con132 (rs[i0.toNat]!) ?g1) (tT 2 (told_neqt h7:AV.b (ckR rs[i0.toNat]! != (0:Int))=AV.b true) (tD 16 true (¬ckR rs[i0.toNat]! = (0:Int)∨(0:Int) < i0∧(0:Int)≤cmpRec rs[(i0-(1:Int)).toNat]! rs[i0.toNat]!) (by simp only [eq_false h7,tsl]) (oA 1 (.i .i64 (ckR rs[i0.toNat]!)) z0)))) ?_;rotate_left
 exact ⟨rfl,by kernel_rfl⟩
 refine st_split ((0:Int) < i0) (fun h8=>?_) (fun h8=>?_)
 refine rA cx [0,5,6,7,28] [] (fT (con132 (rs[i0.toNat]!) ?g2) (tN 2 (ckR rs[i0.toNat]!) (0:Int) (tT 3 (told_false h7) (tT 5 (told_true h8) (tW 9 (i0-(1:Int)) (fO ((0:Int)≤i0-(1:Int)) (fG c81 rs ((i0-(1:Int)).toNat) (fR (3:Nat) (fN 3 3 (fT (con106 (rs[(i0-(1:Int)).toNat]!) (rs[i0.toNat]!) ?g3 ?g4) (tB 14 ((0:Int)≤cmpRec rs[(i0-(1:Int)).toNat]! rs[i0.toNat]!) (tT 16 (by first | (simp only [eq_false h7,eq_true h8,tsl];done) | simp_all:AV.b (decide ((0:Int)≤cmpRec rs[(i0-(1:Int)).toNat]! rs[i0.toNat]!))=AV.b (decide (¬ckR rs[i0.toNat]! = (0:Int)∨(0:Int) < i0∧(0:Int)≤cmpRec rs[(i0-(1:Int)).toNat]! rs[i0.toNat]!))) (oA 1 (.i .i64 (ckR rs[i0.toNat]!)) (oR 10 (c81 rs[(i0-(1:Int)).toNat]!) (oA 13 (.i .i64 (cmpRec rs[(i0-(1:Int)).toNat]! rs[i0.toNat]!)) z0))))))))))))))) ?_;rotate_left 3
 exact ⟨rfl,by kernel_rfl⟩
 refine rA cx [0,5,6,7,28] [] (fT (con132 (rs[i0.toNat]!) ?g5) (tN 2 (ckR rs[i0.toNat]!) (0:Int) (tT 3 (told_false h7) (tT 5 (told_false h8) (tT 16 (by first | (simp only [eq_false h7,eq_false h8,tsl];done) | simp_all:AV.b false=AV.b (decide (¬ckR rs[i0.toNat]! = (0:Int)∨(0:Int) < i0∧(0:Int)≤cmpRec rs[(i0-(1:Int)).toNat]! rs[i0.toNat]!))) (oA 1 (.i .i64 (ckR rs[i0.toNat]!)) z0)))))) ?_;rotate_left
 exact ⟨rfl,by kernel_rfl⟩
 refine sn<|dC (¬ckR rs[i0.toNat]! = (0:Int)∨(0:Int) < i0∧(0:Int)≤cmpRec rs[(i0-(1:Int)).toNat]! rs[i0.toNat]!) (fun h9=>?_) fun h9=>?_
 refine sq<|rG cx [2] [] z0<|sn<|rT<|bR<|nR<|nR<|bR<|nR<|qR (.i .i64 ((1:Int))) (.eq ?g6);rotate_left
 refine sK<|bN<|sn<|rG cx [0,5,6,7] [] (tW 0 (i0+(1:Int)) z0)<|sn<|loop_next (i0+(1:Int)) (by kernel_rfl) (show ((↑rs.length:Int)-(i0+(1:Int))).toNat < ((↑rs.length:Int)-i0).toNat from (by omega)) (show invKc rs (i0+(1:Int)) from ?g7);rotate_left
 refine eX 0<|nE<|nE<|bH<|sn<|sq<|rG cx [2] [] z0<|sn<|rT<|qR (.i .i64 ((0:Int))) (.eq ?g8);rotate_left
 rotate_left
 revert i0 hh2 hh3 hh4 hh5 h7;rotate_left
 revert i0 hh2 hh3 hh4 hh5 h7 h8;rotate_left
 revert i0 hh2 hh3 hh4 hh5 h7 h8;rotate_left
 revert i0 hh2 hh3 hh4 hh5 h7 h8;rotate_left
 revert i0 hh2 hh3 hh4 hh5 h7 h8;rotate_left
 revert i0 hh2 hh3 hh4 hh5 h9;rotate_left
 revert i0 hh2 hh3 hh4 hh5 h9;rotate_left
 revert i0 hh2 hh3 hh4 hh5;rotate_left
 case g0=>exact ⟨by omega,by omega,fun j hj=>by omega⟩
 case g1=>intro i h0 h1 h2 h3 h4;exact szRs_at hb h0 h3
 case g2=>intro i h0 h1 h2 h3 h4 h5;exact szRs_at hb h0 h3
 case g3=>intro i h0 h1 h2 h3 h4 h5;exact szRs_at' hb h5 h3
 case g4=>intro i h0 h1 h2 h3 h4 h5;exact szRs_at hb h0 h3
 case g5=>intro i h0 h1 h2 h3 h4 h5;exact szRs_at hb h0 h3
 case g6 =>
  intro i h0 h1 h2 h3 h4
  rw [recE_bad (i:=i.toNat) (by omega)]
  rw [e h0] at h4
  rw [okRs_iff]
  rintro ⟨a,b⟩
  rcases h4 with h4 | ⟨h4,h5⟩
  ·exact h4 a
  ·omega
 case g7 =>
  intro i h0 h1 h2 h3 h4
  rw [e h0] at h4
  refine invKc_step h0 h3 h2 ((okRs_iff _ _).2 ⟨Classical.byContradiction fun a=>h4 (.inl a),?_⟩)
  by_cases c:i.toNat=0
  ·exact .inl c
  ·exact .inr (Classical.byContradiction fun a=>h4 (.inr ⟨by omega,by omega⟩))
 case g8=>intro i h0 h1 h2 h3;rw [recE_ok fun j hj=>h2 j (by omega)]
end Go.Proofs.YtaiepnaokhpmcaaGreat
namespace Go.Proofs.YtaiepnaokhpmcaaGreat
open Go.E
set_option maxRecDepth 100000
set_option maxHeartbeats 4000000
def invHas (p:Past) (d:Dot) (i:Int) (v:List Int) (c:List Span) (r n:Int):Prop:=v=p.vec∧c=p.cloud∧r=d.rep∧n=d.num∧0≤i∧i≤p.cloud.length∧∀ j:Nat,(j:Int) < i→hasS p.cloud[j]! d=false
def decHas (p:Past) (i:Int) (v:List Int) (c:List Span) (r n:Int):Nat:=(p.cloud.length-i).toNat
def invSV (a b:Past) (i:Int) (v:List Int) (c:List Span) (w:List Int) (e:List Span):Prop:=v=a.vec∧c=a.cloud∧w=b.vec∧e=b.cloud∧0≤i∧i≤a.vec.length∧∀ j:Nat,(j:Int) < i→a.vec[j]! = b.vec[j]!
def decSV (a:Past) (i:Int) (v:List Int) (c:List Span) (w:List Int) (e:List Span):Nat:=(a.vec.length-i).toNat
def invSC (a b:Past) (i:Int) (v:List Int) (c:List Span) (w:List Int) (e:List Span):Prop:=v=a.vec∧c=a.cloud∧w=b.vec∧e=b.cloud∧0≤i∧i≤a.cloud.length∧∀ j:Nat,(j:Int) < i→a.cloud[j]! = b.cloud[j]!
def decSC (a:Past) (i:Int) (v:List Int) (c:List Span) (w:List Int) (e:List Span):Nat:=(a.cloud.length-i).toNat
theorem con88 (d:Dot):Con Tryz.prog 88 [.agg (c43 d)] (.b (dotB d)) :=
 by
 refine st_con tab_ok (by kernel_rfl) [.tmp 2] 21 Go.Proofs.Tryz.func88 (by kernel_rfl) (by kernel_rfl) ?_
 intro e0 cx
 refine sq<|rG cx [1] [1] z0<|sn<|sq<|st_join (σ':=⟨[(2,.b (decide ((0:Int)≤d.rep∧d.rep < (16:Int)∧(1:Int)≤d.num∧d.num≤(1000000000:Int))))],[]⟩) ?_ ?_
 refine st_split ((0:Int)≤d.rep) (fun h_1=>?_) (fun h_1=>?_)
 refine st_split (d.rep < (16:Int)) (fun h_2=>?_) (fun h_2=>?_)
 refine st_split ((1:Int)≤d.num) (fun h_3=>?_) (fun h_3=>?_)
 refine rG cx [2] [] (tT 2 (told_true h_1) (tT 6 (told_true h_2) (tT 11 (told_true h_3) (tB 16 (d.num≤(1000000000:Int)) (tD 18 (decide (d.num≤(1000000000:Int))) ((0:Int)≤d.rep∧d.rep < (16:Int)∧(1:Int)≤d.num∧d.num≤(1000000000:Int)) (by simp only [eq_true h_1,eq_true h_2,eq_true h_3,tsl]) z0))))) ?_
 exact ⟨rfl,by kernel_rfl⟩
 refine rG cx [2] [] (tT 2 (told_true h_1) (tT 6 (told_true h_2) (tT 11 (told_false h_3) (tD 18 false ((0:Int)≤d.rep∧d.rep < (16:Int)∧(1:Int)≤d.num∧d.num≤(1000000000:Int)) (by simp only [eq_true h_1,eq_true h_2,eq_false h_3,tsl]) z0)))) ?_
 exact ⟨rfl,by kernel_rfl⟩
 refine rG cx [2] [] (tT 2 (told_true h_1) (tT 6 (told_false h_2) (tD 18 false ((0:Int)≤d.rep∧d.rep < (16:Int)∧(1:Int)≤d.num∧d.num≤(1000000000:Int)) (by simp only [eq_true h_1,eq_false h_2,tsl]) z0))) ?_
 exact ⟨rfl,by kernel_rfl⟩
 refine rG cx [2] [] (tT 2 (told_false h_1) (tD 18 false ((0:Int)≤d.rep∧d.rep < (16:Int)∧(1:Int)≤d.num∧d.num≤(1000000000:Int)) (by simp only [eq_false h_1,tsl]) z0)) ?_
 exact ⟨rfl,by kernel_rfl⟩
 refine sn<|rT<|qR (.b (decide ((0:Int)≤d.rep∧d.rep < (16:Int)∧(1:Int)≤d.num∧d.num≤(1000000000:Int)))) (.eq ?g0);rotate_left
 case g0=>exact rfl
theorem con47 (p:Past) (d:Dot) (hl:p.cloud.length≤9223372036854775807):Con Tryz.prog 47 [.agg (c26 p),.agg (c43 d)] (.b (hasP p d)) :=
 by
 refine st_con tab_ok (by kernel_rfl) [.tmp 4] 58 Go.Proofs.Tryz.func47 (by kernel_rfl) (by kernel_rfl) ?_
 intro e0 cx
 refine sq<|rG cx [2,3] [2,3] z0<|sn<|sq<|sq<|rG cx [2,3,9] [2,3] (fT (con88 (d)) (tT 2 (told_not:(AV.b !dotB d)=AV.b (decide ¬dotB d=true)) (oA 1 (.b (dotB d)) z0)))<|sn<|dC (¬dotB d=true) (fun h0=>?_) fun h0=>?_
 refine sq<|rG cx [4] [] z0<|sn<|rT<|nR<|qR (.b (false)) (.eq ?g0);rotate_left
 refine sK<|sn<|sq<|sq<|st_join (σ':=⟨[(2,.ptr (2) (0) (0) (0)),(3,.ptr (3) (0) (0) (0)),(26,.b (decide (d.rep < (↑p.vec.length:Int)∧d.num≤p.vec[d.rep.toNat]!)))],[(2,⟨0,26,.var [.sl (List.map c3 p.vec),.sl (List.map c104 p.cloud)]⟩),(3,⟨0,43,.var [.i .i64 (d.rep),.i .i64 (d.num)]⟩)]⟩) ?_ ?_
 refine st_split (d.rep < (↑p.vec.length:Int)) (fun h2=>?_) (fun h2=>?_)
 refine rA cx [2,3,26] [2,3] (tL 4 c3 p.vec (tT 5 (told_true h2) (fP ((0:Int)≤d.rep) ?g1 (fP ((List.map c3 p.vec)[d.rep.toNat]?=some (c3 p.vec[d.rep.toNat]!)) ?g2 (fR (1:Nat) (tB 15 (d.num≤p.vec[d.rep.toNat]!) (tD 16 (decide (d.num≤p.vec[d.rep.toNat]!)) (d.rep < (↑p.vec.length:Int)∧d.num≤p.vec[d.rep.toNat]!) (by simp only [eq_true h2,tsl]) (oR 13 (c3 p.vec[d.rep.toNat]!) z0)))))))) ?_;rotate_left 2
 exact ⟨rfl,by kernel_rfl⟩
 refine rA cx [2,3,26] [2,3] (tL 4 c3 p.vec (tT 5 (told_false h2) (tD 16 false (d.rep < (↑p.vec.length:Int)∧d.num≤p.vec[d.rep.toNat]!) (by simp only [eq_false h2,tsl]) z0))) ?_
 exact ⟨rfl,by kernel_rfl⟩
 refine sn<|dC (d.rep < (↑p.vec.length:Int)∧d.num≤p.vec[d.rep.toNat]!) (fun h3=>?_) fun h3=>?_
 refine sq<|rG cx [4] [] z0<|sn<|rT<|nR<|qR (.b (true)) (.eq ?g3);rotate_left
 refine sK<|sn<|sq<|sq<|rG cx [2,3,5] [2,3] z0<|sn<|bL 0<|st_loop (X:=Int×List Int×List Span×Int×Int) (fun x=>⟨[(2,.ptr (2) (0) (0) (0)),(3,.ptr (3) (0) (0) (0)),(5,.i .i64 (x.1))],[(2,⟨0,26,.var [.sl (List.map c3 x.2.1),.sl (List.map c104 x.2.2.1)]⟩),(3,⟨0,43,.var [.i .i64 (x.2.2.2.1),.i .i64 (x.2.2.2.2)]⟩)]⟩) (fun x ↦ decHas p x.1 x.2.1 x.2.2.1 x.2.2.2.1 x.2.2.2.2) (fun x ↦ invHas p d x.1 x.2.1 x.2.2.1 x.2.2.2.1 x.2.2.2.2) [2,3,5] [2,3] (((0:Int),p.vec,p.cloud,d.rep,d.num)) (by kernel_rfl) (by kernel_rfl) (show invHas p d (0:Int) p.vec p.cloud d.rep d.num from ?g4) ?_;rotate_left
 rintro ⟨i4,v5,c6,r7,n8⟩ h_9
 obtain ⟨h10,h11,h12,h13,h14,h15,h16⟩:v5=p.vec∧c6=p.cloud∧r7=d.rep∧n8=d.num∧(0:Int)≤i4∧i4≤(↑p.cloud.length:Int)∧∀ (j:Nat),(↑j:Int) < i4→hasS p.cloud[j]! d=false:=h_9
 refine sq<|sq<|rG cx [2,3,5,31] [2,3] (tL 3 c104 c6 (tB 4 (i4 < (↑c6.length:Int)) z0))<|sn<|dC (i4 < (↑c6.length:Int)) (fun h17=>?_) fun h17=>?_
 refine sK<|sn<|sq<|bL 1<|sq<|rG cx [2,3,5,6] [2,3,6] (fA ((0:Int)≤i4) (fG c104 c6 i4.toNat (fR (3:Nat) (fN 3 3 (oR 3 (c104 c6[i4.toNat]!) z0)))))<|sn<|sq<|st_join (σ':=⟨[(2,.ptr (2) (0) (0) (0)),(3,.ptr (3) (0) (0) (0)),(5,.i .i64 (i4)),(57,.b (decide (c6[i4.toNat]!.rep=r7∧c6[i4.toNat]!.lo≤n8∧n8≤c6[i4.toNat]!.hi)))],[(2,⟨0,26,.var [.sl (List.map c3 v5),.sl (List.map c104 c6)]⟩),(3,⟨0,43,.var [.i .i64 (r7),.i .i64 (n8)]⟩)]⟩) ?_ ?_
 refine st_split (c6[i4.toNat]!.rep=r7) (fun h_19=>?_) (fun h_19=>?_)
 refine st_split (c6[i4.toNat]!.lo≤n8) (fun h_20=>?_) (fun h_20=>?_)
 refine rG cx [2,3,5,57] [2,3] (tT 4 (told_true h_19) (tT 10 (told_true h_20) (tB 17 (n8≤c6[i4.toNat]!.hi) (tD 18 (decide (n8≤c6[i4.toNat]!.hi)) (c6[i4.toNat]!.rep=r7∧c6[i4.toNat]!.lo≤n8∧n8≤c6[i4.toNat]!.hi) (by simp only [eq_true h_19,eq_true h_20,tsl]) z0)))) ?_
 exact ⟨rfl,by kernel_rfl⟩
 refine rG cx [2,3,5,57] [2,3] (tT 4 (told_true h_19) (tT 10 (told_false h_20) (tD 18 false (c6[i4.toNat]!.rep=r7∧c6[i4.toNat]!.lo≤n8∧n8≤c6[i4.toNat]!.hi) (by simp only [eq_true h_19,eq_false h_20,tsl]) z0))) ?_
 exact ⟨rfl,by kernel_rfl⟩
 refine rG cx [2,3,5,57] [2,3] (tT 4 (told_false h_19) (tD 18 false (c6[i4.toNat]!.rep=r7∧c6[i4.toNat]!.lo≤n8∧n8≤c6[i4.toNat]!.hi) (by simp only [eq_false h_19,tsl]) z0)) ?_
 exact ⟨rfl,by kernel_rfl⟩
 refine sn<|dC (c6[i4.toNat]!.rep=r7∧c6[i4.toNat]!.lo≤n8∧n8≤c6[i4.toNat]!.hi) (fun h21=>?_) fun h21=>?_
 refine sq<|rG cx [4] [] z0<|sn<|rT<|bR<|nR<|nR<|bR<|nR<|qR (.b (true)) (.eq ?g5);rotate_left
 refine sK<|bN<|sn<|rG cx [2,3,5] [2,3] (tT 1 (told_i64 (by omega) ?g6:AV.i .i64 (IntKind.i64.wrap (i4+(1:Int)))=AV.i .i64 (i4+(1:Int))) z0) ?_;rotate_left
 refine sn<|loop_next ((i4+(1:Int),v5,c6,r7,n8)) (by kernel_rfl) (show ((↑p.cloud.length:Int)-(i4+(1:Int))).toNat < ((↑p.cloud.length:Int)-i4).toNat from ?g7) (show invHas p d (i4+(1:Int)) v5 c6 r7 n8 from ?g8);rotate_left 2
 refine eX 0<|nE<|nE<|bH<|sn<|sq<|rG cx [4] [] z0<|sn<|rT<|qR (.b (false)) (.eq ?g9);rotate_left
 revert h0;rotate_left
 revert h0 h2;rotate_left
 revert h0 h2;rotate_left
 revert h0 h3;rotate_left
 revert h0 h3;rotate_left
 revert h0 h3 i4 v5 c6 r7 n8 h10 h11 h12 h13 h14 h15 h16 h17 h21;rotate_left
 revert h0 h3 i4 v5 c6 r7 n8 h10 h11 h12 h13 h14 h15 h16 h17 h21;rotate_left
 revert h0 h3 i4 v5 c6 r7 n8 h10 h11 h12 h13 h14 h15 h16 h17 h21;rotate_left
 revert h0 h3 i4 v5 c6 r7 n8 h10 h11 h12 h13 h14 h15 h16 h17 h21;rotate_left
 revert h0 h3 i4 v5 c6 r7 n8 h10 h11 h12 h13 h14 h15 h16 h17;rotate_left
 case g0=>intro h;unfold hasP;rw [Bool.eq_false_iff.2 h];rfl
 case g1=>intro h h1;exact (dotB_in (Classical.not_not.1 h)).1
 case g2=>intro h h1;have:=(dotB_in (Classical.not_not.1 h)).1;exact get_map (by omega)
 case g3=>intro h h1;unfold hasP;rw [Classical.not_not.1 h,decide_eq_true h1];rfl
 case g4=>intro h h1;exact ⟨rfl,rfl,rfl,rfl,by omega,by omega,fun j hj=>by omega⟩
 case g5 =>
  intro h h1 i v c r n k0 k1 k2 k3 k4 k5 k6 k7 k8
  subst k0 k1 k2 k3
  have:(p.cloud.any fun s=>hasS s d)=true:=List.any_eq_true.2 ⟨_,bang_in (l:=p.cloud) (i:=i.toNat) (by omega),decide_eq_true k8⟩
  unfold hasP
  rw [Classical.not_not.1 h,this]
  simp
 case g6=>intro h h1 i v c r n k0 k1 k2 k3 k4 k5 k6 k7 k8;subst k0 k1 k2 k3;omega
 case g7=>intro h h1 i v c r n k0 k1 k2 k3 k4 k5 k6 k7 k8;subst k0 k1 k2 k3;omega
 case g8 =>
  intro h h1 i v c r n k0 k1 k2 k3 k4 k5 k6 k7 k8
  subst k0 k1 k2 k3
  refine ⟨rfl,rfl,rfl,rfl,by omega,by omega,fun j hj=>?_⟩
  by_cases e:j=i.toNat
  ·rw [e];exact decide_eq_false k8
  ·exact k6 j (by omega)
 case g9 =>
  intro h h1 i v c r n k0 k1 k2 k3 k4 k5 k6 k7
  subst k0 k1 k2 k3
  have e:=idx_any p.cloud d
  rw [idx_no fun j hj=>k6 j (by omega)] at e
  unfold hasP
  rw [decide_eq_false h1,← e]
  simp
theorem con46 (a b:Past) (h1:a.vec.length≤9223372036854775807) (h2:a.cloud.length≤9223372036854775807):Con Tryz.prog 46 [.agg (c26 a),.agg (c26 b)] (.b (decide (a=b))) :=
 by
 refine st_con tab_ok (by kernel_rfl) [.tmp 4] 59 Go.Proofs.Tryz.func46 (by kernel_rfl) (by kernel_rfl) ?_
 intro e0 cx
 refine sq<|rG cx [2,3] [2,3] z0<|sn<|sq<|sq<|st_join (σ':=⟨[(2,.ptr (2) (0) (0) (0)),(3,.ptr (3) (0) (0) (0)),(22,.b (decide (¬(↑a.vec.length:Int)=(↑b.vec.length:Int)∨¬(↑a.cloud.length:Int)=(↑b.cloud.length:Int))))],[(2,⟨0,26,.var [.sl (List.map c3 a.vec),.sl (List.map c104 a.cloud)]⟩),(3,⟨0,26,.var [.sl (List.map c3 b.vec),.sl (List.map c104 b.cloud)]⟩)]⟩) ?_ ?_
 refine st_split (¬(↑a.vec.length:Int)=(↑b.vec.length:Int)) (fun h_1=>?_) (fun h_1=>?_)
 refine rG cx [2,3,22] [2,3] (tL 2 c3 a.vec (tL 5 c3 b.vec (tT 6 (told_neqt h_1:AV.b ((↑a.vec.length:Int) != (↑b.vec.length:Int))=AV.b true) (tD 15 true (¬(↑a.vec.length:Int)=(↑b.vec.length:Int)∨¬(↑a.cloud.length:Int)=(↑b.cloud.length:Int)) (by simp only [eq_false h_1,tsl]) z0)))) ?_
 exact ⟨rfl,by kernel_rfl⟩
 refine rG cx [2,3,22] [2,3] (tL 2 c3 a.vec (tL 5 c3 b.vec (tN 6 (↑a.vec.length:Int) (↑b.vec.length:Int) (tT 7 (told_false h_1) (tL 10 c104 a.cloud (tL 13 c104 b.cloud (tN 14 (↑a.cloud.length:Int) (↑b.cloud.length:Int) (tT 15 (by first | (simp only [eq_false h_1,tsl];done) | simp_all:AV.b (decide ¬(↑a.cloud.length:Int)=(↑b.cloud.length:Int))=AV.b (decide (¬(↑a.vec.length:Int)=(↑b.vec.length:Int)∨¬(↑a.cloud.length:Int)=(↑b.cloud.length:Int)))) z0)))))))) ?_
 exact ⟨rfl,by kernel_rfl⟩
 refine sn<|dC (¬(↑a.vec.length:Int)=(↑b.vec.length:Int)∨¬(↑a.cloud.length:Int)=(↑b.cloud.length:Int)) (fun hh2=>?_) fun hh2=>?_
 refine sq<|rG cx [4] [] z0<|sn<|rT<|nR<|qR (.b (false)) (.eq ?g0);rotate_left
 refine sK<|sn<|sq<|sq<|rG cx [2,3,5] [2,3] z0<|sn<|bL 0<|st_loop (X:=Int×List Int×List Span×List Int×List Span) (fun x=>⟨[(2,.ptr (2) (0) (0) (0)),(3,.ptr (3) (0) (0) (0)),(5,.i .i64 (x.1))],[(2,⟨0,26,.var [.sl (List.map c3 x.2.1),.sl (List.map c104 x.2.2.1)]⟩),(3,⟨0,26,.var [.sl (List.map c3 x.2.2.2.1),.sl (List.map c104 x.2.2.2.2)]⟩)]⟩) (fun x ↦ decSV a x.1 x.2.1 x.2.2.1 x.2.2.2.1 x.2.2.2.2) (fun x ↦ invSV a b x.1 x.2.1 x.2.2.1 x.2.2.2.1 x.2.2.2.2) [2,3,5] [2,3] (((0:Int),a.vec,a.cloud,b.vec,b.cloud)) (by kernel_rfl) (by kernel_rfl) (show invSV a b (0:Int) a.vec a.cloud b.vec b.cloud from ?g1) ?_;rotate_left
 rintro ⟨i3,v4,c5,w6,e7⟩ h_8
 obtain ⟨h9,h10,h11,h12,h13,h14,h15⟩:v4=a.vec∧c5=a.cloud∧w6=b.vec∧e7=b.cloud∧(0:Int)≤i3∧i3≤(↑a.vec.length:Int)∧∀ (j:Nat),(↑j:Int) < i3→a.vec[j]! = b.vec[j]!:=h_8
 refine sq<|sq<|rG cx [2,3,5,27] [2,3] (tL 3 c3 v4 (tB 4 (i3 < (↑v4.length:Int)) z0))<|sn<|dC (i3 < (↑v4.length:Int)) (fun h16=>?_) fun h16=>?_
 refine sK<|sn<|sq<|bL 1<|sq<|rA cx [2,3,5,40] [2,3] (fA ((0:Int)≤i3) (fG c3 v4 i3.toNat (fR (1:Nat) (fA ((0:Int)≤i3) (fP ((List.map c3 w6)[i3.toNat]?=some (c3 w6[i3.toNat]!)) ?g2 (fR (1:Nat) (tN 10 v4[i3.toNat]! w6[i3.toNat]! (oR 3 (c3 v4[i3.toNat]!) (oR 8 (c3 w6[i3.toNat]!) z0))))))))) ?_;rotate_left
 refine sn<|dC (¬v4[i3.toNat]! = w6[i3.toNat]!) (fun h17=>?_) fun h17=>?_
 refine sq<|rG cx [4] [] z0<|sn<|rT<|bR<|nR<|nR<|bR<|nR<|qR (.b (false)) (.eq ?g3);rotate_left
 refine sK<|bN<|sn<|rG cx [2,3,5] [2,3] (tT 1 (told_i64 (by omega) ?g4:AV.i .i64 (IntKind.i64.wrap (i3+(1:Int)))=AV.i .i64 (i3+(1:Int))) z0) ?_;rotate_left
 refine sn<|loop_next ((i3+(1:Int),v4,c5,w6,e7)) (by kernel_rfl) (show ((↑a.vec.length:Int)-(i3+(1:Int))).toNat < ((↑a.vec.length:Int)-i3).toNat from ?g5) (show invSV a b (i3+(1:Int)) v4 c5 w6 e7 from ?g6);rotate_left 2
 refine eX 0<|nE<|nE<|bH<|sn<|sq<|sq<|rG cx [2,3,6] [2,3] z0<|sn<|bL 2<|st_loop (X:=Int×List Int×List Span×List Int×List Span) (fun x=>⟨[(2,.ptr (2) (0) (0) (0)),(3,.ptr (3) (0) (0) (0)),(6,.i .i64 (x.1))],[(2,⟨0,26,.var [.sl (List.map c3 x.2.1),.sl (List.map c104 x.2.2.1)]⟩),(3,⟨0,26,.var [.sl (List.map c3 x.2.2.2.1),.sl (List.map c104 x.2.2.2.2)]⟩)]⟩) (fun x ↦ decSC a x.1 x.2.1 x.2.2.1 x.2.2.2.1 x.2.2.2.2) (fun x ↦ invSC a b x.1 x.2.1 x.2.2.1 x.2.2.2.1 x.2.2.2.2) [2,3,6] [2,3] (((0:Int),v4,c5,w6,e7)) (by kernel_rfl) (by kernel_rfl) (show invSC a b (0:Int) v4 c5 w6 e7 from ?g7) ?_;rotate_left
 rintro ⟨i18,v19,c20,w21,e22⟩ h_23
 obtain ⟨h24,h25,h26,h27,h28,h29,h30⟩:v19=a.vec∧c20=a.cloud∧w21=b.vec∧e22=b.cloud∧(0:Int)≤i18∧i18≤(↑a.cloud.length:Int)∧∀ (j:Nat),(↑j:Int) < i18→a.cloud[j]! = b.cloud[j]!:=h_23
 refine sq<|sq<|rG cx [2,3,6,45] [2,3] (tL 3 c104 c20 (tB 4 (i18 < (↑c20.length:Int)) z0))<|sn<|dC (i18 < (↑c20.length:Int)) (fun h31=>?_) fun h31=>?_
 refine sK<|sn<|sq<|bL 3<|sq<|rA cx [2,3,6,58] [2,3] (fA ((0:Int)≤i18) (fG c104 c20 i18.toNat (fR (3:Nat) (fN 3 3 (fA ((0:Int)≤i18) (fP ((List.map c104 e22)[i18.toNat]?=some (c104 e22[i18.toNat]!)) ?g8 (fR (3:Nat) (fN 3 3 (fT (aggNe_dec (eq104 c20[i18.toNat]! e22[i18.toNat]!)) (oR 3 (c104 c20[i18.toNat]!) (oR 8 (c104 e22[i18.toNat]!) (oA 10 (.b (decide ¬c20[i18.toNat]! = e22[i18.toNat]!)) z0)))))))))))) ?_;rotate_left
 refine sn<|dC (¬c20[i18.toNat]! = e22[i18.toNat]!) (fun h32=>?_) fun h32=>?_
 refine sq<|rG cx [4] [] z0<|sn<|rT<|bR<|nR<|nR<|bR<|nR<|qR (.b (false)) (.eq ?g9);rotate_left
 refine sK<|bN<|sn<|rG cx [2,3,6] [2,3] (tT 1 (told_i64 (by omega) ?g10:AV.i .i64 (IntKind.i64.wrap (i18+(1:Int)))=AV.i .i64 (i18+(1:Int))) z0) ?_;rotate_left
 refine sn<|loop_next ((i18+(1:Int),v19,c20,w21,e22)) (by kernel_rfl) (show ((↑a.cloud.length:Int)-(i18+(1:Int))).toNat < ((↑a.cloud.length:Int)-i18).toNat from ?g11) (show invSC a b (i18+(1:Int)) v19 c20 w21 e22 from ?g12);rotate_left 2
 refine eX 2<|nE<|nE<|bH<|sn<|sq<|rG cx [4] [] z0<|sn<|rT<|qR (.b (true)) (.eq ?g13);rotate_left
 revert hh2;rotate_left
 revert hh2;rotate_left
 revert hh2 i3 v4 c5 w6 e7 h9 h10 h11 h12 h13 h14 h15 h16;rotate_left
 revert hh2 i3 v4 c5 w6 e7 h9 h10 h11 h12 h13 h14 h15 h16 h17;rotate_left
 revert hh2 i3 v4 c5 w6 e7 h9 h10 h11 h12 h13 h14 h15 h16 h17;rotate_left
 revert hh2 i3 v4 c5 w6 e7 h9 h10 h11 h12 h13 h14 h15 h16 h17;rotate_left
 revert hh2 i3 v4 c5 w6 e7 h9 h10 h11 h12 h13 h14 h15 h16 h17;rotate_left
 revert hh2 i3 v4 c5 w6 e7 h9 h10 h11 h12 h13 h14 h15 h16;rotate_left
 revert hh2 i3 v4 c5 w6 e7 h9 h10 h11 h12 h13 h14 h15 h16 i18 v19 c20 w21 e22 h24 h25 h26 h27 h28 h29 h30 h31;rotate_left
 revert hh2 i3 v4 c5 w6 e7 h9 h10 h11 h12 h13 h14 h15 h16 i18 v19 c20 w21 e22 h24 h25 h26 h27 h28 h29 h30 h31 h32;rotate_left
 revert hh2 i3 v4 c5 w6 e7 h9 h10 h11 h12 h13 h14 h15 h16 i18 v19 c20 w21 e22 h24 h25 h26 h27 h28 h29 h30 h31 h32;rotate_left
 revert hh2 i3 v4 c5 w6 e7 h9 h10 h11 h12 h13 h14 h15 h16 i18 v19 c20 w21 e22 h24 h25 h26 h27 h28 h29 h30 h31 h32;rotate_left
 revert hh2 i3 v4 c5 w6 e7 h9 h10 h11 h12 h13 h14 h15 h16 i18 v19 c20 w21 e22 h24 h25 h26 h27 h28 h29 h30 h31 h32;rotate_left
 revert hh2 i3 v4 c5 w6 e7 h9 h10 h11 h12 h13 h14 h15 h16 i18 v19 c20 w21 e22 h24 h25 h26 h27 h28 h29 h30 h31;rotate_left
 case g0=>intro h;rw [decide_eq_false];rintro rfl;exact h.elim (fun k=>k rfl) (fun k=>k rfl)
 case g1=>intro h;exact ⟨rfl,rfl,rfl,rfl,by omega,by omega,fun j hj=>by omega⟩
 case g2=>intro h i v c w e k0 k1 k2 k3 k4 k5 k6 k7;subst k0 k1 k2 k3;exact get_map (by omega)
 case g3=>intro h i v c w e k0 k1 k2 k3 k4 k5 k6 k7 k8;subst k0 k1 k2 k3;rw [decide_eq_false];rintro rfl;exact k8 rfl
 case g4=>intro h i v c w e k0 k1 k2 k3 k4 k5 k6 k7 k8;subst k0 k1 k2 k3;omega
 case g5=>intro h i v c w e k0 k1 k2 k3 k4 k5 k6 k7 k8;subst k0 k1 k2 k3;omega
 case g6 =>
  intro h i v c w e k0 k1 k2 k3 k4 k5 k6 k7 k8
  subst k0 k1 k2 k3
  refine ⟨rfl,rfl,rfl,rfl,by omega,by omega,fun j hj=>?_⟩
  by_cases e:j=i.toNat
  ·rw [e];exact Classical.not_not.1 k8
  ·exact k6 j (by omega)
 case g7=>intro h i v c w e k0 k1 k2 k3 k4 k5 k6 k7;exact ⟨k0,k1,k2,k3,by omega,by omega,fun j hj=>by omega⟩
 case g8=>intro h i v c w e k0 k1 k2 k3 k4 k5 k6 k7 j x y z u m0 m1 m2 m3 m4 m5 m6 m7;subst m0 m1 m2 m3;exact get_map (by omega)
 case g9=>intro h i v c w e k0 k1 k2 k3 k4 k5 k6 k7 j x y z u m0 m1 m2 m3 m4 m5 m6 m7 m8;subst m0 m1 m2 m3;rw [decide_eq_false];rintro rfl;exact m8 rfl
 case g10=>intro h i v c w e k0 k1 k2 k3 k4 k5 k6 k7 j x y z u m0 m1 m2 m3 m4 m5 m6 m7 m8;subst m0 m1 m2 m3;omega
 case g11=>intro h i v c w e k0 k1 k2 k3 k4 k5 k6 k7 j x y z u m0 m1 m2 m3 m4 m5 m6 m7 m8;subst m0 m1 m2 m3;omega
 case g12 =>
  intro h i v c w e k0 k1 k2 k3 k4 k5 k6 k7 j x y z u m0 m1 m2 m3 m4 m5 m6 m7 m8
  subst m0 m1 m2 m3
  refine ⟨rfl,rfl,rfl,rfl,by omega,by omega,fun l hl=>?_⟩
  by_cases e:l=j.toNat
  ·rw [e];exact Classical.not_not.1 m8
  ·exact m6 l (by omega)
 case g13 =>
  intro h i v c w e k0 k1 k2 k3 k4 k5 k6 k7 j x y z u m0 m1 m2 m3 m4 m5 m6 m7
  subst k0 m1
  have e1:a.vec=b.vec:=eq_of_all (by omega) fun j hj=>k6 j (by omega)
  have e2:a.cloud=b.cloud:=eq_of_all (by omega) fun j hj=>m6 j (by omega)
  rw [decide_eq_true]
  cases a;cases b
  simp only at e1 e2
  rw [e1,e2]
end Go.Proofs.YtaiepnaokhpmcaaGreat
