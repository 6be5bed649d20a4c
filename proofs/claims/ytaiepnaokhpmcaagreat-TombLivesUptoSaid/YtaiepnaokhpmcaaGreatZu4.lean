/- Rd: the document's turns. Conditions: sizes. Re: the document's Mean. Conditions: sizes. Rf: the document's Form. Conditions: the runs are in form. Rg: the document's Norm, Of, IsNorm. Conditions: sizes. Pm: span.Meet, others, Minus; past.Minus, Join. Conditions: sizes. Rm: the document's combine, Minus, Join, Size, Empty. Conditions: sizes. Rn: the document's Compare, Next, Within. Conditions: sizes. La: lines: entries in form. Conditions: none. Kr: records in the documents. Conditions: sizes. Ta: the act layer's document: entries, records, facts in form. Conditions: sizes. Lc: walks, written by a program of this claim's own, and what each function hands back. Conditions: none. Ya: the library's stable sort, piece by piece: what each function of it does to the row. Conditions: what is asked of 'less' and of 'swap'. Yb: the library's stable sort: symMerge puts two sorted runs into one. Conditions: what is asked of 'less' and of 'swap'; the order. Yc: the library's stable sort, whole: blocks of 20 by insertion, then merged by pairs. Conditions: what is asked of 'less' and of 'swap'; the order. Yd: the library's stable sort: the one order that it gives (by tags: each element with its place), and sort.SliceStable. Conditions: what is asked of 'less'; the order; the types. Ye: sort.SliceStable, walked. Conditions: what is asked of 'less'; the order; the types. Yg: sort.SliceStable as a call that puts a row of one's own into the stable order. Conditions: 'less' by its contract; the order; the types. Le: lines: the library's sort at entries; copies; what sorted lists come to. Conditions: none. -/
import Derived.Below
import Derived.OwnWalk
import Derived.WalkKit
import Derived.KernelRfl
import Derived.Laws.MakeOwn
import Derived.Laws.OwnMore
import Derived.Laws.Slices
import Derived.Laws.CopyOwn
import Derived.Laws.AppendOwnNone
import Derived.Laws.Rows
import Derived.Orders
import Derived.Test.YtaiepnaokhpmcaaGreatProg
import Derived.DataReads
import Derived.ChangeOld
import Derived.DataElems
import Derived.SizedLaws
import Derived.ChangeKeysEq
import Derived.Sort.LotA
import Derived.Shelf.SlSortFuncK.RowK2
import Derived.Shelf.SlSortCmp.NoneTotal
import Derived.Lib.Walk
import Derived.Shelf.SlLaysE0
import Derived.Shelf.RegionOpenPlain
import Derived.Deep.LoopGhost
import Derived.Lib.SliceRun
import Derived.Lib.Bytealg
import Derived.Shelf.SlSortFuncK.SWK
import Derived.Deep.Cut
import Derived.Deep.CutRange
import Derived.Deep.DeepCutAuto
import Derived.Lib.ReflectliteSwap
import Derived.Laws.Externs
import Derived.Lib.ReflectliteSlice
import Derived.Test.YtaiepnaokhpmcaaGreatZu3
set_option linter.unusedVariables false
set_option linter.unusedSimpArgs false
set_option linter.unusedSectionVars false
namespace Go.Proofs.YtaiepnaokhpmcaaGreat
open Go.E
set_option maxRecDepth 100000
set_option maxHeartbeats 4000000
def A5t(lo hi:List Int):List Run:=List.zipWith (fun a b=>⟨a,b⟩) lo hi
def A4u(lo hi:List Int)(i:Int)(l:List Int):Prop:=l=B9o ((A5t lo hi).take i.toNat)
def Z8(lo hi:List Int)(i:Int)(l:List Int):Prop:=l=Ad0 ((A5t lo hi).take i.toNat)
def B6v(lo hi:List Int)(i:Int)(a b:List Int):Prop:=0≤i∧i≤lo.length∧(a.length:Int)≤i∧(b.length:Int)=a.length∧A4u lo hi i a∧Z8 lo hi i b
def decTa(lo:List Int)(i:Int)(a b:List Int):Nat:=(lo.length-i).toNat
def B6w(A B:List Int)(i j:Int)(t:List Int):Prop:=VW (A.drop i.toNat) (B.drop j.toNat) (i-j).toNat∧j≤i∧t++sw (A.drop i.toNat) (B.drop j.toNat) (i-j).toNat=sw A B 0
def Az9(A B:List Int)(d j i:Int)(t:List Int):Prop:=0≤i∧i≤A.length∧0≤j∧j≤B.length∧d=i-j∧(t.length:Int)≤i+j∧B6w A B i j t
def decTb(A B:List Int)(d j i:Int)(t:List Int):Nat:=(A.length+B.length-i-j).toNat
theorem A8k{A B:List Int}{i j:Int}{t:List Int}(h0:0≤i)(hi:i≤A.length)(j0:0≤j)(jl:j≤B.length)(h:B6w A B i j t):A.length=B.length:=by
 have:=h.1.len
 have:=h.2.1
 simp only [List.length_drop]at *
 omega
theorem B3e{A B:List Int}{i j:Int}{t:List Int}(h0:0≤i)(hi:i < A.length)(j0:0≤j)(jl:j≤B.length)(hle:A[i.toNat]!≤B[j.toNat]!)(h:B6w A B i j t) :
  B6w A B (i+1) j (if i-j=0 then t++[A[i.toNat]!]else t):=by
 have hl:=A8k h0 (by omega) j0 jl h
 obtain⟨v,hji,e⟩:=h
 have hj:j < B.length:=by omega
 rw[O7 h0 hi,O7 j0 hj]at v e
 rw[sw,if_pos hle]at e
 refine⟨?_,by omega,?_⟩
 ·rw[O7 j0 hj,show(i+1-j).toNat=(i-j).toNat+1 by omega];exact v.in_ hle
 ·rw[← e,O7 j0 hj,show(i+1-j).toNat=(i-j).toNat+1 by omega]
  by_cases z:i-j=0
  ·rw[if_pos z,if_pos (show(i-j).toNat=0 by omega),List.append_assoc]
  ·rw[if_neg z,if_neg (show ¬(i-j).toNat=0 by omega)];rfl
theorem A8l{A B:List Int}{i j:Int}{t:List Int}(h0:0≤i)(hi:i≤A.length)(j0:0≤j)(jl:j≤B.length)(ho:i < A.length∨j < B.length)(hn:¬(i < A.length∧A[i.toNat]!≤B[j.toNat]!))(h:B6w A B i j t) :
  j < B.length∧j < i∧B6w A B i (j+1) (if i-j-1=0 then t++[B[j.toNat]!]else t):=by
 have hl:=A8k h0 hi j0 jl h
 obtain⟨v,hji,e⟩:=h
 have hj:j < B.length:=by omega
 rw[O7 j0 hj]at v e
 by_cases hA:i < A.length
 ·have hba:B[j.toNat]! < A[i.toNat]!:=by have:¬ A[i.toNat]!≤B[j.toNat]!:=fun k=>hn ⟨hA,k⟩;omega
  rw[O7 h0 hA]at v e
  have hp:=v.pos hba
  rw[sw,if_neg (by omega)]at e
  refine⟨hj,by omega,?_,by omega,?_⟩
  ·rw[O7 h0 hA,show(i-(j+1)).toNat=(i-j).toNat-1 by omega];exact v.out hba
  ·rw[← e,O7 h0 hA,show(i-(j+1)).toNat=(i-j).toNat-1 by omega]
   by_cases z:i-j-1=0
   ·rw[if_pos z,if_pos (show(i-j).toNat=1 by omega),List.append_assoc]
   ·rw[if_neg z,if_neg (show ¬(i-j).toNat=1 by omega)];rfl
 ·rw[List.drop_of_length_le (l:=A) (by omega)]at v e
  have hp:=v.end_
  rw[sw]at e
  refine⟨hj,by omega,?_,by omega,?_⟩
  ·rw[List.drop_of_length_le (l:=A) (by omega),show(i-(j+1)).toNat=(i-j).toNat-1 by omega];exact hp.2
  ·rw[← e,List.drop_of_length_le (l:=A) (by omega),show(i-(j+1)).toNat=(i-j).toNat-1 by omega]
   by_cases z:i-j-1=0
   ·rw[if_pos z,if_pos (show(i-j).toNat=1 by omega),List.append_assoc]
   ·rw[if_neg z,if_neg (show ¬(i-j).toNat=1 by omega)];rfl
theorem B6x{A B:List Int}{i j:Int}{t:List Int}(ho:¬(i < A.length∨j < B.length))(h:B6w A B i j t):t=sw A B 0:=by
 have e:=h.2.2
 rw[List.drop_of_length_le (by omega),List.drop_of_length_le (by omega),sw,List.append_nil]at e
 exact e
theorem Al4{lo hi:List Int}(h:lo.length=hi.length):(A5t lo hi).length=lo.length:=by
 unfold A5t;rw[List.length_zipWith];omega
theorem As6{lo hi:List Int}{i:Int}(h:lo.length=hi.length)(h0:0≤i)(hi':i < lo.length):(A5t lo hi).take (i+1).toNat=(A5t lo hi).take i.toNat++[⟨lo[i.toNat]!,hi[i.toNat]!⟩]:=by
 rw[← D9 h0 (by rw[Al4 h];exact hi')]
 congr 2
 have:=Al4 h
 rw[getElem!_pos (A5t lo hi) i.toNat (by omega),getElem!_pos lo i.toNat (by omega),getElem!_pos hi i.toNat (by omega)]
 simp [A5t]
theorem B3f(a:List Run)(r:Run):B9o (a++[r])=B9o a++if(F1 r).lo≤(F1 r).hi then[(F1 r).lo]else[]:=by
 unfold B9o
 rw[A4i,A1q,List.map_append]
 split <;> rfl
theorem As7(a:List Run)(r:Run):Ad0 (a++[r])=Ad0 a++if(F1 r).lo≤(F1 r).hi then[(F1 r).hi+1]else[]:=by
 unfold Ad0
 rw[A4i,A1q,List.map_append]
 split <;> rfl
theorem B6y{lo hi:List Int}{i:Int}{a b:List Int}(h:lo.length=hi.length)(h0:0≤i)(hl:i < lo.length)(hc:max lo[i.toNat]! 1≤min hi[i.toNat]! 1000000000)(ha:A4u lo hi i a)(hb:Z8 lo hi i b) :
  A4u lo hi (i+1) (a++[max lo[i.toNat]! 1])∧Z8 lo hi (i+1) (b++[min hi[i.toNat]! 1000000000+1]):=by
 unfold A4u Z8 at *
 have hc':(F1 ⟨lo[i.toNat]!,hi[i.toNat]!⟩).lo≤(F1 ⟨lo[i.toNat]!,hi[i.toNat]!⟩).hi:=hc
 rw[As6 h h0 hl,B3f,As7,← ha,← hb,if_pos hc',if_pos hc']
 exact⟨rfl,rfl⟩
theorem B3g{lo hi:List Int}{i:Int}{a b:List Int}(h:lo.length=hi.length)(h0:0≤i)(hl:i < lo.length)(hc:¬ max lo[i.toNat]! 1≤min hi[i.toNat]! 1000000000)(ha:A4u lo hi i a)(hb:Z8 lo hi i b) :
  A4u lo hi (i+1) a∧Z8 lo hi (i+1) b:=by
 unfold A4u Z8 at *
 have hc':¬(F1 ⟨lo[i.toNat]!,hi[i.toNat]!⟩).lo≤(F1 ⟨lo[i.toNat]!,hi[i.toNat]!⟩).hi:=hc
 rw[As6 h h0 hl,B3f,As7,← ha,← hb,if_neg hc',if_neg hc',List.append_nil,List.append_nil]
 exact⟨rfl,rfl⟩
theorem Ad2{lo hi:List Int}{i:Int}{a b:List Int}(h:lo.length=hi.length)(hl:¬ i < lo.length)(ha:A4u lo hi i a)(hb:Z8 lo hi i b):a.mergeSort leI=Bf8 (A5t lo hi)∧b.mergeSort leI=Al3 (A5t lo hi):=by
 unfold A4u Z8 at *
 have:=Al4 h
 rw[ha,hb,List.take_of_length_le (by omega)]
 exact⟨rfl,rfl⟩
theorem B00(l:List Run):B6w (Bf8 l) (Al3 l) 0 0 []:=⟨As5 l,by omega,by simp⟩
theorem con171(lo hi:List Int)(h:lo.length=hi.length)(hb:lo.length*16≤140737488351232):Con Tryz.prog 171 [.sl (lo.map c3),.sl (hi.map c3)] (.sl ((L6 (nrm (A5t lo hi))).map c3)) :=
 by
 refine lN 0 c3 (lo) Tryz.func171 fun hl_0=>lN 1 c3 (hi) Tryz.func171 fun hl_1=>sC B1 [.tmp 4] 98 Tryz.func171 ?_
 intro e0 cx
 refine sq<|rG cx [0,1] [] z0<|sn<|sq<|rG cx [0,1,5,6] [] z0<|sn<|sq<|sq<|rG cx [0,1,5,6,7] [] z0<|sn<|bL 0<|H8 5 1005 3 1 (σ':=⟨[(0,.sl (List.map c3 lo)),(1,.sl (List.map c3 hi)),(5,.own 1005 0),(6,.nl),(7,.i .i64 ((0:Int)))],[(1005,⟨0,3,.row 1 (List.map c3 [])⟩)]⟩) (by kernel_rfl)<|H8 6 1006 3 1 (σ':=⟨[(0,.sl (List.map c3 lo)),(1,.sl (List.map c3 hi)),(5,.own 1005 0),(6,.own 1006 0),(7,.i .i64 ((0:Int)))],[(1005,⟨0,3,.row 1 (List.map c3 [])⟩),(1006,⟨0,3,.row 1 (List.map c3 [])⟩)]⟩) (by kernel_rfl)<|sL (X:=Int×List Int×List Int) (fun x=>⟨[(0,.sl (List.map c3 lo)),(1,.sl (List.map c3 hi)),(5,.own 1005 0),(6,.own 1006 0),(7,.i .i64 (x.1))],[(1005,⟨0,3,.row 1 (List.map c3 x.2.1)⟩),(1006,⟨0,3,.row 1 (List.map c3 x.2.2)⟩)]⟩) (fun x ↦ decTa lo x.1 x.2.1 x.2.2) (fun x ↦ B6v lo hi x.1 x.2.1 x.2.2) [0,1,5,6,7] [1005,1006] (((0:Int),[],[])) (show B6v lo hi (0:Int) [] []from ?g0) ?_;rotate_left
 rintro⟨i0,a1,b2⟩ h_3
 obtain⟨hh4,hh5,hh6,hh7,h8,h9⟩:0≤i0∧i0≤(↑lo.length:Int)∧(↑a1.length:Int)≤i0∧(↑b2.length:Int)=(↑a1.length:Int)∧A4u lo hi i0 a1∧Z8 lo hi i0 b2:=h_3
 refine sq<|rD cx [0,1,5,6,7,17] [1005,1006] (tL 2 c3 lo (zB 3 (i0 <(↑lo.length:Int)))) (fun h10=>?_) fun h10=>?_
 refine sK<|sn<|sq<|bL 1<|sq<|rA cx [0,1,5,6,7,8,9] [1005,1006] (fA (0≤i0) (fG c3 lo i0.toNat (fR 1 (tT 4 (A3o:AV.i .i64 (if(1:Int) > lo[i0.toNat]! then(1:Int)else lo[i0.toNat]!)=AV.i .i64 (max lo[i0.toNat]! (1:Int))) (fA (0≤i0) (fG c3 hi i0.toNat (fR 1 (tT 9 (A3p:AV.i .i64 (if(1000000000:Int) < hi[i0.toNat]! then(1000000000:Int)else hi[i0.toNat]!)=AV.i .i64 (min hi[i0.toNat]! (1000000000:Int))) (oR 2 (c3 lo[i0.toNat]!) (oR 7 (c3 hi[i0.toNat]!) z0))))))))))<|sn<|rD cx [0,1,5,6,7,8,9,32] [1005,1006] (zB 2 (max lo[i0.toNat]! 1≤min hi[i0.toNat]! (1000000000:Int))) (fun h11=>?_) fun h11=>?_
 refine sq<|rG cx [0,1,5,6,7,9] [1005,1006] (fR 3 (fR 1 (fR 1 (fX c3 [max lo[i0.toNat]! (1:Int)] 1 (fS c3 a1 c3 [max lo[i0.toNat]! (1:Int)] (fP (((List.map c3 a1).length+(List.map c3 [max lo[i0.toNat]! (1:Int)]).length)*(8:Nat)≤(140737488355328:Nat)) (by(simp only [Go.maxLen,List.length_map,List.length_append,List.length_cons,List.length_nil];omega)) (fM c3 a1 [max lo[i0.toNat]! (1:Int)] (oV 3 { rows:=some (List.map c3 (a1++[max lo[i0.toNat]! (1:Int)])) } z0))))))))<|sn<|rG cx [0,1,5,6,7] [1005,1006] (tW 2 (min hi[i0.toNat]! (1000000000:Int)+(1:Int)) (fR 3 (fR 1 (fR 1 (fX c3 [min hi[i0.toNat]! (1000000000:Int)+(1:Int)] 1 (fS c3 b2 c3 [min hi[i0.toNat]! (1000000000:Int)+(1:Int)] (fP (((List.map c3 b2).length+(List.map c3 [min hi[i0.toNat]! (1000000000:Int)+(1:Int)]).length)*(8:Nat)≤(140737488355328:Nat)) (by(simp only [Go.maxLen,List.length_map,List.length_append,List.length_cons,List.length_nil];omega)) (fM c3 b2 [min hi[i0.toNat]! (1000000000:Int)+(1:Int)] (oV 4 { rows:=some (List.map c3 (b2++[min hi[i0.toNat]! (1000000000:Int)+(1:Int)])) } z0)))))))))<|bN<|sn<|rG cx [0,1,5,6,7] [1005,1006] (tW 1 (i0+1) z0)<|sn<|nX ((i0+1,a1++[max lo[i0.toNat]! (1:Int)],b2++[min hi[i0.toNat]! (1000000000:Int)+(1:Int)])) (show((↑lo.length:Int)-(i0+1)).toNat <((↑lo.length:Int)-i0).toNat from(by omega)) (show B6v lo hi (i0+1) (a1++[max lo[i0.toNat]! (1:Int)]) (b2++[min hi[i0.toNat]! (1000000000:Int)+(1:Int)])from ?g1);rotate_left
 refine sK<|bN<|sn<|rG cx [0,1,5,6,7] [1005,1006] (tW 1 (i0+1) z0)<|sn<|nX ((i0+1,a1,b2)) (show((↑lo.length:Int)-(i0+1)).toNat <((↑lo.length:Int)-i0).toNat from(by omega)) (show B6v lo hi (i0+1) a1 b2 from ?g2);rotate_left
 refine eX 0<|nE<|nE<|bH<|sn<|sq<|rG cx [5,6] [1006] (fT (B9n (a1) (by omega)) (oA 1 (.sl (List.map c3 (a1.mergeSort leI))) z0))<|sn<|sq<|rG cx [5,6] [] (fT (B9n (b2) (by omega)) (oA 1 (.sl (List.map c3 (b2.mergeSort leI))) z0))<|sn<|sq<|rG cx [5,6,10] [] z0<|sn<|sq<|rG cx [5,6,10,11,12] [] z0<|sn<|sq<|sq<|rG cx [5,6,10,11,12,13] [] z0<|sn<|bL 2<|H8 10 1010 3 1 (σ':=⟨[(5,.sl (List.map c3 (a1.mergeSort leI))),(6,.sl (List.map c3 (b2.mergeSort leI))),(10,.own 1010 0),(11,.i .i64 ((0:Int))),(12,.i .i64 ((0:Int))),(13,.i .i64 ((0:Int)))],[(1010,⟨0,3,.row 1 (List.map c3 [])⟩)]⟩) (by kernel_rfl)<|sL (X:=Int×Int×Int×List Int) (fun x=>⟨[(5,.sl (List.map c3 (a1.mergeSort leI))),(6,.sl (List.map c3 (b2.mergeSort leI))),(10,.own 1010 0),(11,.i .i64 (x.1)),(12,.i .i64 (x.2.1)),(13,.i .i64 (x.2.2.1))],[(1010,⟨0,3,.row 1 (List.map c3 x.2.2.2)⟩)]⟩) (fun x ↦ decTb (a1.mergeSort leI) (b2.mergeSort leI) x.1 x.2.1 x.2.2.1 x.2.2.2) (fun x ↦ Az9 (a1.mergeSort leI) (b2.mergeSort leI) x.1 x.2.1 x.2.2.1 x.2.2.2) [5,6,10,11,12,13] [1010] (((0:Int),(0:Int),(0:Int),[])) (show Az9 (a1.mergeSort leI) (b2.mergeSort leI) (0:Int) (0:Int) (0:Int) []from ?g3) ?_;rotate_left
 rintro⟨d12,j13,i14,t15⟩ h_16
 obtain⟨h17,h18,h19,h20,h21,h22,h23⟩:0≤i14∧i14≤(↑(a1.mergeSort leI).length:Int)∧0≤j13∧j13≤(↑(b2.mergeSort leI).length:Int)∧d12=i14-j13∧(↑t15.length:Int)≤i14+j13∧B6w (a1.mergeSort leI) (b2.mergeSort leI) i14 j13 t15:=h_16
 refine sq<|sq<|B4 (σ':=⟨[(5,.sl (List.map c3 (a1.mergeSort leI))),(6,.sl (List.map c3 (b2.mergeSort leI))),(10,.own 1010 0),(11,.i .i64 (d12)),(12,.i .i64 (j13)),(13,.i .i64 (i14)),(55,.b (decide (i14 <(↑(a1.mergeSort leI).length:Int)∨j13 <(↑(b2.mergeSort leI).length:Int))))],[(1010,⟨0,3,.row 1 (List.map c3 t15)⟩)]⟩) ?_ ?_
 refine A4 (i14 <(↑(a1.mergeSort leI).length:Int)) (fun h_25=>?_) (fun h_25=>?_)
 refine rG cx [5,6,10,11,12,13,55] [1010] (tL 2 c3 (a1.mergeSort leI) (tT 3 (A6 h_25) (tD 9 true (i14 <(↑(a1.mergeSort leI).length:Int)∨j13 <(↑(b2.mergeSort leI).length:Int)) (by simp only [eq_true h_25,tsl]) z0))) ?_
 exact⟨rfl,by kernel_rfl⟩
 refine rG cx [5,6,10,11,12,13,55] [1010] (tL 2 c3 (a1.mergeSort leI) (tT 3 (A3 h_25) (tL 7 c3 (b2.mergeSort leI) (tB 8 (j13 <(↑(b2.mergeSort leI).length:Int)) (tD 9 (decide (j13 <(↑(b2.mergeSort leI).length:Int))) (i14 <(↑(a1.mergeSort leI).length:Int)∨j13 <(↑(b2.mergeSort leI).length:Int)) (by simp only [eq_false h_25,tsl]) z0))))) ?_
 exact⟨rfl,by kernel_rfl⟩
 refine sn<|dC (i14 <(↑(a1.mergeSort leI).length:Int)∨j13 <(↑(b2.mergeSort leI).length:Int)) (fun h26=>?_) fun h26=>?_
 refine sK<|sn<|bL 3<|sq<|B4 (σ':=⟨[(5,.sl (List.map c3 (a1.mergeSort leI))),(6,.sl (List.map c3 (b2.mergeSort leI))),(10,.own 1010 0),(11,.i .i64 (d12)),(12,.i .i64 (j13)),(13,.i .i64 (i14)),(70,.b (decide (i14 <(↑(a1.mergeSort leI).length:Int)∧(a1.mergeSort leI)[i14.toNat]!≤(b2.mergeSort leI)[j13.toNat]!)))],[(1010,⟨0,3,.row 1 (List.map c3 t15)⟩)]⟩) ?_ ?_
 refine A4 (i14 <(↑(a1.mergeSort leI).length:Int)) (fun h28=>?_) (fun h28=>?_)
 refine rA cx [5,6,10,11,12,13,70] [1010] (tL 2 c3 (a1.mergeSort leI) (tT 3 (A6 h28) (fA (0≤i14) (fG c3 (a1.mergeSort leI) i14.toNat (fR 1 (fA (0≤j13) (fP ((List.map c3 (b2.mergeSort leI))[j13.toNat]?=some (c3 (b2.mergeSort leI)[j13.toNat]!)) ?g4 (fR 1 (tB 13 ((a1.mergeSort leI)[i14.toNat]!≤(b2.mergeSort leI)[j13.toNat]!) (tD 14 (decide ((a1.mergeSort leI)[i14.toNat]!≤(b2.mergeSort leI)[j13.toNat]!)) (i14 <(↑(a1.mergeSort leI).length:Int)∧(a1.mergeSort leI)[i14.toNat]!≤(b2.mergeSort leI)[j13.toNat]!) (by simp only [eq_true h28,tsl]) (oR 7 (c3 (a1.mergeSort leI)[i14.toNat]!) (oR 11 (c3 (b2.mergeSort leI)[j13.toNat]!) z0)))))))))))) ?_;rotate_left
 exact⟨rfl,by kernel_rfl⟩
 refine rA cx [5,6,10,11,12,13,70] [1010] (tL 2 c3 (a1.mergeSort leI) (tT 3 (A3 h28) (tD 14 false (i14 <(↑(a1.mergeSort leI).length:Int)∧(a1.mergeSort leI)[i14.toNat]!≤(b2.mergeSort leI)[j13.toNat]!) (by simp only [eq_false h28,tsl]) z0))) ?_
 exact⟨rfl,by kernel_rfl⟩
 refine sn<|dC (i14 <(↑(a1.mergeSort leI).length:Int)∧(a1.mergeSort leI)[i14.toNat]!≤(b2.mergeSort leI)[j13.toNat]!) (fun h29=>?_) fun h29=>?_
 refine sq<|rD cx [5,6,10,11,12,13,72] [1010] (zB 1 (d12=0)) (fun h30=>?_) fun h30=>?_
 refine rG cx [5,6,10,11,12,13] [1010] (fA (0≤i14) (fG c3 (a1.mergeSort leI) i14.toNat (fR 1 (fR 3 (fR 1 (fR 1 (fX c3 [(a1.mergeSort leI)[i14.toNat]!] 1 (fP ((List.map c3 t15).length+(List.map c3 [(a1.mergeSort leI)[i14.toNat]!]).length≤maxLen) ?g5 (fP (((List.map c3 t15).length+(List.map c3 [(a1.mergeSort leI)[i14.toNat]!]).length)*(8:Nat)≤(140737488355328:Nat)) ?g6 (fM c3 t15 [(a1.mergeSort leI)[i14.toNat]!] (oR 3 (c3 (a1.mergeSort leI)[i14.toNat]!) (oV 6 { rows:=some (List.map c3 (t15++[(a1.mergeSort leI)[i14.toNat]!])) } z0)))))))))))) ?_;rotate_left 2
 refine sn<|sq<|rG cx [5,6,10,11,12,13] [1010] (tW 1 (d12+1) z0)<|sn<|rG cx [5,6,10,11,12,13] [1010] (tT 1 (B6 (by omega) ?g7:AV.i .i64 (IntKind.i64.wrap (i14+1))=AV.i .i64 (i14+1)) z0) ?_;rotate_left
 refine bN<|sn<|nX ((d12+1,j13,i14+1,t15++[(a1.mergeSort leI)[i14.toNat]!])) (show((↑(a1.mergeSort leI).length:Int)+(↑(b2.mergeSort leI).length:Int)-(i14+1)-j13).toNat <((↑(a1.mergeSort leI).length:Int)+(↑(b2.mergeSort leI).length:Int)-i14-j13).toNat from(by omega)) (show Az9 (a1.mergeSort leI) (b2.mergeSort leI) (d12+1) j13 (i14+1) (t15++[(a1.mergeSort leI)[i14.toNat]!])from ?g8);rotate_left
 refine sK<|sn<|sq<|rG cx [5,6,10,11,12,13] [1010] (tT 1 (B6 ?g9 ?g10:AV.i .i64 (IntKind.i64.wrap (d12+1))=AV.i .i64 (d12+1)) z0) ?_;rotate_left 2
 refine sn<|rG cx [5,6,10,11,12,13] [1010] (tT 1 (B6 (by omega) ?g11:AV.i .i64 (IntKind.i64.wrap (i14+1))=AV.i .i64 (i14+1)) z0) ?_;rotate_left
 refine bN<|sn<|nX ((d12+1,j13,i14+1,t15)) (show((↑(a1.mergeSort leI).length:Int)+(↑(b2.mergeSort leI).length:Int)-(i14+1)-j13).toNat <((↑(a1.mergeSort leI).length:Int)+(↑(b2.mergeSort leI).length:Int)-i14-j13).toNat from(by omega)) (show Az9 (a1.mergeSort leI) (b2.mergeSort leI) (d12+1) j13 (i14+1) t15 from ?g12);rotate_left
 refine sq<|rG cx [5,6,10,11,12,13] [1010] (tT 1 (B6 ?g13 ?g14:AV.i .i64 (IntKind.i64.wrap (d12-1))=AV.i .i64 (d12-1)) z0) ?_;rotate_left 2
 refine sn<|sq<|rD cx [5,6,10,11,12,13,87] [1010] (zB 1 (d12-1=(0:Int))) (fun h31=>?_) fun h31=>?_
 refine rG cx [5,6,10,11,12,13] [1010] (fA (0≤j13) (fP ((List.map c3 (b2.mergeSort leI))[j13.toNat]?=some (c3 (b2.mergeSort leI)[j13.toNat]!)) ?g15 (fR 1 (fR 3 (fR 1 (fR 1 (fX c3 [(b2.mergeSort leI)[j13.toNat]!] 1 (fP ((List.map c3 t15).length+(List.map c3 [(b2.mergeSort leI)[j13.toNat]!]).length≤maxLen) ?g16 (fP (((List.map c3 t15).length+(List.map c3 [(b2.mergeSort leI)[j13.toNat]!]).length)*(8:Nat)≤(140737488355328:Nat)) ?g17 (fM c3 t15 [(b2.mergeSort leI)[j13.toNat]!] (oR 3 (c3 (b2.mergeSort leI)[j13.toNat]!) (oV 6 { rows:=some (List.map c3 (t15++[(b2.mergeSort leI)[j13.toNat]!])) } z0)))))))))))) ?_;rotate_left 3
 refine sn<|rG cx [5,6,10,11,12,13] [1010] (tT 1 (B6 (by omega) ?g18:AV.i .i64 (IntKind.i64.wrap (j13+1))=AV.i .i64 (j13+1)) z0) ?_;rotate_left
 refine bN<|sn<|nX ((d12-1,j13+1,i14,t15++[(b2.mergeSort leI)[j13.toNat]!])) (show((↑(a1.mergeSort leI).length:Int)+(↑(b2.mergeSort leI).length:Int)-i14-(j13+1)).toNat <((↑(a1.mergeSort leI).length:Int)+(↑(b2.mergeSort leI).length:Int)-i14-j13).toNat from(by omega)) (show Az9 (a1.mergeSort leI) (b2.mergeSort leI) (d12-1) (j13+1) i14 (t15++[(b2.mergeSort leI)[j13.toNat]!])from ?g19);rotate_left
 refine sK<|sn<|rG cx [5,6,10,11,12,13] [1010] (tT 1 (B6 (by omega) ?g20:AV.i .i64 (IntKind.i64.wrap (j13+1))=AV.i .i64 (j13+1)) z0) ?_;rotate_left
 refine bN<|sn<|nX ((d12-1,j13+1,i14,t15)) (show((↑(a1.mergeSort leI).length:Int)+(↑(b2.mergeSort leI).length:Int)-i14-(j13+1)).toNat <((↑(a1.mergeSort leI).length:Int)+(↑(b2.mergeSort leI).length:Int)-i14-j13).toNat from(by omega)) (show Az9 (a1.mergeSort leI) (b2.mergeSort leI) (d12-1) (j13+1) i14 t15 from ?g21);rotate_left
 refine eX 2<|nE<|nE<|bH<|sn<|sq<|rG cx [4] [1010] z0<|sn<|rT<|qR (.sl (List.map c3 t15)) (.eq ?g22);rotate_left
 rotate_left
 revert i0 a1 b2 hh4 hh5 hh6 hh7 h8 h9 h10 h11;rotate_left
 revert i0 a1 b2 hh4 hh5 hh6 hh7 h8 h9 h10 h11;rotate_left
 revert i0 a1 b2 hh4 hh5 hh6 hh7 h8 h9 h10;rotate_left
 revert i0 a1 b2 hh4 hh5 hh6 hh7 h8 h9 h10 d12 j13 i14 t15 h17 h18 h19 h20 h21 h22 h23 h26 h28;rotate_left
 revert i0 a1 b2 hh4 hh5 hh6 hh7 h8 h9 h10 d12 j13 i14 t15 h17 h18 h19 h20 h21 h22 h23 h26 h29 h30;rotate_left
 revert i0 a1 b2 hh4 hh5 hh6 hh7 h8 h9 h10 d12 j13 i14 t15 h17 h18 h19 h20 h21 h22 h23 h26 h29 h30;rotate_left
 revert i0 a1 b2 hh4 hh5 hh6 hh7 h8 h9 h10 d12 j13 i14 t15 h17 h18 h19 h20 h21 h22 h23 h26 h29 h30;rotate_left
 revert i0 a1 b2 hh4 hh5 hh6 hh7 h8 h9 h10 d12 j13 i14 t15 h17 h18 h19 h20 h21 h22 h23 h26 h29 h30;rotate_left
 revert i0 a1 b2 hh4 hh5 hh6 hh7 h8 h9 h10 d12 j13 i14 t15 h17 h18 h19 h20 h21 h22 h23 h26 h29 h30;rotate_left
 revert i0 a1 b2 hh4 hh5 hh6 hh7 h8 h9 h10 d12 j13 i14 t15 h17 h18 h19 h20 h21 h22 h23 h26 h29 h30;rotate_left
 revert i0 a1 b2 hh4 hh5 hh6 hh7 h8 h9 h10 d12 j13 i14 t15 h17 h18 h19 h20 h21 h22 h23 h26 h29 h30;rotate_left
 revert i0 a1 b2 hh4 hh5 hh6 hh7 h8 h9 h10 d12 j13 i14 t15 h17 h18 h19 h20 h21 h22 h23 h26 h29 h30;rotate_left
 revert i0 a1 b2 hh4 hh5 hh6 hh7 h8 h9 h10 d12 j13 i14 t15 h17 h18 h19 h20 h21 h22 h23 h26 h29;rotate_left
 revert i0 a1 b2 hh4 hh5 hh6 hh7 h8 h9 h10 d12 j13 i14 t15 h17 h18 h19 h20 h21 h22 h23 h26 h29;rotate_left
 revert i0 a1 b2 hh4 hh5 hh6 hh7 h8 h9 h10 d12 j13 i14 t15 h17 h18 h19 h20 h21 h22 h23 h26 h29 h31;rotate_left
 revert i0 a1 b2 hh4 hh5 hh6 hh7 h8 h9 h10 d12 j13 i14 t15 h17 h18 h19 h20 h21 h22 h23 h26 h29 h31;rotate_left
 revert i0 a1 b2 hh4 hh5 hh6 hh7 h8 h9 h10 d12 j13 i14 t15 h17 h18 h19 h20 h21 h22 h23 h26 h29 h31;rotate_left
 revert i0 a1 b2 hh4 hh5 hh6 hh7 h8 h9 h10 d12 j13 i14 t15 h17 h18 h19 h20 h21 h22 h23 h26 h29 h31;rotate_left
 revert i0 a1 b2 hh4 hh5 hh6 hh7 h8 h9 h10 d12 j13 i14 t15 h17 h18 h19 h20 h21 h22 h23 h26 h29 h31;rotate_left
 revert i0 a1 b2 hh4 hh5 hh6 hh7 h8 h9 h10 d12 j13 i14 t15 h17 h18 h19 h20 h21 h22 h23 h26 h29 h31;rotate_left
 revert i0 a1 b2 hh4 hh5 hh6 hh7 h8 h9 h10 d12 j13 i14 t15 h17 h18 h19 h20 h21 h22 h23 h26 h29 h31;rotate_left
 revert i0 a1 b2 hh4 hh5 hh6 hh7 h8 h9 h10 d12 j13 i14 t15 h17 h18 h19 h20 h21 h22 h23 h26;rotate_left
 case g0=>exact⟨by omega,by omega,by simp,by simp,by simp [A4u,B9o,L9],by simp [Z8,Ad0,L9]⟩
 case g1=>intro i a b h0 h1 h2 h3 h4 h5 h6 h7;have:=B6y h h0 h6 h7 h4 h5;exact⟨by omega,by omega,by simp only [List.length_append,List.length_cons,List.length_nil];omega,by simp only [List.length_append,List.length_cons,List.length_nil];omega,this.1,this.2⟩
 case g2=>intro i a b h0 h1 h2 h3 h4 h5 h6 h7;have:=B3g h h0 h6 h7 h4 h5;exact⟨by omega,by omega,by omega,by omega,this.1,this.2⟩
 case g3=>intro i a b h0 h1 h2 h3 h4 h5 h6;obtain⟨e1,e2⟩:=Ad2 h h6 h4 h5;rw[e1,e2];exact⟨by omega,by omega,by omega,by omega,by omega,by simp,B00 _⟩
 case g4=>intro i a b h0 h1 h2 h3 h4 h5 h6 d j k t k0 k1 k2 k3 k4 k5 k6 k7 k8;have:=A8k k0 k1 k2 k3 k6;have:=k6.2.1;exact F7 (by omega)
 case g8 =>
  intro i a b h0 h1 h2 h3 h4 h5 h6 d j k t k0 k1 k2 k3 k4 k5 k6 k7 k8 k9
  have:=B3e k0 k8.1 k2 k3 k8.2 k6
  rw[if_pos (by omega)]at this
  exact⟨by omega,by omega,by omega,by omega,by omega,by simp only [List.length_append,List.length_cons,List.length_nil];omega,this⟩
 case g12 =>
  intro i a b h0 h1 h2 h3 h4 h5 h6 d j k t k0 k1 k2 k3 k4 k5 k6 k7 k8 k9
  have:=B3e k0 k8.1 k2 k3 k8.2 k6
  rw[if_neg (by omega)]at this
  exact⟨by omega,by omega,by omega,by omega,by omega,by omega,this⟩
 case g15=>intro i a b h0 h1 h2 h3 h4 h5 h6 d j k t k0 k1 k2 k3 k4 k5 k6 k7 k8 k9;have:=A8l k0 k1 k2 k3 k7 k8 k6;exact F7 (by omega)
 case g19 =>
  intro i a b h0 h1 h2 h3 h4 h5 h6 d j k t k0 k1 k2 k3 k4 k5 k6 k7 k8 k9
  obtain⟨q1,q2,this⟩:=A8l k0 k1 k2 k3 k7 k8 k6
  rw[if_pos (by omega)]at this
  exact⟨by omega,by omega,by omega,by omega,by omega,by simp only [List.length_append,List.length_cons,List.length_nil];omega,this⟩
 case g21 =>
  intro i a b h0 h1 h2 h3 h4 h5 h6 d j k t k0 k1 k2 k3 k4 k5 k6 k7 k8 k9
  obtain⟨q1,q2,this⟩:=A8l k0 k1 k2 k3 k7 k8 k6
  rw[if_neg (by omega)]at this
  exact⟨by omega,by omega,by omega,by omega,by omega,by omega,this⟩
 case g22 =>
  intro i a b h0 h1 h2 h3 h4 h5 h6 d j k t k0 k1 k2 k3 k4 k5 k6 k7
  obtain⟨e1,e2⟩:=Ad2 h h6 h4 h5
  rw[e1,e2]at k6 k7
  rw[B6x k7 k6,B3d]
 all_goals
  intros
  simp only [List.length_mergeSort,List.length_map,List.length_cons,List.length_nil,Go.maxLen]at *
  omega
end Go.Proofs.YtaiepnaokhpmcaaGreat
namespace Go.Proofs.YtaiepnaokhpmcaaGreat
open Go.E
set_option maxRecDepth 100000
set_option maxHeartbeats 4000000
def c122(s:Nat→List Int):List AV:=I0 c3 16 s
def tnS(U:Nat→List Run)(r:Nat):List Int:=L6 (U r)
def zT(A B:Nat→List Int)(r:Nat):List Run:=A5t (A r) (B r)
def A8m(A B:Nat→List Int):Prop:=∀ r:Nat,r < 16→(A r).length=(B r).length
def Bg0(ps:List Past)(i:Int)(A B:Nat→List Int):Prop:=0≤i∧i≤ps.length∧A8m A B∧A6p ps i (zT A B)
def decMa(ps:List Past)(i:Int)(A B:Nat→List Int):Nat:=(ps.length-i).toNat
def Bg1(ps:List Past)(i j:Int)(A B:Nat→List Int):Prop:=0≤j∧j≤(ps[i.toNat]!).vec.length∧j≤16∧A8m A B∧X3 ps i j (zT A B)
def decMb(ps:List Past)(i j:Int)(A B:Nat→List Int):Nat:=((ps[i.toNat]!).vec.length-j).toNat
def B6z(ps:List Past)(i j:Int)(A B:Nat→List Int):Prop:=0≤j∧j≤(ps[i.toNat]!).cloud.length∧A8m A B∧Q5 ps i j (zT A B)
def decMc(ps:List Past)(i j:Int)(A B:Nat→List Int):Nat:=((ps[i.toNat]!).cloud.length-j).toNat
def As8(U:Nat→List Run)(r:Int)(S:Nat→List Int):Prop:=∀ k:Nat,(k:Int) < r→S k=tnS (F3 U) k
def Bg2(A2 B2:Nat→List Int)(r:Int)(A B S:Nat→List Int):Prop:=A=A2∧B=B2∧0≤r∧r≤16∧As8 (zT A2 B2) r S
def decMd(r:Int)(A B S:Nat→List Int):Nat:=(16-r).toNat
theorem B9p{A B:Nat→List Int}{k:Nat}{x y:Int}(h:(A k).length=(B k).length)(r:Nat):zT (N0 A k (A k++[x])) (N0 B k (B k++[y])) r=N0 (zT A B) k (zT A B k++[⟨x,y⟩]) r:=by
 unfold zT N0
 by_cases e:r=k
 ·rw[if_pos e,if_pos e,if_pos e]
  unfold A5t
  rw[List.zipWith_append h]
  rfl
 ·rw[if_neg e,if_neg e,if_neg e]
theorem Ad3{A B:Nat→List Int}{k:Nat}{x y:Int}(h:A8m A B):A8m (N0 A k (A k++[x])) (N0 B k (B k++[y])):=by
 intro r hr
 have:=h r hr
 unfold N0
 by_cases e:r=k
 ·rw[if_pos e,if_pos e,List.length_append,List.length_append];subst e;simp only [List.length_cons,List.length_nil];omega
 ·rw[if_neg e,if_neg e];exact this
theorem B3h{A B:Nat→List Int}(h:A8m A B){r:Nat}(hr:r < 16):(A r).length=(zT A B r).length∧(B r).length=(zT A B r).length:=by
 have:=h r hr
 unfold zT A5t
 rw[List.length_zipWith]
 omega
theorem Al5{U:Nat→List Run}{r:Int}{S:Nat→List Int}(h0:0≤r)(h:As8 U r S):As8 U (r+1) (N0 S r.toNat (tnS (F3 U) r.toNat)):=by
 intro k hk
 unfold N0
 by_cases e:k=r.toNat
 ·rw[if_pos e,e]
 ·rw[if_neg e];exact h k (by omega)
theorem con129 (ps : List Past) (hb : A15 ps * 16 ≤ 140737488351232) : Con Tryz.prog 129 [.sl (ps.map c26)] (.agg (c122 (tnS (F3 (B5 ps))))) :=
  by
  refine lN 0 c26 (ps) Tryz.func129 fun hl_0=>sC B1 [.cell 2 122] 116 Tryz.func129 ?_
  intro e0 cx
  refine sq<|rG cx [0,2] [2] z0<|sn<|sq<|rG cx [0,2,3,4] [2,3,4] z0<|sn<|sq<|sq<|rG cx [0,2,3,4,5] [2,3,4] z0<|sn<|bL 0<|A1n 3 3 1 100300 16 (σ':=⟨[(0,.sl (List.map c26 ps)),(2,.ptr (2) (0) (0) (0)),(3,.ptr (3) (0) (0) (0)),(4,.ptr (4) (0) (0) (0)),(5,.i .i64 ((0:Int)))],[(2,⟨0,122,.var [.nl,.nl,.nl,.nl,.nl,.nl,.nl,.nl,.nl,.nl,.nl,.nl,.nl,.nl,.nl,.nl]⟩),(3,⟨0,120,.var (G6 100300 16)⟩),(4,⟨0,120,.arr [.nl,.nl,.nl,.nl,.nl,.nl,.nl,.nl,.nl,.nl,.nl,.nl,.nl,.nl,.nl,.nl]⟩)]++C7 100300 3 1 16 (c3) (fun x ↦ [])⟩) (by kernel_rfl)<|A1n 4 3 1 100400 16 (σ':=⟨[(0,.sl (List.map c26 ps)),(2,.ptr (2) (0) (0) (0)),(3,.ptr (3) (0) (0) (0)),(4,.ptr (4) (0) (0) (0)),(5,.i .i64 ((0:Int)))],[(2,⟨0,122,.var [.nl,.nl,.nl,.nl,.nl,.nl,.nl,.nl,.nl,.nl,.nl,.nl,.nl,.nl,.nl,.nl]⟩),(3,⟨0,120,.var (G6 100300 16)⟩),(4,⟨0,120,.var (G6 100400 16)⟩)]++C7 100300 3 1 16 (c3) (fun x ↦ [])++C7 100400 3 1 16 (c3) (fun x ↦ [])⟩) (by kernel_rfl)<|sL (X:=Int×(Nat→List Int)×(Nat→List Int)) (fun x=>⟨[(0,.sl (List.map c26 ps)),(2,.ptr (2) (0) (0) (0)),(3,.ptr (3) (0) (0) (0)),(4,.ptr (4) (0) (0) (0)),(5,.i .i64 (x.1))],[(2,⟨0,122,.var [.nl,.nl,.nl,.nl,.nl,.nl,.nl,.nl,.nl,.nl,.nl,.nl,.nl,.nl,.nl,.nl]⟩),(3,⟨0,120,.var (G6 100300 16)⟩),(4,⟨0,120,.var (G6 100400 16)⟩)]++C7 100300 3 1 16 (c3) (x.2.1)++C7 100400 3 1 16 (c3) (x.2.2)⟩) (fun x ↦ decMa ps x.1 x.2.1 x.2.2) (fun x ↦ Bg0 ps x.1 x.2.1 x.2.2) [0,2,3,4,5] ([2,3,4]++List.range' 100300 16++List.range' 100400 16) (((0:Int),fun x ↦ [],fun x ↦ [])) (show Bg0 ps (0:Int) (fun x ↦ []) fun x ↦ []from ?g0) ?_;rotate_left
  rintro⟨i0,A1,B2⟩ h_3
  obtain⟨hh4,hh5,h6,h7⟩:0≤i0∧i0≤(↑ps.length:Int)∧A8m A1 B2∧A6p ps i0 (zT A1 B2):=h_3
  refine sq<|rD cx [0,2,3,4,5,14] ([2,3,4]++List.range' 100300 16++List.range' 100400 16) (tL 2 c26 ps (zB 3 (i0 <(↑ps.length:Int)))) (fun h8=>?_) fun h8=>?_
  refine sK<|sn<|sq<|bL 1<|sq<|sq<|rG cx [0,2,3,4,5,6] ([2,3,4]++List.range' 100300 16++List.range' 100400 16) z0<|sn<|bL 2<|sL (X:=Int×(Nat→List Int)×(Nat→List Int)) (fun x=>⟨[(0,.sl (List.map c26 ps)),(2,.ptr (2) (0) (0) (0)),(3,.ptr (3) (0) (0) (0)),(4,.ptr (4) (0) (0) (0)),(5,.i .i64 (i0)),(6,.i .i64 (x.1))],[(2,⟨0,122,.var [.nl,.nl,.nl,.nl,.nl,.nl,.nl,.nl,.nl,.nl,.nl,.nl,.nl,.nl,.nl,.nl]⟩),(3,⟨0,120,.var (G6 100300 16)⟩),(4,⟨0,120,.var (G6 100400 16)⟩)]++C7 100300 3 1 16 (c3) (x.2.1)++C7 100400 3 1 16 (c3) (x.2.2)⟩) (fun x ↦ decMb ps i0 x.1 x.2.1 x.2.2) (fun x ↦ Bg1 ps i0 x.1 x.2.1 x.2.2) [0,2,3,4,5,6] ([2,3,4]++List.range' 100300 16++List.range' 100400 16) (((0:Int),A1,B2)) (show Bg1 ps i0 (0:Int) A1 B2 from ?g1) ?_;rotate_left
  rintro⟨j9,A10,B11⟩ h_12
  obtain⟨h13,h14,h15,h16,h17⟩:0≤j9∧j9≤(↑ps[i0.toNat]!.vec.length:Int)∧j9≤16∧A8m A10 B11∧X3 ps i0 j9 (zT A10 B11):=h_12
  refine sq<|sq<|B4 (σ':=⟨[(0,.sl (List.map c26 ps)),(2,.ptr (2) (0) (0) (0)),(3,.ptr (3) (0) (0) (0)),(4,.ptr (4) (0) (0) (0)),(5,.i .i64 (i0)),(6,.i .i64 (j9)),(28,.b (decide (j9 <(↑ps[i0.toNat]!.vec.length:Int)∧j9 <(16:Int))))],[(2,⟨0,122,.var [.nl,.nl,.nl,.nl,.nl,.nl,.nl,.nl,.nl,.nl,.nl,.nl,.nl,.nl,.nl,.nl]⟩),(3,⟨0,120,.var (G6 100300 16)⟩),(4,⟨0,120,.var (G6 100400 16)⟩)]++C7 100300 3 1 16 (c3) (A10)++C7 100400 3 1 16 (c3) (B11)⟩) ?_ ?_
  refine A4 (j9 <(↑ps[i0.toNat]!.vec.length:Int)) (fun h_19=>?_) (fun h_19=>?_)
  refine rG cx [0,2,3,4,5,6,28] ([2,3,4]++List.range' 100300 16++List.range' 100400 16) (fA (0≤i0) (fG c26 ps i0.toNat (fR 2 (tL 6 c3 ps[i0.toNat]!.vec (tT 7 (A6 h_19) (tB 10 (j9 <(16:Int)) (tD 11 (decide (j9 <(16:Int))) (j9 <(↑ps[i0.toNat]!.vec.length:Int)∧j9 <(16:Int)) (by simp only [eq_true h_19,tsl]) (oR 3 (c26 ps[i0.toNat]!) z0)))))))) ?_
  exact⟨rfl,by kernel_rfl⟩
  refine rG cx [0,2,3,4,5,6,28] ([2,3,4]++List.range' 100300 16++List.range' 100400 16) (fA (0≤i0) (fG c26 ps i0.toNat (fR 2 (tL 6 c3 ps[i0.toNat]!.vec (tT 7 (A3 h_19) (tD 11 false (j9 <(↑ps[i0.toNat]!.vec.length:Int)∧j9 <(16:Int)) (by simp only [eq_false h_19,tsl]) (oR 3 (c26 ps[i0.toNat]!) z0))))))) ?_
  exact⟨rfl,by kernel_rfl⟩
  refine sn<|dC (j9 <(↑ps[i0.toNat]!.vec.length:Int)∧j9 <(16:Int)) (fun h20=>?_) fun h20=>?_
  refine sK<|sn<|sq<|bL 3<|sq<|B69 (F:=fun kx=>⟨[(0,.sl (List.map c26 ps)),(2,.ptr (2) (0) (0) (0)),(3,.ptr (3) (0) (0) (0)),(4,.ptr (4) (0) (0) (0)),(5,.i .i64 (i0)),(6,.i .i64 (kx)),(28,.b (decide (kx <(↑ps[i0.toNat]!.vec.length:Int)∧kx <(16:Int))))],[(2,⟨0,122,.var [.nl,.nl,.nl,.nl,.nl,.nl,.nl,.nl,.nl,.nl,.nl,.nl,.nl,.nl,.nl,.nl]⟩),(3,⟨0,120,.var (G6 100300 16)⟩),(4,⟨0,120,.var (G6 100400 16)⟩)]++C7 100300 3 1 16 (c3) (A10)++C7 100400 3 1 16 (c3) (B11)⟩) (G:=fun kx=>⟨[(0,.sl (List.map c26 ps)),(2,.ptr (2) (0) (0) (0)),(3,.ptr (3) (0) (0) (0)),(4,.ptr (4) (0) (0) (0)),(5,.i .i64 (i0)),(6,.i .i64 (kx))],[(2,⟨0,122,.var [.nl,.nl,.nl,.nl,.nl,.nl,.nl,.nl,.nl,.nl,.nl,.nl,.nl,.nl,.nl,.nl]⟩),(3,⟨0,120,.var (G6 100300 16)⟩),(4,⟨0,120,.var (G6 100400 16)⟩)]++C7 100300 3 1 16 (c3) (N0 A10 kx.toNat (A10 kx.toNat++[(1:Int)]))++C7 100400 3 1 16 (c3) (B11)⟩) (A:=fun kx=>(0≤kx)∧(kx <(↑(16:Nat):Int))∧(3=(3:Nat))∧((1:Nat)=1)∧([AV.i .i64 (0:Int)].length=(1:Nat))∧(∀(r:List AV),r∈List.map c3 [(1:Int)]→r.length=1)∧((List.map c3 (A10 kx.toNat)).length+(List.map c3 [(1:Int)]).length≤maxLen)∧(((List.map c3 (A10 kx.toNat)).length+(List.map c3 [(1:Int)]).length)*(8:Nat)≤(140737488355328:Nat))∧(List.map c3 (A10 kx.toNat)++List.map c3 [(1:Int)]=List.map c3 (A10 kx.toNat++[(1:Int)]))∧(0≤kx)∧(kx <(↑(16:Nat):Int))) cx (fun kx=>[(5,{ rows:=some (List.map c3 (A10 kx.toNat++[(1:Int)])) })]) [0,2,3,4,5,6] ([2,3,4]++List.range' 100300 16++List.range' 100400 16) (j9) (by(with_reducible assumption)) (by omega) (by kernel_rfl) (by kernel_rfl) ⟨(by show _=_;kernel_rfl),(by show _=_;kernel_rfl),(by show _=_;kernel_rfl),(by show _=_;kernel_rfl),(by show _=_;kernel_rfl),(by show _=_;kernel_rfl),(by show _=_;kernel_rfl),(by show _=_;kernel_rfl),(by show _=_;kernel_rfl),(by show _=_;kernel_rfl),(by show _=_;kernel_rfl),(by show _=_;kernel_rfl),(by show _=_;kernel_rfl),(by show _=_;kernel_rfl),(by show _=_;kernel_rfl),(by show _=_;kernel_rfl)⟩ ⟨(by(with_reducible assumption)),(by omega),(by kernel_rfl),(by kernel_rfl),(by kernel_rfl),(by(with_reducible refine O4 (fun _=>?_) _;kernel_rfl)),?g2,?g3,(by(with_reducible refine Z3 ?_;kernel_rfl)),(by(with_reducible assumption)),(by omega)⟩ ?_;rotate_left 2
  refine sn<|A09 (F:=fun kx=>⟨[(0,.sl (List.map c26 ps)),(2,.ptr (2) (0) (0) (0)),(3,.ptr (3) (0) (0) (0)),(4,.ptr (4) (0) (0) (0)),(5,.i .i64 (i0)),(6,.i .i64 (kx))],[(2,⟨0,122,.var [.nl,.nl,.nl,.nl,.nl,.nl,.nl,.nl,.nl,.nl,.nl,.nl,.nl,.nl,.nl,.nl]⟩),(3,⟨0,120,.var (G6 100300 16)⟩),(4,⟨0,120,.var (G6 100400 16)⟩)]++C7 100300 3 1 16 (c3) (N0 A10 kx.toNat (A10 kx.toNat++[(1:Int)]))++C7 100400 3 1 16 (c3) (B11)⟩) (G:=fun kx=>⟨[(0,.sl (List.map c26 ps)),(2,.ptr (2) (0) (0) (0)),(3,.ptr (3) (0) (0) (0)),(4,.ptr (4) (0) (0) (0)),(5,.i .i64 (i0)),(6,.i .i64 (kx))],[(2,⟨0,122,.var [.nl,.nl,.nl,.nl,.nl,.nl,.nl,.nl,.nl,.nl,.nl,.nl,.nl,.nl,.nl,.nl]⟩),(3,⟨0,120,.var (G6 100300 16)⟩),(4,⟨0,120,.var (G6 100400 16)⟩)]++C7 100300 3 1 16 (c3) (N0 A10 kx.toNat (A10 kx.toNat++[(1:Int)]))++C7 100400 3 1 16 (c3) (N0 B11 kx.toNat (B11 kx.toNat++[ps[i0.toNat]!.vec[kx.toNat]!]))⟩) (A:=fun kx=>(0≤kx)∧(kx <(↑(16:Nat):Int))∧(0≤i0)∧((List.map c26 ps)[i0.toNat]?=some (c26 ps[i0.toNat]!))∧((c26 ps[i0.toNat]!).length=(2:Nat))∧(0≤kx)∧((List.map c3 ps[i0.toNat]!.vec)[kx.toNat]?=some (c3 ps[i0.toNat]!.vec[kx.toNat]!))∧((c3 ps[i0.toNat]!.vec[kx.toNat]!).length=(1:Nat))∧(3=(3:Nat))∧((1:Nat)=1)∧([AV.i .i64 (0:Int)].length=(1:Nat))∧(∀(r:List AV),r∈List.map c3 [ps[i0.toNat]!.vec[kx.toNat]!]→r.length=1)∧((List.map c3 (B11 kx.toNat)).length+(List.map c3 [ps[i0.toNat]!.vec[kx.toNat]!]).length≤maxLen)∧(((List.map c3 (B11 kx.toNat)).length+(List.map c3 [ps[i0.toNat]!.vec[kx.toNat]!]).length)*(8:Nat)≤(140737488355328:Nat))∧(List.map c3 (B11 kx.toNat)++List.map c3 [ps[i0.toNat]!.vec[kx.toNat]!]=List.map c3 (B11 kx.toNat++[ps[i0.toNat]!.vec[kx.toNat]!]))∧(0≤kx)∧(kx <(↑(16:Nat):Int))) cx (fun kx=>[(6,{ row:=(c26 ps[i0.toNat]!) }),(10,{ row:=(c3 ps[i0.toNat]!.vec[kx.toNat]!) }),(13,{ rows:=some (List.map c3 (B11 kx.toNat++[ps[i0.toNat]!.vec[kx.toNat]!])) })]) [0,2,3,4,5,6] ([2,3,4]++List.range' 100300 16++List.range' 100400 16) (j9) (by(with_reducible assumption)) (by omega) (by kernel_rfl) (by kernel_rfl) ⟨(by show _=_;kernel_rfl),(by show _=_;kernel_rfl),(by show _=_;kernel_rfl),(by show _=_;kernel_rfl),(by show _=_;kernel_rfl),(by show _=_;kernel_rfl),(by show _=_;kernel_rfl),(by show _=_;kernel_rfl),(by show _=_;kernel_rfl),(by show _=_;kernel_rfl),(by show _=_;kernel_rfl),(by show _=_;kernel_rfl),(by show _=_;kernel_rfl),(by show _=_;kernel_rfl),(by show _=_;kernel_rfl),(by show _=_;kernel_rfl)⟩ ⟨(by(with_reducible assumption)),(by omega),(by(with_reducible assumption)),(by(with_reducible refine F7 ?_;omega)),(by kernel_rfl),(by(with_reducible assumption)),(by(with_reducible refine F7 ?_;omega)),(by kernel_rfl),(by kernel_rfl),(by kernel_rfl),(by kernel_rfl),(by(with_reducible refine O4 (fun _=>?_) _;kernel_rfl)),?g4,?g5,(by(with_reducible refine Z3 ?_;kernel_rfl)),(by(with_reducible assumption)),(by omega)⟩ ?_;rotate_left 2
  refine bN<|sn<|rG cx [0,2,3,4,5,6] ([2,3,4]++List.range' 100300 16++List.range' 100400 16) (tW 1 (j9+1) z0)<|sn<|nX ((j9+1,N0 A10 j9.toNat (A10 j9.toNat++[(1:Int)]),N0 B11 j9.toNat (B11 j9.toNat++[ps[i0.toNat]!.vec[j9.toNat]!]))) (show((↑ps[i0.toNat]!.vec.length:Int)-(j9+1)).toNat <((↑ps[i0.toNat]!.vec.length:Int)-j9).toNat from(by omega)) (show Bg1 ps i0 (j9+1) (N0 A10 j9.toNat (A10 j9.toNat++[(1:Int)])) (N0 B11 j9.toNat (B11 j9.toNat++[ps[i0.toNat]!.vec[j9.toNat]!]))from ?g6);rotate_left
  refine eX 2<|nE<|nE<|bH<|sn<|sq<|rG cx [0,2,3,4,5,7] ([2,3,4]++List.range' 100300 16++List.range' 100400 16) z0<|sn<|bL 4<|sL (X:=Int×(Nat→List Int)×(Nat→List Int)) (fun x=>⟨[(0,.sl (List.map c26 ps)),(2,.ptr (2) (0) (0) (0)),(3,.ptr (3) (0) (0) (0)),(4,.ptr (4) (0) (0) (0)),(5,.i .i64 (i0)),(7,.i .i64 (x.1))],[(2,⟨0,122,.var [.nl,.nl,.nl,.nl,.nl,.nl,.nl,.nl,.nl,.nl,.nl,.nl,.nl,.nl,.nl,.nl]⟩),(3,⟨0,120,.var (G6 100300 16)⟩),(4,⟨0,120,.var (G6 100400 16)⟩)]++C7 100300 3 1 16 (c3) (x.2.1)++C7 100400 3 1 16 (c3) (x.2.2)⟩) (fun x ↦ decMc ps i0 x.1 x.2.1 x.2.2) (fun x ↦ B6z ps i0 x.1 x.2.1 x.2.2) [0,2,3,4,5,7] ([2,3,4]++List.range' 100300 16++List.range' 100400 16) (((0:Int),A10,B11)) (show B6z ps i0 (0:Int) A10 B11 from ?g7) ?_;rotate_left
  rintro⟨j21,A22,B23⟩ h_24
  obtain⟨h25,h26,h27,h28⟩:0≤j21∧j21≤(↑ps[i0.toNat]!.cloud.length:Int)∧A8m A22 B23∧Q5 ps i0 j21 (zT A22 B23):=h_24
  refine sq<|rD cx [0,2,3,4,5,7,60] ([2,3,4]++List.range' 100300 16++List.range' 100400 16) (fA (0≤i0) (fG c26 ps i0.toNat (fR 2 (tL 6 B7 ps[i0.toNat]!.cloud (oR 3 (c26 ps[i0.toNat]!) (zB 7 (j21 <(↑ps[i0.toNat]!.cloud.length:Int)))))))) (fun h29=>?_) fun h29=>?_
  refine sK<|sn<|sq<|bL 5<|sq<|rG cx [0,2,3,4,5,7,8] ([2,3,4]++List.range' 100300 16++List.range' 100400 16++[8]) (fA (0≤i0) (fG c26 ps i0.toNat (fR 2 (fA (0≤j21) (fG B7 ps[i0.toNat]!.cloud j21.toNat (fR 3 (fN 3 3 (oR 2 (c26 ps[i0.toNat]!) (oR 6 (B7 ps[i0.toNat]!.cloud[j21.toNat]!) z0)))))))))<|sn<|sq<|B4 (σ':=⟨[(0,.sl (List.map c26 ps)),(2,.ptr (2) (0) (0) (0)),(3,.ptr (3) (0) (0) (0)),(4,.ptr (4) (0) (0) (0)),(5,.i .i64 (i0)),(7,.i .i64 (j21)),(8,.ptr (8) (0) (0) (0)),(78,.b (decide (0≤ps[i0.toNat]!.cloud[j21.toNat]!.rep∧ps[i0.toNat]!.cloud[j21.toNat]!.rep <(16:Int))))],[(2,⟨0,122,.var [.nl,.nl,.nl,.nl,.nl,.nl,.nl,.nl,.nl,.nl,.nl,.nl,.nl,.nl,.nl,.nl]⟩),(3,⟨0,120,.var (G6 100300 16)⟩),(4,⟨0,120,.var (G6 100400 16)⟩)]++C7 100300 3 1 16 (c3) (A22)++C7 100400 3 1 16 (c3) (B23)++[(8,⟨0,104,.var [.i .i64 (ps[i0.toNat]!.cloud[j21.toNat]!.rep),.i .i64 (ps[i0.toNat]!.cloud[j21.toNat]!.lo),.i .i64 (ps[i0.toNat]!.cloud[j21.toNat]!.hi)]⟩)]⟩) ?_ ?_
  refine A4 (0≤ps[i0.toNat]!.cloud[j21.toNat]!.rep) (fun h_31=>?_) (fun h_31=>?_)
  refine rG cx [0,2,3,4,5,7,8,78] ([2,3,4]++List.range' 100300 16++List.range' 100400 16++[8]) (tT 2 (A6 h_31) (tB 6 (ps[i0.toNat]!.cloud[j21.toNat]!.rep <(16:Int)) (tD 7 (decide (ps[i0.toNat]!.cloud[j21.toNat]!.rep <(16:Int))) (0≤ps[i0.toNat]!.cloud[j21.toNat]!.rep∧ps[i0.toNat]!.cloud[j21.toNat]!.rep <(16:Int)) (by simp only [eq_true h_31,tsl]) z0))) ?_
  exact⟨rfl,by kernel_rfl⟩
  refine rG cx [0,2,3,4,5,7,8,78] ([2,3,4]++List.range' 100300 16++List.range' 100400 16++[8]) (tT 2 (A3 h_31) (tD 7 false (0≤ps[i0.toNat]!.cloud[j21.toNat]!.rep∧ps[i0.toNat]!.cloud[j21.toNat]!.rep <(16:Int)) (by simp only [eq_false h_31,tsl]) z0)) ?_
  exact⟨rfl,by kernel_rfl⟩
  refine sn<|dC (0≤ps[i0.toNat]!.cloud[j21.toNat]!.rep∧ps[i0.toNat]!.cloud[j21.toNat]!.rep <(16:Int)) (fun h32=>?_) fun h32=>?_
  refine sq<|A09 (F:=fun kx=>⟨[(0,.sl (List.map c26 ps)),(2,.ptr (2) (0) (0) (0)),(3,.ptr (3) (0) (0) (0)),(4,.ptr (4) (0) (0) (0)),(5,.i .i64 (i0)),(7,.i .i64 (j21)),(8,.ptr (8) (0) (0) (0)),(78,.b (decide (0≤kx∧kx <(16:Int))))],[(2,⟨0,122,.var [.nl,.nl,.nl,.nl,.nl,.nl,.nl,.nl,.nl,.nl,.nl,.nl,.nl,.nl,.nl,.nl]⟩),(3,⟨0,120,.var (G6 100300 16)⟩),(4,⟨0,120,.var (G6 100400 16)⟩)]++C7 100300 3 1 16 (c3) (A22)++C7 100400 3 1 16 (c3) (B23)++[(8,⟨0,104,.var [.i .i64 (kx),.i .i64 (ps[i0.toNat]!.cloud[j21.toNat]!.lo),.i .i64 (ps[i0.toNat]!.cloud[j21.toNat]!.hi)]⟩)]⟩) (G:=fun kx=>⟨[(0,.sl (List.map c26 ps)),(2,.ptr (2) (0) (0) (0)),(3,.ptr (3) (0) (0) (0)),(4,.ptr (4) (0) (0) (0)),(5,.i .i64 (i0)),(7,.i .i64 (j21)),(8,.ptr (8) (0) (0) (0))],[(2,⟨0,122,.var [.nl,.nl,.nl,.nl,.nl,.nl,.nl,.nl,.nl,.nl,.nl,.nl,.nl,.nl,.nl,.nl]⟩),(3,⟨0,120,.var (G6 100300 16)⟩),(4,⟨0,120,.var (G6 100400 16)⟩)]++C7 100300 3 1 16 (c3) (N0 A22 kx.toNat (A22 kx.toNat++[ps[i0.toNat]!.cloud[j21.toNat]!.lo]))++C7 100400 3 1 16 (c3) (B23)++[(8,⟨0,104,.var [.i .i64 (kx),.i .i64 (ps[i0.toNat]!.cloud[j21.toNat]!.lo),.i .i64 (ps[i0.toNat]!.cloud[j21.toNat]!.hi)]⟩)]⟩) (A:=fun kx=>(0≤kx)∧(kx <(↑(16:Nat):Int))∧(3=(3:Nat))∧((1:Nat)=1)∧([AV.i .i64 (0:Int)].length=(1:Nat))∧(∀(r:List AV),r∈List.map c3 [ps[i0.toNat]!.cloud[j21.toNat]!.lo]→r.length=1)∧((List.map c3 (A22 kx.toNat)).length+(List.map c3 [ps[i0.toNat]!.cloud[j21.toNat]!.lo]).length≤maxLen)∧(((List.map c3 (A22 kx.toNat)).length+(List.map c3 [ps[i0.toNat]!.cloud[j21.toNat]!.lo]).length)*(8:Nat)≤(140737488355328:Nat))∧(List.map c3 (A22 kx.toNat)++List.map c3 [ps[i0.toNat]!.cloud[j21.toNat]!.lo]=List.map c3 (A22 kx.toNat++[ps[i0.toNat]!.cloud[j21.toNat]!.lo]))∧(0≤kx)∧(kx <(↑(16:Nat):Int))) cx (fun kx=>[(9,{ rows:=some (List.map c3 (A22 kx.toNat++[ps[i0.toNat]!.cloud[j21.toNat]!.lo])) })]) [0,2,3,4,5,7,8] ([2,3,4]++List.range' 100300 16++List.range' 100400 16++[8]) (ps[i0.toNat]!.cloud[j21.toNat]!.rep) (by omega) (by omega) (by kernel_rfl) (by kernel_rfl) ⟨(by show _=_;kernel_rfl),(by show _=_;kernel_rfl),(by show _=_;kernel_rfl),(by show _=_;kernel_rfl),(by show _=_;kernel_rfl),(by show _=_;kernel_rfl),(by show _=_;kernel_rfl),(by show _=_;kernel_rfl),(by show _=_;kernel_rfl),(by show _=_;kernel_rfl),(by show _=_;kernel_rfl),(by show _=_;kernel_rfl),(by show _=_;kernel_rfl),(by show _=_;kernel_rfl),(by show _=_;kernel_rfl),(by show _=_;kernel_rfl)⟩ ⟨(by omega),(by omega),(by kernel_rfl),(by kernel_rfl),(by kernel_rfl),(by(with_reducible refine O4 (fun _=>?_) _;kernel_rfl)),?g8,?g9,(by(with_reducible refine Z3 ?_;kernel_rfl)),(by omega),(by omega)⟩ ?_;rotate_left 2
  refine sn<|A09 (F:=fun kx=>⟨[(0,.sl (List.map c26 ps)),(2,.ptr (2) (0) (0) (0)),(3,.ptr (3) (0) (0) (0)),(4,.ptr (4) (0) (0) (0)),(5,.i .i64 (i0)),(7,.i .i64 (j21)),(8,.ptr (8) (0) (0) (0))],[(2,⟨0,122,.var [.nl,.nl,.nl,.nl,.nl,.nl,.nl,.nl,.nl,.nl,.nl,.nl,.nl,.nl,.nl,.nl]⟩),(3,⟨0,120,.var (G6 100300 16)⟩),(4,⟨0,120,.var (G6 100400 16)⟩)]++C7 100300 3 1 16 (c3) (N0 A22 kx.toNat (A22 kx.toNat++[ps[i0.toNat]!.cloud[j21.toNat]!.lo]))++C7 100400 3 1 16 (c3) (B23)++[(8,⟨0,104,.var [.i .i64 (kx),.i .i64 (ps[i0.toNat]!.cloud[j21.toNat]!.lo),.i .i64 (ps[i0.toNat]!.cloud[j21.toNat]!.hi)]⟩)]⟩) (G:=fun kx=>⟨[(0,.sl (List.map c26 ps)),(2,.ptr (2) (0) (0) (0)),(3,.ptr (3) (0) (0) (0)),(4,.ptr (4) (0) (0) (0)),(5,.i .i64 (i0)),(7,.i .i64 (j21))],[(2,⟨0,122,.var [.nl,.nl,.nl,.nl,.nl,.nl,.nl,.nl,.nl,.nl,.nl,.nl,.nl,.nl,.nl,.nl]⟩),(3,⟨0,120,.var (G6 100300 16)⟩),(4,⟨0,120,.var (G6 100400 16)⟩)]++C7 100300 3 1 16 (c3) (N0 A22 kx.toNat (A22 kx.toNat++[ps[i0.toNat]!.cloud[j21.toNat]!.lo]))++C7 100400 3 1 16 (c3) (N0 B23 kx.toNat (B23 kx.toNat++[ps[i0.toNat]!.cloud[j21.toNat]!.hi]))⟩) (A:=fun kx=>(0≤kx)∧(kx <(↑(16:Nat):Int))∧(3=(3:Nat))∧((1:Nat)=1)∧([AV.i .i64 (0:Int)].length=(1:Nat))∧(∀(r:List AV),r∈List.map c3 [ps[i0.toNat]!.cloud[j21.toNat]!.hi]→r.length=1)∧((List.map c3 (B23 kx.toNat)).length+(List.map c3 [ps[i0.toNat]!.cloud[j21.toNat]!.hi]).length≤maxLen)∧(((List.map c3 (B23 kx.toNat)).length+(List.map c3 [ps[i0.toNat]!.cloud[j21.toNat]!.hi]).length)*(8:Nat)≤(140737488355328:Nat))∧(List.map c3 (B23 kx.toNat)++List.map c3 [ps[i0.toNat]!.cloud[j21.toNat]!.hi]=List.map c3 (B23 kx.toNat++[ps[i0.toNat]!.cloud[j21.toNat]!.hi]))∧(0≤kx)∧(kx <(↑(16:Nat):Int))) cx (fun kx=>[(9,{ rows:=some (List.map c3 (B23 kx.toNat++[ps[i0.toNat]!.cloud[j21.toNat]!.hi])) })]) [0,2,3,4,5,7] ([2,3,4]++List.range' 100300 16++List.range' 100400 16) (ps[i0.toNat]!.cloud[j21.toNat]!.rep) (by omega) (by omega) (by kernel_rfl) (by kernel_rfl) ⟨(by show _=_;kernel_rfl),(by show _=_;kernel_rfl),(by show _=_;kernel_rfl),(by show _=_;kernel_rfl),(by show _=_;kernel_rfl),(by show _=_;kernel_rfl),(by show _=_;kernel_rfl),(by show _=_;kernel_rfl),(by show _=_;kernel_rfl),(by show _=_;kernel_rfl),(by show _=_;kernel_rfl),(by show _=_;kernel_rfl),(by show _=_;kernel_rfl),(by show _=_;kernel_rfl),(by show _=_;kernel_rfl),(by show _=_;kernel_rfl)⟩ ⟨(by omega),(by omega),(by kernel_rfl),(by kernel_rfl),(by kernel_rfl),(by(with_reducible refine O4 (fun _=>?_) _;kernel_rfl)),?g10,?g11,(by(with_reducible refine Z3 ?_;kernel_rfl)),(by omega),(by omega)⟩ ?_;rotate_left 2
  refine bN<|sn<|rG cx [0,2,3,4,5,7] ([2,3,4]++List.range' 100300 16++List.range' 100400 16) (tT 1 (B6 (by omega) ?g12:AV.i .i64 (IntKind.i64.wrap (j21+1))=AV.i .i64 (j21+1)) z0) ?_;rotate_left
  refine sn<|nX ((j21+1,N0 A22 ps[i0.toNat]!.cloud[j21.toNat]!.rep.toNat (A22 ps[i0.toNat]!.cloud[j21.toNat]!.rep.toNat++[ps[i0.toNat]!.cloud[j21.toNat]!.lo]),N0 B23 ps[i0.toNat]!.cloud[j21.toNat]!.rep.toNat (B23 ps[i0.toNat]!.cloud[j21.toNat]!.rep.toNat++[ps[i0.toNat]!.cloud[j21.toNat]!.hi]))) (show((↑ps[i0.toNat]!.cloud.length:Int)-(j21+1)).toNat <((↑ps[i0.toNat]!.cloud.length:Int)-j21).toNat from(by omega)) (show B6z ps i0 (j21+1) (N0 A22 ps[i0.toNat]!.cloud[j21.toNat]!.rep.toNat (A22 ps[i0.toNat]!.cloud[j21.toNat]!.rep.toNat++[ps[i0.toNat]!.cloud[j21.toNat]!.lo])) (N0 B23 ps[i0.toNat]!.cloud[j21.toNat]!.rep.toNat (B23 ps[i0.toNat]!.cloud[j21.toNat]!.rep.toNat++[ps[i0.toNat]!.cloud[j21.toNat]!.hi]))from ?g13);rotate_left
  refine sK<|bN<|sn<|rG cx [0,2,3,4,5,7] ([2,3,4]++List.range' 100300 16++List.range' 100400 16) (tT 1 (B6 (by omega) ?g14:AV.i .i64 (IntKind.i64.wrap (j21+1))=AV.i .i64 (j21+1)) z0) ?_;rotate_left
  refine sn<|nX ((j21+1,A22,B23)) (show((↑ps[i0.toNat]!.cloud.length:Int)-(j21+1)).toNat <((↑ps[i0.toNat]!.cloud.length:Int)-j21).toNat from(by omega)) (show B6z ps i0 (j21+1) A22 B23 from ?g15);rotate_left
  refine eX 4<|nE<|nE<|bH<|bN<|sn<|rG cx [0,2,3,4,5] ([2,3,4]++List.range' 100300 16++List.range' 100400 16) (tW 1 (i0+1) z0)<|sn<|nX ((i0+1,A22,B23)) (show((↑ps.length:Int)-(i0+1)).toNat <((↑ps.length:Int)-i0).toNat from(by omega)) (show Bg0 ps (i0+1) A22 B23 from ?g16);rotate_left
  refine eX 0<|nE<|nE<|bH<|sn<|sq<|P3 (List.range' 100300 16) [0,2,3,4,5,14] ([2,3,4]++List.range' 100400 16) (σ':=⟨[(0,.sl (List.map c26 ps)),(2,.ptr (2) (0) (0) (0)),(3,.ptr (3) (0) (0) (0)),(4,.ptr (4) (0) (0) (0)),(5,.i .i64 (i0)),(14,.b (decide (i0 <(↑ps.length:Int))))],[(2,⟨0,122,.var [.nl,.nl,.nl,.nl,.nl,.nl,.nl,.nl,.nl,.nl,.nl,.nl,.nl,.nl,.nl,.nl]⟩),(3,⟨0,120,.var [.sl (List.map c3 (A1 (0))),.sl (List.map c3 (A1 (1))),.sl (List.map c3 (A1 (2))),.sl (List.map c3 (A1 (3))),.sl (List.map c3 (A1 (4))),.sl (List.map c3 (A1 (5))),.sl (List.map c3 (A1 (6))),.sl (List.map c3 (A1 (7))),.sl (List.map c3 (A1 (8))),.sl (List.map c3 (A1 (9))),.sl (List.map c3 (A1 (10))),.sl (List.map c3 (A1 (11))),.sl (List.map c3 (A1 (12))),.sl (List.map c3 (A1 (13))),.sl (List.map c3 (A1 (14))),.sl (List.map c3 (A1 (15)))]⟩),(4,⟨0,120,.var (G6 100400 16)⟩)]++C7 100400 3 1 16 (c3) (B2)⟩) (by kernel_rfl)<|N1 3 ⟨0,120,.var [.sl (List.map c3 (A1 (0))),.sl (List.map c3 (A1 (1))),.sl (List.map c3 (A1 (2))),.sl (List.map c3 (A1 (3))),.sl (List.map c3 (A1 (4))),.sl (List.map c3 (A1 (5))),.sl (List.map c3 (A1 (6))),.sl (List.map c3 (A1 (7))),.sl (List.map c3 (A1 (8))),.sl (List.map c3 (A1 (9))),.sl (List.map c3 (A1 (10))),.sl (List.map c3 (A1 (11))),.sl (List.map c3 (A1 (12))),.sl (List.map c3 (A1 (13))),.sl (List.map c3 (A1 (14))),.sl (List.map c3 (A1 (15)))]⟩ [.sl (List.map c3 (A1 (0))),.sl (List.map c3 (A1 (1))),.sl (List.map c3 (A1 (2))),.sl (List.map c3 (A1 (3))),.sl (List.map c3 (A1 (4))),.sl (List.map c3 (A1 (5))),.sl (List.map c3 (A1 (6))),.sl (List.map c3 (A1 (7))),.sl (List.map c3 (A1 (8))),.sl (List.map c3 (A1 (9))),.sl (List.map c3 (A1 (10))),.sl (List.map c3 (A1 (11))),.sl (List.map c3 (A1 (12))),.sl (List.map c3 (A1 (13))),.sl (List.map c3 (A1 (14))),.sl (List.map c3 (A1 (15)))] (I0 c3 16 A1) (σ':=⟨[(0,.sl (List.map c26 ps)),(2,.ptr (2) (0) (0) (0)),(3,.ptr (3) (0) (0) (0)),(4,.ptr (4) (0) (0) (0)),(5,.i .i64 (i0)),(14,.b (decide (i0 <(↑ps.length:Int))))],[(2,⟨0,122,.var [.nl,.nl,.nl,.nl,.nl,.nl,.nl,.nl,.nl,.nl,.nl,.nl,.nl,.nl,.nl,.nl]⟩),(3,⟨0,120,.arr (I0 c3 16 A1)⟩),(4,⟨0,120,.var (G6 100400 16)⟩)]++C7 100400 3 1 16 (c3) (B2)⟩) (by kernel_rfl) (by kernel_rfl) (by kernel_rfl) (by kernel_rfl) (ZLe.of_eq (by kernel_rfl)) (by kernel_rfl)<|P3 (List.range' 100400 16) [0,2,3,4,5,14] [2,3,4] (σ':=⟨[(0,.sl (List.map c26 ps)),(2,.ptr (2) (0) (0) (0)),(3,.ptr (3) (0) (0) (0)),(4,.ptr (4) (0) (0) (0)),(5,.i .i64 (i0)),(14,.b (decide (i0 <(↑ps.length:Int))))],[(2,⟨0,122,.var [.nl,.nl,.nl,.nl,.nl,.nl,.nl,.nl,.nl,.nl,.nl,.nl,.nl,.nl,.nl,.nl]⟩),(3,⟨0,120,.arr (I0 c3 16 A1)⟩),(4,⟨0,120,.var [.sl (List.map c3 (B2 (0))),.sl (List.map c3 (B2 (1))),.sl (List.map c3 (B2 (2))),.sl (List.map c3 (B2 (3))),.sl (List.map c3 (B2 (4))),.sl (List.map c3 (B2 (5))),.sl (List.map c3 (B2 (6))),.sl (List.map c3 (B2 (7))),.sl (List.map c3 (B2 (8))),.sl (List.map c3 (B2 (9))),.sl (List.map c3 (B2 (10))),.sl (List.map c3 (B2 (11))),.sl (List.map c3 (B2 (12))),.sl (List.map c3 (B2 (13))),.sl (List.map c3 (B2 (14))),.sl (List.map c3 (B2 (15)))]⟩)]⟩) (by kernel_rfl) ?_
  refine N1 4 ⟨0,120,.var [.sl (List.map c3 (B2 (0))),.sl (List.map c3 (B2 (1))),.sl (List.map c3 (B2 (2))),.sl (List.map c3 (B2 (3))),.sl (List.map c3 (B2 (4))),.sl (List.map c3 (B2 (5))),.sl (List.map c3 (B2 (6))),.sl (List.map c3 (B2 (7))),.sl (List.map c3 (B2 (8))),.sl (List.map c3 (B2 (9))),.sl (List.map c3 (B2 (10))),.sl (List.map c3 (B2 (11))),.sl (List.map c3 (B2 (12))),.sl (List.map c3 (B2 (13))),.sl (List.map c3 (B2 (14))),.sl (List.map c3 (B2 (15)))]⟩ [.sl (List.map c3 (B2 (0))),.sl (List.map c3 (B2 (1))),.sl (List.map c3 (B2 (2))),.sl (List.map c3 (B2 (3))),.sl (List.map c3 (B2 (4))),.sl (List.map c3 (B2 (5))),.sl (List.map c3 (B2 (6))),.sl (List.map c3 (B2 (7))),.sl (List.map c3 (B2 (8))),.sl (List.map c3 (B2 (9))),.sl (List.map c3 (B2 (10))),.sl (List.map c3 (B2 (11))),.sl (List.map c3 (B2 (12))),.sl (List.map c3 (B2 (13))),.sl (List.map c3 (B2 (14))),.sl (List.map c3 (B2 (15)))] (I0 c3 16 B2) (σ':=⟨[(0,.sl (List.map c26 ps)),(2,.ptr (2) (0) (0) (0)),(3,.ptr (3) (0) (0) (0)),(4,.ptr (4) (0) (0) (0)),(5,.i .i64 (i0)),(14,.b (decide (i0 <(↑ps.length:Int))))],[(2,⟨0,122,.var [.nl,.nl,.nl,.nl,.nl,.nl,.nl,.nl,.nl,.nl,.nl,.nl,.nl,.nl,.nl,.nl]⟩),(3,⟨0,120,.arr (I0 c3 16 A1)⟩),(4,⟨0,120,.arr (I0 c3 16 B2)⟩)]⟩) (by kernel_rfl) (by kernel_rfl) (by kernel_rfl) (by kernel_rfl) (ZLe.of_eq (by kernel_rfl)) (by kernel_rfl)<|rG cx [2,3,4,9] [2,3,4,9] z0<|sn<|sq<|sq<|rG cx [2,3,4,9,10] [2,3,4,9] z0<|sn<|bL 6<|N1 9 ⟨0,122,.var [.nl,.nl,.nl,.nl,.nl,.nl,.nl,.nl,.nl,.nl,.nl,.nl,.nl,.nl,.nl,.nl]⟩ [.nl,.nl,.nl,.nl,.nl,.nl,.nl,.nl,.nl,.nl,.nl,.nl,.nl,.nl,.nl,.nl] (I0 c3 16 fun x ↦ []) (σ':=⟨[(2,.ptr (2) (0) (0) (0)),(3,.ptr (3) (0) (0) (0)),(4,.ptr (4) (0) (0) (0)),(9,.ptr (9) (0) (0) (0)),(10,.i .i64 ((0:Int)))],[(2,⟨0,122,.var [.nl,.nl,.nl,.nl,.nl,.nl,.nl,.nl,.nl,.nl,.nl,.nl,.nl,.nl,.nl,.nl]⟩),(3,⟨0,120,.arr (I0 c3 16 A1)⟩),(4,⟨0,120,.arr (I0 c3 16 B2)⟩),(9,⟨0,122,.arr (I0 c3 16 fun x ↦ [])⟩)]⟩) (by kernel_rfl) (by kernel_rfl) (by kernel_rfl) (by kernel_rfl) (Bc8 c3 16) (by kernel_rfl)<|sL (X:=Int×(Nat→List Int)×(Nat→List Int)×(Nat→List Int)) (fun x=>⟨[(2,.ptr (2) (0) (0) (0)),(3,.ptr (3) (0) (0) (0)),(4,.ptr (4) (0) (0) (0)),(9,.ptr (9) (0) (0) (0)),(10,.i .i64 (x.1))],[(2,⟨0,122,.var [.nl,.nl,.nl,.nl,.nl,.nl,.nl,.nl,.nl,.nl,.nl,.nl,.nl,.nl,.nl,.nl]⟩),(3,⟨0,120,.arr (I0 c3 16 x.2.1)⟩),(4,⟨0,120,.arr (I0 c3 16 x.2.2.1)⟩),(9,⟨0,122,.arr (I0 c3 16 x.2.2.2)⟩)]⟩) (fun x ↦ decMd x.1 x.2.1 x.2.2.1 x.2.2.2) (fun x ↦ Bg2 A1 B2 x.1 x.2.1 x.2.2.1 x.2.2.2) [2,3,4,9,10] [2,3,4,9] (((0:Int),A1,B2,fun x ↦ [])) (show Bg2 A1 B2 (0:Int) A1 B2 fun x ↦ []from ?g17) ?_;rotate_left
  rintro⟨r33,A34,B35,S36⟩ h_37
  obtain⟨h38,h39,h40,h41,h42⟩:A34=A1∧B35=B2∧0≤r33∧r33≤16∧As8 (zT A1 B2) r33 S36:=h_37
  refine sq<|rD cx [2,3,4,9,10,102] [2,3,4,9] (zB 1 (r33 <(16:Int))) (fun h43=>?_) fun h43=>?_
  refine sK<|sn<|sq<|bL 7 ?_
  have hl_44:=(X1 (A5t (A34 r33.toNat) (B35 r33.toNat)))
  refine rA cx [2,3,4,9,10] [2,3,4,9] (fA (0≤r33) (fO (r33 <(↑(16:Nat):Int)) (fP ((I0 c3 16 A34)[r33.toNat*(1:Nat)+0]?=some (AV.sl (List.map c3 (A34 r33.toNat)))) (by((try simp only [Nat.mul_one,Nat.add_zero,Nat.zero_add]);with_reducible refine F9 ?_;omega)) (fA (0≤r33) (fO (r33 <(↑(16:Nat):Int)) (fP ((I0 c3 16 B35)[r33.toNat*(1:Nat)+0]?=some (AV.sl (List.map c3 (B35 r33.toNat)))) (by((try simp only [Nat.mul_one,Nat.add_zero,Nat.zero_add]);with_reducible refine F9 ?_;omega)) (fT (con171 (A34 r33.toNat) (B35 r33.toNat) ?g18 ?g19) (fA (0≤r33) (fO (r33 <(↑(16:Nat):Int)) (fP (r33.toNat*(1:Nat)+0 <(I0 c3 16 S36).length) ?g20 (fR [(E2 (AV.sl (List.map c3 (L6 (nrm (A5t (A34 r33.toNat) (B35 r33.toNat))))))).headD AV.dead] (fP ((I0 c3 16 S36).set (r33.toNat*(1:Nat)+0) ((E2 (AV.sl (List.map c3 (L6 (nrm (A5t (A34 r33.toNat) (B35 r33.toNat))))))).headD AV.dead)=I0 c3 16 (N0 S36 r33.toNat (L6 (nrm (A5t (A34 r33.toNat) (B35 r33.toNat)))))) (by((try simp only [Nat.mul_one,Nat.add_zero,Nat.zero_add]);(with_reducible refine Aa7 ?_);exact Eq.refl _)) (oR 3 [.sl (List.map c3 (A34 r33.toNat))] (oR 6 [.sl (List.map c3 (B35 r33.toNat))] (oA 7 (.sl (List.map c3 (L6 (nrm (A5t (A34 r33.toNat) (B35 r33.toNat)))))) (oV 10 { rows:=some [(I0 c3 16 (N0 S36 r33.toNat (L6 (nrm (A5t (A34 r33.toNat) (B35 r33.toNat))))))] } z0)))))))))))))))) ?_;rotate_left 3
  refine bN<|sn<|rG cx [2,3,4,9,10] [2,3,4,9] (tW 1 (r33+1) z0)<|sn<|nX ((r33+1,A34,B35,N0 S36 r33.toNat (L6 (nrm (A5t (A34 r33.toNat) (B35 r33.toNat)))))) (show(16-(r33+1)).toNat <(16-r33).toNat from(by omega)) (show Bg2 A1 B2 (r33+1) A34 B35 (N0 S36 r33.toNat (L6 (nrm (A5t (A34 r33.toNat) (B35 r33.toNat)))))from ?g21);rotate_left
  refine eX 6<|nE<|nE<|bH<|sn<|sq<|rG cx [2] [2] (fR 16 z0)<|sn<|rT<|qR (.agg [.sl (List.map c3 (S36 (0))),.sl (List.map c3 (S36 (1))),.sl (List.map c3 (S36 (2))),.sl (List.map c3 (S36 (3))),.sl (List.map c3 (S36 (4))),.sl (List.map c3 (S36 (5))),.sl (List.map c3 (S36 (6))),.sl (List.map c3 (S36 (7))),.sl (List.map c3 (S36 (8))),.sl (List.map c3 (S36 (9))),.sl (List.map c3 (S36 (10))),.sl (List.map c3 (S36 (11))),.sl (List.map c3 (S36 (12))),.sl (List.map c3 (S36 (13))),.sl (List.map c3 (S36 (14))),.sl (List.map c3 (S36 (15)))]) (.eq ?g22);rotate_left
  rotate_left
  revert i0 A1 B2 hh4 hh5 h6 h7 h8;rotate_left
  revert i0 A1 B2 hh4 hh5 h6 h7 h8 j9 A10 B11 h13 h14 h15 h16 h17 h20;rotate_left
  revert i0 A1 B2 hh4 hh5 h6 h7 h8 j9 A10 B11 h13 h14 h15 h16 h17 h20;rotate_left
  revert i0 A1 B2 hh4 hh5 h6 h7 h8 j9 A10 B11 h13 h14 h15 h16 h17 h20;rotate_left
  revert i0 A1 B2 hh4 hh5 h6 h7 h8 j9 A10 B11 h13 h14 h15 h16 h17 h20;rotate_left
  revert i0 A1 B2 hh4 hh5 h6 h7 h8 j9 A10 B11 h13 h14 h15 h16 h17 h20;rotate_left
  revert i0 A1 B2 hh4 hh5 h6 h7 h8 j9 A10 B11 h13 h14 h15 h16 h17 h20;rotate_left
  revert i0 A1 B2 hh4 hh5 h6 h7 h8 j9 A10 B11 h13 h14 h15 h16 h17 h20 j21 A22 B23 h25 h26 h27 h28 h29 h32;rotate_left
  revert i0 A1 B2 hh4 hh5 h6 h7 h8 j9 A10 B11 h13 h14 h15 h16 h17 h20 j21 A22 B23 h25 h26 h27 h28 h29 h32;rotate_left
  revert i0 A1 B2 hh4 hh5 h6 h7 h8 j9 A10 B11 h13 h14 h15 h16 h17 h20 j21 A22 B23 h25 h26 h27 h28 h29 h32;rotate_left
  revert i0 A1 B2 hh4 hh5 h6 h7 h8 j9 A10 B11 h13 h14 h15 h16 h17 h20 j21 A22 B23 h25 h26 h27 h28 h29 h32;rotate_left
  revert i0 A1 B2 hh4 hh5 h6 h7 h8 j9 A10 B11 h13 h14 h15 h16 h17 h20 j21 A22 B23 h25 h26 h27 h28 h29 h32;rotate_left
  revert i0 A1 B2 hh4 hh5 h6 h7 h8 j9 A10 B11 h13 h14 h15 h16 h17 h20 j21 A22 B23 h25 h26 h27 h28 h29 h32;rotate_left
  revert i0 A1 B2 hh4 hh5 h6 h7 h8 j9 A10 B11 h13 h14 h15 h16 h17 h20 j21 A22 B23 h25 h26 h27 h28 h29 h32;rotate_left
  revert i0 A1 B2 hh4 hh5 h6 h7 h8 j9 A10 B11 h13 h14 h15 h16 h17 h20 j21 A22 B23 h25 h26 h27 h28 h29 h32;rotate_left
  revert i0 A1 B2 hh4 hh5 h6 h7 h8 j9 A10 B11 h13 h14 h15 h16 h17 h20 j21 A22 B23 h25 h26 h27 h28 h29;rotate_left
  revert i0 A1 B2 hh4 hh5 h6 h7 h8;rotate_left
  clear hl_44;revert i0 A1 B2 hh4 hh5 h6 h7 h8 r33 A34 B35 S36 h38 h39 h40 h41 h42 h43;rotate_left
  clear hl_44;revert i0 A1 B2 hh4 hh5 h6 h7 h8 r33 A34 B35 S36 h38 h39 h40 h41 h42 h43;rotate_left
  clear hl_44;revert i0 A1 B2 hh4 hh5 h6 h7 h8 r33 A34 B35 S36 h38 h39 h40 h41 h42 h43;rotate_left
  clear hl_44;revert i0 A1 B2 hh4 hh5 h6 h7 h8 r33 A34 B35 S36 h38 h39 h40 h41 h42 h43;rotate_left
  revert i0 A1 B2 hh4 hh5 h6 h7 h8 r33 A34 B35 S36 h38 h39 h40 h41 h42 h43;rotate_left
  case g0=>exact⟨by omega,by omega,fun r _=>rfl,fun r _=>rfl⟩
  case g1=>intro i A B h0 h1 h3 h4 h5;exact⟨by omega,by omega,by omega,h3,A4k h4⟩
  case g6 =>
    intro i A B h0 h1 h3 h4 h5 j X Y k0 k1 k2 k4 k5 k6
    exact⟨by omega,by omega,by omega,Ad3 k4,fun r hr=>by rw[B9p (k4 _ (by omega))];exact A6r k0 k6.1 k5 r hr⟩
  case g7=>intro i A B h0 h1 h3 h4 h5 j X Y k0 k1 k2 k4 k5 k6;exact⟨by omega,by omega,k4,A4l (by omega) (by omega) k5⟩
  case g13 =>
    intro i A B h0 h1 h3 h4 h5 j X Y k0 k1 k2 k4 k5 k6 l V W m0 m1 m3 m4 m5 m6
    exact⟨by omega,by omega,Ad3 m3,fun r hr=>by rw[B9p (m3 _ (by omega))];exact Ar0 m0 m5 m6 m4 r hr⟩
  case g15=>intro i A B h0 h1 h3 h4 h5 j X Y k0 k1 k2 k4 k5 k6 l V W m0 m1 m3 m4 m5 m6;exact⟨by omega,by omega,m3,Ab4 m0 m5 m6 m4⟩
  case g16=>intro i A B h0 h1 h3 h4 h5 j X Y k0 k1 k2 k4 k5 k6 l V W m0 m1 m3 m4 m5;exact⟨by omega,by omega,m3,Ab5 h0 h5 m5 m4⟩
  case g17=>intro i A B h0 h1 h3 h4 h5;exact⟨rfl,rfl,by omega,by omega,fun k hk=>by omega⟩
  case g18=>intro i A B h0 h1 h3 h4 h5 r X Y S k0 k1 k2 k3 k4 k5;subst k0 k1;exact h3 _ (by omega)
  case g19 =>
    intro i A B h0 h1 h3 h4 h5 r X Y S k0 k1 k2 k3 k4 k5
    subst k0 k1
    have:=B3h h3 (r:=r.toNat) (by omega)
    have:=Q6 r.toNat (ps.take i.toNat)
    rw[h4 _ (by omega)]at *
    rw[List.take_of_length_le (by omega)]at *
    omega
  case g20=>intro i A B h0 h1 h3 h4 h5 r X Y S k0 k1 k2 k3 k4 k5;rw[W9];omega
  case g21=>intro i A B h0 h1 h3 h4 h5 r X Y S k0 k1 k2 k3 k4 k5;subst k0 k1;exact⟨rfl,rfl,by omega,by omega,Al5 k2 k4⟩
  case g22 =>
    intro i A B h0 h1 h3 h4 h5 r X Y S k0 k1 k2 k3 k4 k5
    congr 1
    show I0 c3 16 S=I0 c3 16 _
    unfold I0
    refine List.map_congr_left fun q hq=>?_
    have hq:q < 16:=by simpa using hq
    rw[k4 q (by omega)]
    unfold tnS F3
    rw[h4 q hq,List.take_of_length_le (by omega)]
  all_goals
    intro i A B h0 h1 h3 h4 h5 j X Y k0 k1 k2 k4 k5 k6
    first
    | (have l1 := A4m h0 h5 k5 (r := j.toNat) (by omega) (by omega)
       have l2:=B3h k4 (r:=j.toNat) (by omega)
       simp only [List.length_map,List.length_cons,List.length_nil,Go.maxLen]
       omega)
    | (intro l V W m0 m1 m3 m4 m5 m6
       have l0:=V4 h0 h5 m0 m5 m4 (r:=0) (by omega)
       first
       | omega
       | (have l1 := V4 h0 h5 m0 m5 m4 (r := ((ps[i.toNat]!).cloud[l.toNat]!).rep.toNat) (by omega)
          have l2:=B3h m3 (r:=((ps[i.toNat]!).cloud[l.toNat]!).rep.toNat) (by omega)
          simp only [List.length_map,List.length_cons,List.length_nil,Go.maxLen]
          omega))
end Go.Proofs.YtaiepnaokhpmcaaGreat
namespace Go.Proofs.YtaiepnaokhpmcaaGreat
open Go.E
set_option maxRecDepth 100000
set_option maxHeartbeats 4000000
def Bg3(U:Nat→List Run)(n r:Int)(S:Nat→List Int)(v:List Int)(c:List Span):Prop:=S=tnS U∧0≤r∧r≤16∧0≤n∧n≤r∧v.length=16∧B2c U r n∧A14 U r v∧L1 U r c
def decFa(n r:Int)(S:Nat→List Int)(v:List Int)(c:List Span):Nat:=(16-r).toNat
def B01(U:Nat→List Run)(r n0:Int)(v0:List Int)(c0:List Span)(k n:Int)(v:List Int)(c:List Span):Prop :=
 n=(if 0 <(C2 ((U r.toNat).take (k / 2).toNat)).1 then r+1 else n0)∧v=v0.set r.toNat (C2 ((U r.toNat).take (k / 2).toNat)).1∧c=c0++(C2 ((U r.toNat).take (k / 2).toNat)).2.map fun x=>(⟨r,x.lo,x.hi⟩:Span)
def B70(U:Nat→List Run)(r n0:Int)(v0:List Int)(c0:List Span)(n k:Int)(S:Nat→List Int)(v:List Int)(c:List Span):Prop:=S=tnS U∧0≤k∧k≤2*(U r.toNat).length∧2*(k / 2)=k∧v.length=16∧0≤n∧n≤r+1∧B01 U r n0 v0 c0 k n v c
def decFb(U:Nat→List Run)(r:Int)(n k:Int)(S:Nat→List Int)(v:List Int)(c:List Span):Nat:=(2*(U r.toNat).length-k).toNat
theorem Ad4(l:List Run):(L6 l).length=2*l.length:=by
 induction l with
 | nil=>rfl
 | cons r l ih =>
  have:L6 (r :: l)=r.lo ::(r.hi+1) :: L6 l:=rfl
  rw[this];simp only [List.length_cons,ih];omega
theorem As9:∀ {l:List Run} {j:Nat},j < l.length→(L6 l)[2*j]! = l[j]!.lo∧(L6 l)[2*j+1]! = l[j]!.hi+1
 | r :: l,0,_=>⟨rfl,rfl⟩
 | r :: l,j+1,h=>by
  have e:L6 (r :: l)=r.lo ::(r.hi+1) :: L6 l:=rfl
  have ih:=As9 (l:=l) (j:=j) (by simpa using h)
  rw[e,show 2*(j+1)=2*j+1+1 by omega]
  simpa using ih
theorem B71{x:Run}(h:x.lo=1):C2 [x]=(x.hi,[]):=by
 unfold C2
 rw[if_neg]
 ·rfl
 ·rintro(k | k)
  ·cases k
  ·exact k h
theorem B3i{P:List Run}{x:Run}(h:P=[]→¬ x.lo=1):C2 (P++[x])=((C2 P).1,(C2 P).2++[x]):=by
 cases P with
 | nil =>
  show C2 [x]=_
  unfold C2
  rw[if_pos (.inr (h rfl)),if_pos (.inl rfl)]
  rfl
 | cons y P =>
  unfold C2
  by_cases hy:y.lo=1
  ·rw[if_neg,if_neg]
   ·simp
   ·simpa using hy
   ·simpa using hy
  ·rw[if_pos,if_pos]
   ·simpa using hy
   ·simpa using hy
theorem B72(P:List Run):(C2 P).2.length≤P.length:=by
 unfold C2
 split
 ·exact Nat.le_refl _
 ·simp
theorem B02{U:Nat→List Run}{r n0:Int}{v0:List Int}{c0:List Span}(h0:0≤r)(h1:r < 16)(hv:A14 U r v0):B01 U r n0 v0 c0 0 n0 v0 c0:=by
 unfold B01
 refine⟨?_,?_,?_⟩
 ·show n0=if(0:Int) <(C2 []).1 then _ else _
  rw[A1s,if_neg (by omega)]
 ·show v0=v0.set r.toNat (C2 []).1
  rw[A1s]
  unfold A14 A6m at hv
  have e:16-r.toNat=(15-r.toNat)+1:=by omega
  rw[hv,List.set_append_right _ _ (by simp),List.length_map,List.length_range,Nat.sub_self,e,List.replicate_succ,List.set_cons_zero]
 ·show c0=c0++List.map _ (C2 []).2
  rw[A1s];simp
theorem B3j{l:List Run}{k:Int}(h0:0≤k)(he:2*(k / 2)=k)(hk:k+1 < 2*l.length):l.take ((k+2) / 2).toNat=l.take (k / 2).toNat++[l[(k / 2).toNat]!]:=by
 have:=D9 (a:=l) (i:=k / 2) (by omega) (by omega)
 rw[show((k+2) / 2).toNat=(k / 2+1).toNat by omega,this]
theorem B73{U:Nat→List Run}{r n0 n k:Int}{v0 v:List Int}{c0 c:List Span}(hU:V3 (U r.toNat))(h0:0≤k)(he:2*(k / 2)=k)(hk:k+1 < 2*(U r.toNat).length)(hlo:(U r.toNat)[(k / 2).toNat]!.lo=1)(h:B01 U r n0 v0 c0 k n v c) :
  B01 U r n0 v0 c0 (k+2) (r+1) (v.set r.toNat (U r.toNat)[(k / 2).toNat]!.hi) c:=by
 have h1:=Aj8 hU (k / 2).toNat (by omega)
 have h2:=hU.2 _ (D6 (l:=U r.toNat) (i:=(k / 2).toNat) (by omega))
 have hz:k=0:=by omega
 subst hz
 unfold B01 at *
 rw[B3j h0 he hk]
 obtain⟨a1,a2,a3⟩:=h
 have e:(U r.toNat).take ((0:Int) / 2).toNat=[]:=by simp
 rw[e]at a1 a2 a3 ⊢
 rw[List.nil_append,B71 hlo]
 rw[A1s]at a2 a3
 refine⟨?_,?_,?_⟩
 ·rw[if_pos (show(0:Int) <(U r.toNat)[((0:Int) / 2).toNat]!.hi by omega)]
 ·rw[a2,List.set_set]
 ·exact a3
theorem B3k{U:Nat→List Run}{r n0 n k:Int}{v0 v:List Int}{c0 c:List Span}(h0:0≤k)(he:2*(k / 2)=k)(hk:k+1 < 2*(U r.toNat).length)(hlo:¬(U r.toNat)[(k / 2).toNat]!.lo=1)(h:B01 U r n0 v0 c0 k n v c) :
  B01 U r n0 v0 c0 (k+2) n v (c++[⟨r,(U r.toNat)[(k / 2).toNat]!.lo,(U r.toNat)[(k / 2).toNat]!.hi⟩]):=by
 unfold B01 at *
 rw[B3j h0 he hk,B3i (fun _=>hlo)]
 obtain⟨a1,a2,a3⟩:=h
 refine⟨a1,a2,?_⟩
 rw[a3,List.map_append,List.append_assoc]
 rfl
theorem B74{U:Nat→List Run}{r n0 n k:Int}{v0 v:List Int}{c0 c:List Span}(hU:V3 (U r.toNat))(r0:0≤r)(r1:r < 16)(hs:B2c U r n0)(hv:A14 U r v0)(hc:L1 U r c0)(h0:0≤k)(he:2*(k / 2)=k)(hk:¬ k+1 < 2*(U r.toNat).length)(hl:k≤2*(U r.toNat).length)
  (h:B01 U r n0 v0 c0 k n v c):B2c U (r+1) n∧A14 U (r+1) v∧L1 U (r+1) c:=by
 unfold B01 at h
 rw[List.take_of_length_le (by omega)]at h
 obtain⟨a1,a2,a3⟩:=h
 have g1:=Aj9 r0 hs
 have g2:=A84 r0 r1 hv
 rw[Ar2 hU]at g1 g2
 rw[a1,a2]
 refine⟨g1,g2,?_⟩
 unfold L1 at *
 rw[show(r+1).toNat=r.toNat+1 by omega,J3,X2,Ar2 hU,a3,hc,show((r.toNat:Nat):Int)=r by omega]
theorem Ad5{U:Nat→List Run}{r k:Int}(h0:0≤k)(he:2*(k / 2)=k)(hk:k+1 < 2*(U r.toNat).length):(tnS U r.toNat)[k.toNat]! =(U r.toNat)[(k / 2).toNat]!.lo∧(tnS U r.toNat)[(k+1).toNat]! =(U r.toNat)[(k / 2).toNat]!.hi+1:=by
 have:=As9 (l:=U r.toNat) (j:=(k / 2).toNat) (by omega)
 unfold tnS
 rw[show k.toNat=2*(k / 2).toNat by omega,show(k+1).toNat=2*(k / 2).toNat+1 by omega]
 exact this
theorem B75{U:Nat→List Run}{r n0 n k:Int}{v0 v:List Int}{c0 c:List Span}(hU:V3 (U r.toNat))(r0:0≤r)(r1:r < 16)(hc:L1 U r c0)(h:B01 U r n0 v0 c0 k n v c):c.length≤8000000000:=by
 obtain⟨_,_,a3⟩:=h
 have h1:=A1r U r.toNat
 have h2:=B72 ((U r.toNat).take (k / 2).toNat)
 have h3:=P6 hU
 unfold L1 at hc
 rw[List.length_take]at h2
 rw[a3,List.length_append,List.length_map,hc]
 omega
theorem con109 (U : Nat → List Run) (hU : ∀ r : Nat, r < 16 → V3 (U r)) : Con Tryz.prog 109 [.agg (c122 (tnS U))] (.agg (c26 (H3 U))) :=
  by
  refine sC B1 [.cell 2 26] 73 Tryz.func109 ?_
  intro e0 cx
  refine sq<|rG cx [1,2] [1,2] z0<|sn<|sq<|rG cx [1,2,3] [1,2,3] z0<|sn<|sq<|rG cx [1,2,3,4] [1,2,3,8] (fR (↑(16:Nat):Int) (fR (↑(16:Nat):Int) (fO ((8:Nat)*(16:Nat)≤(281474976710656:Nat)) (fP ((16:Nat)≤maxLen) (by(simp only [Go.maxLen];omega)) (fR 1 (fP (ZLe [AV.i .i64 (0:Int)] [AV.i .i64 (0:Int)]) (by(with_reducible exact ZLe.refl _)) (fP (List.replicate (16:Nat) [AV.i .i64 (0:Int)]=List.map c3 (List.replicate (16:Nat) (0:Int))) (by(with_reducible refine Ai9 ?_;kernel_rfl)) (oV 0 { row:=[.i .i64 ((0:Int))],rows:=some (List.map c3 (List.replicate (16:Nat) (0:Int))),n:=(16:Nat) } z0)))))))) ?_
  refine sn<|sq<|rG cx [1,2,3,4,5] [1,2,3,8] z0<|sn<|sq<|sq<|rG cx [1,2,3,4,5,6] [1,2,3,8] z0<|sn<|bL 0<|A08 3 104 3 1 5301 (σ':=⟨[(1,.ptr (1) (0) (0) (0)),(2,.ptr (2) (0) (0) (0)),(3,.ptr (3) (0) (0) (0)),(4,.own 8 0),(5,.i .i64 ((0:Int))),(6,.i .i64 ((0:Int)))],[(1,⟨0,122,.var [.sl (List.map c3 (tnS U (0))),.sl (List.map c3 (tnS U (1))),.sl (List.map c3 (tnS U (2))),.sl (List.map c3 (tnS U (3))),.sl (List.map c3 (tnS U (4))),.sl (List.map c3 (tnS U (5))),.sl (List.map c3 (tnS U (6))),.sl (List.map c3 (tnS U (7))),.sl (List.map c3 (tnS U (8))),.sl (List.map c3 (tnS U (9))),.sl (List.map c3 (tnS U (10))),.sl (List.map c3 (tnS U (11))),.sl (List.map c3 (tnS U (12))),.sl (List.map c3 (tnS U (13))),.sl (List.map c3 (tnS U (14))),.sl (List.map c3 (tnS U (15)))]⟩),(2,⟨0,26,.var [.nl,.nl]⟩),(3,⟨0,26,.var [.nl,.own 5301 0]⟩),(8,⟨0,3,.row 1 (List.map c3 (List.replicate (16:Nat) (0:Int)))⟩),(5301,⟨0,104,.row 3 (List.map B7 [])⟩)]⟩) (by kernel_rfl)<|N1 1 ⟨0,122,.var [.sl (List.map c3 (tnS U (0))),.sl (List.map c3 (tnS U (1))),.sl (List.map c3 (tnS U (2))),.sl (List.map c3 (tnS U (3))),.sl (List.map c3 (tnS U (4))),.sl (List.map c3 (tnS U (5))),.sl (List.map c3 (tnS U (6))),.sl (List.map c3 (tnS U (7))),.sl (List.map c3 (tnS U (8))),.sl (List.map c3 (tnS U (9))),.sl (List.map c3 (tnS U (10))),.sl (List.map c3 (tnS U (11))),.sl (List.map c3 (tnS U (12))),.sl (List.map c3 (tnS U (13))),.sl (List.map c3 (tnS U (14))),.sl (List.map c3 (tnS U (15)))]⟩ [.sl (List.map c3 (tnS U (0))),.sl (List.map c3 (tnS U (1))),.sl (List.map c3 (tnS U (2))),.sl (List.map c3 (tnS U (3))),.sl (List.map c3 (tnS U (4))),.sl (List.map c3 (tnS U (5))),.sl (List.map c3 (tnS U (6))),.sl (List.map c3 (tnS U (7))),.sl (List.map c3 (tnS U (8))),.sl (List.map c3 (tnS U (9))),.sl (List.map c3 (tnS U (10))),.sl (List.map c3 (tnS U (11))),.sl (List.map c3 (tnS U (12))),.sl (List.map c3 (tnS U (13))),.sl (List.map c3 (tnS U (14))),.sl (List.map c3 (tnS U (15)))] (I0 c3 16 (tnS U)) (σ':=⟨[(1,.ptr (1) (0) (0) (0)),(2,.ptr (2) (0) (0) (0)),(3,.ptr (3) (0) (0) (0)),(4,.own 8 0),(5,.i .i64 ((0:Int))),(6,.i .i64 ((0:Int)))],[(1,⟨0,122,.arr (I0 c3 16 (tnS U))⟩),(2,⟨0,26,.var [.nl,.nl]⟩),(3,⟨0,26,.var [.nl,.own 5301 0]⟩),(8,⟨0,3,.row 1 (List.map c3 (List.replicate (16:Nat) (0:Int)))⟩),(5301,⟨0,104,.row 3 (List.map B7 [])⟩)]⟩) (by kernel_rfl) (by kernel_rfl) (by kernel_rfl) (by kernel_rfl) (ZLe.of_eq (by kernel_rfl)) (by kernel_rfl)<|sL (X:=Int×Int×(Nat→List Int)×List Int×List Span) (fun x=>⟨[(1,.ptr (1) (0) (0) (0)),(2,.ptr (2) (0) (0) (0)),(3,.ptr (3) (0) (0) (0)),(4,.own 8 0),(5,.i .i64 (x.1)),(6,.i .i64 (x.2.1))],[(1,⟨0,122,.arr (I0 c3 16 x.2.2.1)⟩),(2,⟨0,26,.var [.nl,.nl]⟩),(3,⟨0,26,.var [.nl,.own 5301 0]⟩),(8,⟨0,3,.row 1 (List.map c3 x.2.2.2.1)⟩),(5301,⟨0,104,.row 3 (List.map B7 x.2.2.2.2)⟩)]⟩) (fun x ↦ decFa x.1 x.2.1 x.2.2.1 x.2.2.2.1 x.2.2.2.2) (fun x ↦ Bg3 U x.1 x.2.1 x.2.2.1 x.2.2.2.1 x.2.2.2.2) [1,2,3,4,5,6] [1,2,3,8,5301] (((0:Int),(0:Int),tnS U,List.replicate (16:Nat) (0:Int),[])) (show Bg3 U (0:Int) (0:Int) (tnS U) (List.replicate (16:Nat) (0:Int)) []from ?g0) ?_;rotate_left
  rintro⟨n0,r1,S2,v3,c4⟩ h_5
  obtain⟨hh6,hh7,hh8,hh9,h10,h11,h12,h13,h14⟩:S2=tnS U∧0≤r1∧r1≤16∧0≤n0∧n0≤r1∧v3.length=(16:Nat)∧B2c U r1 n0∧A14 U r1 v3∧L1 U r1 c4:=h_5
  refine sq<|rD cx [1,2,3,4,5,6,10] [1,2,3,8,5301] (zB 1 (r1 <(16:Int))) (fun h15=>?_) fun h15=>?_
  refine sK<|sn<|sq<|bL 1<|sq<|rG cx [1,2,3,4,5,6,7] [1,2,3,8,5301] z0<|sn<|bL 2<|sL (X:=Int×Int×(Nat→List Int)×List Int×List Span) (fun x=>⟨[(1,.ptr (1) (0) (0) (0)),(2,.ptr (2) (0) (0) (0)),(3,.ptr (3) (0) (0) (0)),(4,.own 8 0),(5,.i .i64 (x.1)),(6,.i .i64 (r1)),(7,.i .i64 (x.2.1))],[(1,⟨0,122,.arr (I0 c3 16 x.2.2.1)⟩),(2,⟨0,26,.var [.nl,.nl]⟩),(3,⟨0,26,.var [.nl,.own 5301 0]⟩),(8,⟨0,3,.row 1 (List.map c3 x.2.2.2.1)⟩),(5301,⟨0,104,.row 3 (List.map B7 x.2.2.2.2)⟩)]⟩) (fun x ↦ decFb U r1 x.1 x.2.1 x.2.2.1 x.2.2.2.1 x.2.2.2.2) (fun x ↦ B70 U r1 n0 v3 c4 x.1 x.2.1 x.2.2.1 x.2.2.2.1 x.2.2.2.2) [1,2,3,4,5,6,7] [1,2,3,8,5301] ((n0,(0:Int),S2,v3,c4)) (show B70 U r1 n0 v3 c4 n0 (0:Int) S2 v3 c4 from ?g1) ?_;rotate_left
  rintro⟨n16,k17,S18,v19,c20⟩ h_21
  obtain⟨h22,h23,h24,h25,h26,h27,h28,h29⟩:S18=tnS U∧0≤k17∧k17≤(2:Int)*(↑(U r1.toNat).length:Int)∧(2:Int)*(k17 / (2:Int))=k17∧v19.length=(16:Nat)∧0≤n16∧n16≤r1+1∧B01 U r1 n0 v3 c4 k17 n16 v19 c20:=h_21
  refine sq<|sq<|rG cx [1,2,3,4,5,6,7,20] [1,2,3,8,5301] (tT 1 (B6 (by omega) ?g2:AV.i .i64 (IntKind.i64.wrap (k17+1))=AV.i .i64 (k17+1)) (fA (0≤r1) (fO (r1 <(↑(16:Nat):Int)) (fP ((I0 c3 16 S18)[r1.toNat*(1:Nat)+0]?=some (AV.sl (List.map c3 (S18 r1.toNat)))) (by((try simp only [Nat.mul_one,Nat.add_zero,Nat.zero_add]);with_reducible refine F9 ?_;omega)) (tL 6 c3 (S18 r1.toNat) (tB 7 (k17+1 <(↑(S18 r1.toNat).length:Int)) (oR 5 [.sl (List.map c3 (S18 r1.toNat))] z0))))))) ?_;rotate_left
  refine sn<|dC (k17+1 <(↑(S18 r1.toNat).length:Int)) (fun h30=>?_) fun h30=>?_
  refine sK<|sn<|sq<|bL 3<|rD cx [1,2,3,4,5,6,7,30] [1,2,3,8,5301] (fA (0≤r1) (fO (r1 <(↑(16:Nat):Int)) (fP ((I0 c3 16 S18)[r1.toNat*(1:Nat)+0]?=some (AV.sl (List.map c3 (S18 r1.toNat)))) (by((try simp only [Nat.mul_one,Nat.add_zero,Nat.zero_add]);with_reducible refine F9 ?_;omega)) (fA (0≤k17) (fG c3 (S18 r1.toNat) k17.toNat (fR 1 (oR 3 [.sl (List.map c3 (S18 r1.toNat))] (oR 5 (c3 (S18 r1.toNat)[k17.toNat]!) (zB 7 ((S18 r1.toNat)[k17.toNat]! =(1:Int))))))))))) (fun h31=>?_) fun h31=>?_
  refine sq<|rG cx [1,2,3,4,6,7] [1,2,3,8,5301] (fA (0≤r1) (fO (r1 <(↑(16:Nat):Int)) (fP ((I0 c3 16 S18)[r1.toNat*(1:Nat)+0]?=some (AV.sl (List.map c3 (S18 r1.toNat)))) (by((try simp only [Nat.mul_one,Nat.add_zero,Nat.zero_add]);with_reducible refine F9 ?_;omega)) (tT 7 (B6 (by omega) ?g3:AV.i .i64 (IntKind.i64.wrap (k17+1))=AV.i .i64 (k17+1)) (fO (0≤k17+1) (fG c3 (S18 r1.toNat) ((k17+1).toNat) (fR 1 (tT 10 (B6 ?g4 ?g5:AV.i .i64 (IntKind.i64.wrap ((S18 r1.toNat)[(k17+1).toNat]!-1))=AV.i .i64 ((S18 r1.toNat)[(k17+1).toNat]!-1)) (fA (0≤r1) (fP (r1.toNat <(List.map c3 v19).length) (by(first | omega | (simp only [List.length_map];omega))) (fR 1 (fG c3 v19 r1.toNat (fR 1 (fP (0+(1:Nat)≤1) (by(first | omega | (simp only [List.length_map];omega))) (fP ((List.map c3 v19).set r1.toNat (List.take (0) (c3 v19[r1.toNat]!)++E2 (AV.i .i64 ((S18 r1.toNat)[(k17+1).toNat]!-1))++List.drop (0+(1:Nat)) (c3 v19[r1.toNat]!))=List.map c3 (v19.set r1.toNat ((S18 r1.toNat)[(k17+1).toNat]!-1))) (by(with_reducible refine A2q ?_;kernel_rfl)) (oR 5 [.sl (List.map c3 (S18 r1.toNat))] (oR 8 (c3 (S18 r1.toNat)[(k17+1).toNat]!) (oV 12 { row:=(c3 v19[r1.toNat]!),rows:=some (List.map c3 (v19.set r1.toNat ((S18 r1.toNat)[(k17+1).toNat]!-1))) } z0)))))))))))))))))) ?_;rotate_left 3
  refine sn<|rG cx [1,2,3,4,6,7,5] [1,2,3,8,5301] (tW 1 (r1+1) z0)<|bN<|sn<|rG cx [1,2,3,4,6,7,5] [1,2,3,8,5301] (tT 1 (B6 (by omega) ?g6:AV.i .i64 (IntKind.i64.wrap (k17+2))=AV.i .i64 (k17+2)) z0) ?_;rotate_left
  refine sn<|nX ((r1+1,k17+2,S18,v19.set r1.toNat ((S18 r1.toNat)[(k17+1).toNat]!-1),c20)) (show((2:Int)*(↑(U r1.toNat).length:Int)-(k17+2)).toNat <((2:Int)*(↑(U r1.toNat).length:Int)-k17).toNat from ?g7) (show B70 U r1 n0 v3 c4 (r1+1) (k17+2) S18 (v19.set r1.toNat ((S18 r1.toNat)[(k17+1).toNat]!-1)) c20 from ?g8);rotate_left 2
  refine rA cx [1,2,3,4,5,6,7] [1,2,3,8,5301] (fA (0≤r1) (fO (r1 <(↑(16:Nat):Int)) (fP ((I0 c3 16 S18)[r1.toNat*(1:Nat)+0]?=some (AV.sl (List.map c3 (S18 r1.toNat)))) (by((try simp only [Nat.mul_one,Nat.add_zero,Nat.zero_add]);with_reducible refine F9 ?_;omega)) (fA (0≤k17) (fG c3 (S18 r1.toNat) k17.toNat (fR 1 (fA (0≤r1) (fO (r1 <(↑(16:Nat):Int)) (fP ((I0 c3 16 S18)[r1.toNat*(1:Nat)+0]?=some (AV.sl (List.map c3 (S18 r1.toNat)))) (by((try simp only [Nat.mul_one,Nat.add_zero,Nat.zero_add]);with_reducible refine F9 ?_;omega)) (tT 15 (B6 (by omega) ?g9:AV.i .i64 (IntKind.i64.wrap (k17+1))=AV.i .i64 (k17+1)) (fO (0≤k17+1) (fG c3 (S18 r1.toNat) ((k17+1).toNat) (fR 1 (tT 18 (B6 ?g10 ?g11:AV.i .i64 (IntKind.i64.wrap ((S18 r1.toNat)[(k17+1).toNat]!-1))=AV.i .i64 ((S18 r1.toNat)[(k17+1).toNat]!-1)) (fR 104 (fR 3 (fR 3 (fX B7 [{ rep:=r1,lo:=(S18 r1.toNat)[k17.toNat]!,hi:=(S18 r1.toNat)[(k17+1).toNat]!-1:Span }] 3 (fP ((List.map B7 c20).length+(List.map B7 [{ rep:=r1,lo:=(S18 r1.toNat)[k17.toNat]!,hi:=(S18 r1.toNat)[(k17+1).toNat]!-1:Span }]).length≤maxLen) ?g12 (fP (((List.map B7 c20).length+(List.map B7 [{ rep:=r1,lo:=(S18 r1.toNat)[k17.toNat]!,hi:=(S18 r1.toNat)[(k17+1).toNat]!-1:Span }]).length)*(24:Nat)≤(140737488355328:Nat)) ?g13 (fM B7 c20 [{ rep:=r1,lo:=(S18 r1.toNat)[k17.toNat]!,hi:=(S18 r1.toNat)[(k17+1).toNat]!-1:Span }] (oR 6 [.sl (List.map c3 (S18 r1.toNat))] (oR 8 (c3 (S18 r1.toNat)[k17.toNat]!) (oR 13 [.sl (List.map c3 (S18 r1.toNat))] (oR 16 (c3 (S18 r1.toNat)[(k17+1).toNat]!) (oV 21 { rows:=some (List.map B7 (c20++[{ rep:=r1,lo:=(S18 r1.toNat)[k17.toNat]!,hi:=(S18 r1.toNat)[(k17+1).toNat]!-1:Span }])) } z0)))))))))))))))))))))))))) ?_;rotate_left 5
  refine bN<|sn<|rG cx [1,2,3,4,5,6,7] [1,2,3,8,5301] (tT 1 (B6 (by omega) ?g14:AV.i .i64 (IntKind.i64.wrap (k17+2))=AV.i .i64 (k17+2)) z0) ?_;rotate_left
  refine sn<|nX ((n16,k17+2,S18,v19,c20++[{ rep:=r1,lo:=(S18 r1.toNat)[k17.toNat]!,hi:=(S18 r1.toNat)[(k17+1).toNat]!-1:Span }])) (show((2:Int)*(↑(U r1.toNat).length:Int)-(k17+2)).toNat <((2:Int)*(↑(U r1.toNat).length:Int)-k17).toNat from ?g15) (show B70 U r1 n0 v3 c4 n16 (k17+2) S18 v19 (c20++[{ rep:=r1,lo:=(S18 r1.toNat)[k17.toNat]!,hi:=(S18 r1.toNat)[(k17+1).toNat]!-1:Span }])from ?g16);rotate_left 2
  refine eX 2<|nE<|nE<|bH<|bN<|sn<|rG cx [1,2,3,4,5,6] [1,2,3,8,5301] (tW 1 (r1+1) z0)<|sn<|nX ((n16,r1+1,S18,v19,c20)) (show(16-(r1+1)).toNat <(16-r1).toNat from(by omega)) (show Bg3 U n16 (r1+1) S18 v19 c20 from ?g17);rotate_left
  refine eX 0<|nE<|nE<|bH<|sn<|sq<|rG cx [2,3] [2,3,8,5301] (fO ((0:Int)≤(0:Int)) (fA (0≤n0) (fP (n0≤(↑(List.map c3 v3).length:Int)) (by(first | omega | (simp only [List.length_map];omega))) (fP ((0:Int) <(↑(List.map c3 v3).length:Int)) (by(first | omega | (simp only [List.length_map];omega))) (fR (some (1)) z0))))) ?_
  refine sn<|sq<|P3 [8,5301] [2,3] [2,3] (σ':=⟨[(2,.ptr (2) (0) (0) (0)),(3,.ptr (3) (0) (0) (0))],[(2,⟨0,26,.var [.nl,.nl]⟩),(3,⟨0,26,.var [.sl (List.take (n0-0).toNat (List.drop (0) (List.map c3 v3))),.sl (List.map B7 c4)]⟩)]⟩) (by kernel_rfl)<|rG cx [2] [2] z0<|sn<|rT<|qR (.agg [.sl (List.take (n0-0).toNat (List.drop (0) (List.map c3 v3))),.sl (List.map B7 c4)]) (.eq ?g18);rotate_left
  rotate_left
  revert n0 r1 S2 v3 c4 hh6 hh7 hh8 hh9 h10 h11 h12 h13 h14 h15;rotate_left
  revert n0 r1 S2 v3 c4 hh6 hh7 hh8 hh9 h10 h11 h12 h13 h14 h15 n16 k17 S18 v19 c20 h22 h23 h24 h25 h26 h27 h28 h29;rotate_left
  revert n0 r1 S2 v3 c4 hh6 hh7 hh8 hh9 h10 h11 h12 h13 h14 h15 n16 k17 S18 v19 c20 h22 h23 h24 h25 h26 h27 h28 h29 h30 h31;rotate_left
  revert n0 r1 S2 v3 c4 hh6 hh7 hh8 hh9 h10 h11 h12 h13 h14 h15 n16 k17 S18 v19 c20 h22 h23 h24 h25 h26 h27 h28 h29 h30 h31;rotate_left
  revert n0 r1 S2 v3 c4 hh6 hh7 hh8 hh9 h10 h11 h12 h13 h14 h15 n16 k17 S18 v19 c20 h22 h23 h24 h25 h26 h27 h28 h29 h30 h31;rotate_left
  revert n0 r1 S2 v3 c4 hh6 hh7 hh8 hh9 h10 h11 h12 h13 h14 h15 n16 k17 S18 v19 c20 h22 h23 h24 h25 h26 h27 h28 h29 h30 h31;rotate_left
  revert n0 r1 S2 v3 c4 hh6 hh7 hh8 hh9 h10 h11 h12 h13 h14 h15 n16 k17 S18 v19 c20 h22 h23 h24 h25 h26 h27 h28 h29 h30 h31;rotate_left
  revert n0 r1 S2 v3 c4 hh6 hh7 hh8 hh9 h10 h11 h12 h13 h14 h15 n16 k17 S18 v19 c20 h22 h23 h24 h25 h26 h27 h28 h29 h30 h31;rotate_left
  revert n0 r1 S2 v3 c4 hh6 hh7 hh8 hh9 h10 h11 h12 h13 h14 h15 n16 k17 S18 v19 c20 h22 h23 h24 h25 h26 h27 h28 h29 h30 h31;rotate_left
  revert n0 r1 S2 v3 c4 hh6 hh7 hh8 hh9 h10 h11 h12 h13 h14 h15 n16 k17 S18 v19 c20 h22 h23 h24 h25 h26 h27 h28 h29 h30 h31;rotate_left
  revert n0 r1 S2 v3 c4 hh6 hh7 hh8 hh9 h10 h11 h12 h13 h14 h15 n16 k17 S18 v19 c20 h22 h23 h24 h25 h26 h27 h28 h29 h30 h31;rotate_left
  revert n0 r1 S2 v3 c4 hh6 hh7 hh8 hh9 h10 h11 h12 h13 h14 h15 n16 k17 S18 v19 c20 h22 h23 h24 h25 h26 h27 h28 h29 h30 h31;rotate_left
  revert n0 r1 S2 v3 c4 hh6 hh7 hh8 hh9 h10 h11 h12 h13 h14 h15 n16 k17 S18 v19 c20 h22 h23 h24 h25 h26 h27 h28 h29 h30 h31;rotate_left
  revert n0 r1 S2 v3 c4 hh6 hh7 hh8 hh9 h10 h11 h12 h13 h14 h15 n16 k17 S18 v19 c20 h22 h23 h24 h25 h26 h27 h28 h29 h30 h31;rotate_left
  revert n0 r1 S2 v3 c4 hh6 hh7 hh8 hh9 h10 h11 h12 h13 h14 h15 n16 k17 S18 v19 c20 h22 h23 h24 h25 h26 h27 h28 h29 h30 h31;rotate_left
  revert n0 r1 S2 v3 c4 hh6 hh7 hh8 hh9 h10 h11 h12 h13 h14 h15 n16 k17 S18 v19 c20 h22 h23 h24 h25 h26 h27 h28 h29 h30 h31;rotate_left
  revert n0 r1 S2 v3 c4 hh6 hh7 hh8 hh9 h10 h11 h12 h13 h14 h15 n16 k17 S18 v19 c20 h22 h23 h24 h25 h26 h27 h28 h29 h30;rotate_left
  revert n0 r1 S2 v3 c4 hh6 hh7 hh8 hh9 h10 h11 h12 h13 h14 h15;rotate_left
  case g0=>exact⟨rfl,by omega,by omega,by omega,by omega,by simp,rfl,by simp [A14,A6m],rfl⟩
  case g1=>intro n r S v c h0 h1 h2 h3 h4 h5 h6 h7 h8 h9;exact⟨h0,by omega,by omega,by omega,by omega,by omega,by omega,B02 h1 h9 h7⟩
  case g18 =>
    intro n r S v c h0 h1 h2 h3 h4 h5 h6 h7 h8 h9
    rw[A85 h2 h9 h6 h7 h8]
    show AV.agg [AV.sl (List.take (n-0).toNat (List.drop 0 (List.map c3 v))),AV.sl (List.map B7 c)]=_
    rw[List.drop_zero,Int.sub_zero,← List.map_take]
    rfl
  all_goals
    intro n r S v c h0 h1 h2 h3 h4 h5 h6 h7 h8 h9 m k X w d k0 k1 k2 k3 k4 k5 k6 k7
    have hs:=hU r.toNat (by omega)
    have hl:=P6 hs
    have hd:=B75 hs h1 h9 h8 k7
    have ht:(tnS U r.toNat).length=2*(U r.toNat).length:=Ad4 _
    subst k0
  case g17 =>
    intro k8
    rw[ht]at k8
    obtain⟨a,b,e⟩:=B74 hs h1 h9 h6 h7 h8 k1 k3 (by omega) k2 k7
    exact⟨rfl,by omega,by omega,by omega,by omega,k4,a,b,e⟩
  case g8 =>
    intro k8 k9
    rw[ht]at k8
    obtain⟨e1,e2⟩:=Ad5 (U:=U) (r:=r) k1 k3 (by omega)
    rw[e1]at k9
    rw[e2,Int.add_sub_cancel]
    exact⟨rfl,by omega,by omega,by omega,by rw[List.length_set];exact k4,by omega,by omega,B73 hs k1 k3 (by omega) k9 k7⟩
  case g16 =>
    intro k8 k9
    rw[ht]at k8
    obtain⟨e1,e2⟩:=Ad5 (U:=U) (r:=r) k1 k3 (by omega)
    rw[e1]at k9
    rw[e1,e2,Int.add_sub_cancel]
    exact⟨rfl,by omega,by omega,by omega,k4,by omega,by omega,B3k k1 k3 (by omega) k9 k7⟩
  all_goals
    first
    | omega
    | (intro k8 k9
       rw[ht]at k8
       obtain⟨e1,e2⟩:=Ad5 (U:=U) (r:=r) k1 k3 (by omega)
       have hb:=hs.2 _ (D6 (l:=U r.toNat) (i:=(k / 2).toNat) (by omega))
       simp only [e2,List.length_map,List.length_cons,List.length_nil,Go.maxLen]
       omega)
end Go.Proofs.YtaiepnaokhpmcaaGreat
namespace Go.Proofs.YtaiepnaokhpmcaaGreat
open Go.E
set_option maxRecDepth 100000
set_option maxHeartbeats 4000000
theorem B9q(p:Past)(hb:p.cloud.length*16≤140737488350000):Con Tryz.prog 100 [.agg (c26 p)] (.agg (c122 (tnS (F3 (B5 [p]))))) :=
 by
 refine sC B1 [.cell 2 122] 6 Tryz.func100 ?_
 intro e0 cx
 refine sq<|rG cx [1,2] [1,2] z0<|sn<|sq<|rG cx [2] [2] (fT (con129 ([p]) ?g0) (oA 2 (.agg (I0 c3 16 (tnS (F3 (B5 [p]))))) z0)) ?_;rotate_left
 refine sn<|rT<|qR (.agg [.sl (List.map c3 (tnS (F3 (B5 [p])) (0))),.sl (List.map c3 (tnS (F3 (B5 [p])) (1))),.sl (List.map c3 (tnS (F3 (B5 [p])) (2))),.sl (List.map c3 (tnS (F3 (B5 [p])) (3))),.sl (List.map c3 (tnS (F3 (B5 [p])) (4))),.sl (List.map c3 (tnS (F3 (B5 [p])) (5))),.sl (List.map c3 (tnS (F3 (B5 [p])) (6))),.sl (List.map c3 (tnS (F3 (B5 [p])) (7))),.sl (List.map c3 (tnS (F3 (B5 [p])) (8))),.sl (List.map c3 (tnS (F3 (B5 [p])) (9))),.sl (List.map c3 (tnS (F3 (B5 [p])) (10))),.sl (List.map c3 (tnS (F3 (B5 [p])) (11))),.sl (List.map c3 (tnS (F3 (B5 [p])) (12))),.sl (List.map c3 (tnS (F3 (B5 [p])) (13))),.sl (List.map c3 (tnS (F3 (B5 [p])) (14))),.sl (List.map c3 (tnS (F3 (B5 [p])) (15)))]) (.eq ?g1);rotate_left
 case g0=>exact(by rw[Ak4];omega)
 case g1=>exact rfl
theorem Bg4(p:Past)(hb:p.cloud.length*16≤140737488350000):Con Tryz.prog 95 [.agg (c26 p)] (.agg (c26 (A5 p))) :=
 by
 refine sC B1 [.cell 2 26] 6 Tryz.func95 ?_
 intro e0 cx
 refine sq<|rG cx [1,2] [1,2] z0<|sn<|sq<|rG cx [2] [2] (fT (B9q (p) (by(with_reducible assumption))) (fT (con109 (F3 (B5 [p])) ?g0) (oA 1 (.agg (I0 c3 16 (tnS (F3 (B5 [p]))))) (oA 2 (.agg [.sl (List.map c3 (H3 (F3 (B5 [p]))).vec),.sl (List.map B7 (H3 (F3 (B5 [p]))).cloud)]) z0)))) ?_;rotate_left
 refine sn<|rT<|qR (.agg [.sl (List.map c3 (H3 (F3 (B5 [p]))).vec),.sl (List.map B7 (H3 (F3 (B5 [p]))).cloud)]) (.eq ?g1);rotate_left
 case g0=>exact(B6i _)
 case g1=>exact(by rw[A87];rfl)
theorem B76(p:Past)(hb:p.cloud.length*16≤140737488350000)(hv:p.vec.length≤9223372036854775807):Con Tryz.prog 84 [.agg (c26 p)] (.b (decide (p=A5 p))) :=
 by
 refine sC B1 [.tmp 2] 7 Tryz.func84 ?_
 intro e0 cx
 refine sq<|rG cx [1] [1] z0<|sn<|sq<|rA cx [2] [] (fT (Bg4 (p) (by(with_reducible assumption))) (fT (Az8 (p) (A5 p) (by(with_reducible assumption)) (by omega)) (oA 2 (.agg [.sl (List.map c3 (A5 p).vec),.sl (List.map B7 (A5 p).cloud)]) (oA 3 (.b (decide (p=A5 p))) z0))))<|sn<|rT ?_
 exact A3f (r:=.b (decide (p=A5 p))) (obl:=[]) (by kernel_rfl) trivial (B8.refl _)
end Go.Proofs.YtaiepnaokhpmcaaGreat
namespace Go.Proofs.YtaiepnaokhpmcaaGreat
open Go.E
set_option maxRecDepth 100000
set_option maxHeartbeats 4000000
def Al6(x y:List Run)(i j:Int)(o:List Run):Prop:=o++T7 (x.drop i.toNat) (y.drop j.toNat)=T7 x y
def B03(x y:List Run)(i j:Int)(o:List Run):Prop:=0≤i∧i≤x.length∧0≤j∧j≤y.length∧(o.length:Int)≤i+j∧Al6 x y i j o
def decMe(x y:List Run)(i j:Int)(o:List Run):Nat:=(x.length-i+(y.length-j)).toNat
theorem B77{a:List Run}{i:Int}(h0:0≤i)(h:i < a.length):a.drop i.toNat=a[i.toNat]! :: a.drop (i+1).toNat:=by
 rw[show(i+1).toNat=i.toNat+1 by omega,getElem!_pos a i.toNat (by omega)]
 exact List.drop_eq_getElem_cons (by omega)
theorem At0{a:List Run}{i:Int}(h:¬ i < a.length):a.drop i.toNat=[]:=List.drop_of_length_le (by omega)
theorem A8n{x y o:List Run}{i j:Int}(h0:0≤i)(hi:i < x.length)(j0:0≤j)(hj:j < y.length)(h:Al6 x y i j o) :
  (o++if max x[i.toNat]!.lo y[j.toNat]!.lo≤min x[i.toNat]!.hi y[j.toNat]!.hi then[⟨max x[i.toNat]!.lo y[j.toNat]!.lo,min x[i.toNat]!.hi y[j.toNat]!.hi⟩]else[]) ++
   (if x[i.toNat]!.hi < y[j.toNat]!.hi then T7 (x.drop (i+1).toNat) (y.drop j.toNat)else T7 (x.drop i.toNat) (y.drop (j+1).toNat))=T7 x y:=by
 unfold Al6 at h
 rw[← h,B77 h0 hi,B77 j0 hj,A0i,List.append_assoc]
theorem me_in1{x y o:List Run}{i j:Int}(h0:0≤i)(hi:i < x.length)(j0:0≤j)(hj:j < y.length)(h:Al6 x y i j o)(c:max x[i.toNat]!.lo y[j.toNat]!.lo≤min x[i.toNat]!.hi y[j.toNat]!.hi)(d:x[i.toNat]!.hi < y[j.toNat]!.hi) :
  Al6 x y (i+1) j (o++[⟨max x[i.toNat]!.lo y[j.toNat]!.lo,min x[i.toNat]!.hi y[j.toNat]!.hi⟩]):=by
 have:=A8n h0 hi j0 hj h
 rw[if_pos c,if_pos d]at this
 exact this
theorem me_in2{x y o:List Run}{i j:Int}(h0:0≤i)(hi:i < x.length)(j0:0≤j)(hj:j < y.length)(h:Al6 x y i j o)(c:max x[i.toNat]!.lo y[j.toNat]!.lo≤min x[i.toNat]!.hi y[j.toNat]!.hi)(d:¬ x[i.toNat]!.hi < y[j.toNat]!.hi) :
  Al6 x y i (j+1) (o++[⟨max x[i.toNat]!.lo y[j.toNat]!.lo,min x[i.toNat]!.hi y[j.toNat]!.hi⟩]):=by
 have:=A8n h0 hi j0 hj h
 rw[if_pos c,if_neg d]at this
 exact this
theorem Bg5{x y o:List Run}{i j:Int}(h0:0≤i)(hi:i < x.length)(j0:0≤j)(hj:j < y.length)(h:Al6 x y i j o)(c:¬ max x[i.toNat]!.lo y[j.toNat]!.lo≤min x[i.toNat]!.hi y[j.toNat]!.hi)(d:x[i.toNat]!.hi < y[j.toNat]!.hi):Al6 x y (i+1) j o:=by
 have:=A8n h0 hi j0 hj h
 rw[if_neg c,if_pos d,List.append_nil]at this
 exact this
theorem Bg6{x y o:List Run}{i j:Int}(h0:0≤i)(hi:i < x.length)(j0:0≤j)(hj:j < y.length)(h:Al6 x y i j o)(c:¬ max x[i.toNat]!.lo y[j.toNat]!.lo≤min x[i.toNat]!.hi y[j.toNat]!.hi)(d:¬ x[i.toNat]!.hi < y[j.toNat]!.hi):Al6 x y i (j+1) o:=by
 have:=A8n h0 hi j0 hj h
 rw[if_neg c,if_neg d,List.append_nil]at this
 exact this
theorem me_end{x y o:List Run}{i j:Int}(hn:¬(i < x.length∧j < y.length))(h:Al6 x y i j o):o=T7 x y:=by
 unfold Al6 at h
 by_cases hi:i < x.length
 ·rw[At0 (a:=y) (i:=j) (fun k=>hn ⟨hi,k⟩),A0h,List.append_nil]at h
  exact h
 ·rw[At0 hi,Q7,List.append_nil]at h
  exact h
theorem B78(x y:List Run):Al6 x y 0 0 []:=rfl
def B0v(n:List Run)(x i:Int)(o:List Run):Prop:=o++A3h x (n.drop i.toNat)=A3h 1 n
def B79(n:List Run)(x i:Int)(o:List Run):Prop:=0≤i∧i≤n.length∧(o.length:Int)≤i∧1≤x∧x≤1000000001∧B0v n x i o
def decOt(n:List Run)(x i:Int)(o:List Run):Nat:=(n.length-i).toNat
theorem ot_in{n o:List Run}{x i:Int}(h0:0≤i)(hi:i < n.length)(h:B0v n x i o)(c:x < n[i.toNat]!.lo):B0v n (n[i.toNat]!.hi+1) (i+1) (o++[⟨x,n[i.toNat]!.lo-1⟩]):=by
 unfold B0v at *
 rw[B77 h0 hi,A3h,if_pos c,← List.append_assoc]at h
 exact h
theorem ot_out{n o:List Run}{x i:Int}(h0:0≤i)(hi:i < n.length)(h:B0v n x i o)(c:¬ x < n[i.toNat]!.lo):B0v n (n[i.toNat]!.hi+1) (i+1) o:=by
 unfold B0v at *
 rw[B77 h0 hi,A3h,if_neg c,List.nil_append]at h
 exact h
theorem Bg7{n o:List Run}{x i:Int}(hi:¬ i < n.length)(h:B0v n x i o)(c:x≤1000000000):o++[⟨x,1000000000⟩]=A3h 1 n:=by
 unfold B0v at h
 rw[At0 hi,A3h,if_pos c]at h
 exact h
theorem Bg8{n o:List Run}{x i:Int}(hi:¬ i < n.length)(h:B0v n x i o)(c:¬ x≤1000000000):o=A3h 1 n:=by
 unfold B0v at h
 rw[At0 hi,A3h,if_neg c,List.append_nil]at h
 exact h
def Bg9(A B:Nat→List Run)(r:Int)(T:Nat→List Run):Prop:=∀ k:Nat,k < 16→T k=if(k:Int) < r then A89 (A k) (B k)else A k
def Bh0(A B:Nat→List Run)(r:Int)(T U:Nat→List Run):Prop:=U=B∧0≤r∧r≤16∧Bg9 A B r T
def decEa(r:Int)(T U:Nat→List Run):Nat:=(16-r).toNat
theorem B7a(A B:Nat→List Run):Bg9 A B 0 A:=fun k _=>by rw[if_neg (by omega)]
theorem ea_at{A B T:Nat→List Run}{r:Int}(h0:0≤r)(h1:r < 16)(h:Bg9 A B r T):T r.toNat=A r.toNat:=by
 rw[h r.toNat (by omega),if_neg (by omega)]
theorem Bh1{A B T:Nat→List Run}{r:Int}(h0:0≤r)(h1:r < 16)(h:Bg9 A B r T):Bg9 A B (r+1) (N0 T r.toNat (A89 (T r.toNat) (B r.toNat))):=by
 intro k hk
 unfold N0
 by_cases e:k=r.toNat
 ·subst e
  rw[if_pos rfl,if_pos (by omega),ea_at h0 h1 h]
 ·rw[if_neg e,h k hk]
  by_cases c:(k:Int) < r
  ·rw[if_pos c,if_pos (by omega)]
  ·rw[if_neg c,if_neg (by omega)]
theorem ea_end{A B T:Nat→List Run}{r:Int}(hr:r≤16)(h1:¬ r < 16)(h:Bg9 A B r T):H3 T=H3 fun k=>A89 (A k) (B k):=A0g fun k hk=>by
 rw[h k hk,if_pos (by omega)]
theorem con184(a b:List Run)(ha:a.length*16≤140737488351232)(hb:b.length*16≤140737488351232):Con Tryz.prog 184 [.sl (a.map c154),.sl (b.map c154)] (.sl ((metR a b).map c154)) :=
 by
 have h1:=P6 (E8 a)
 have h2:=P6 (E8 b)
 refine lN 0 c154 (a) Tryz.func184 fun hl_0=>lN 1 c154 (b) Tryz.func184 fun hl_1=>sC B1 [.tmp 4] 73 Tryz.func184 ?_
 intro e0 cx
 refine sq<|rG cx [0,1] [] z0<|sn<|sq ?_
 have hl_0:=(X1 a)
 have hl_1:=(X1 b)
 refine rG cx [5,6] [] (fT (Ab1 (a) (by(with_reducible assumption))) (fT (Ab1 (b) (by(with_reducible assumption))) (oA 1 (.sl (List.map c154 (nrm a))) (oA 3 (.sl (List.map c154 (nrm b))) z0))))<|sn<|sq<|rG cx [5,6,7] [] z0<|sn<|sq<|sq<|rG cx [5,6,7,8,9] [] z0<|sn<|bL 0<|H8 7 1007 154 2 (σ':=⟨[(5,.sl (List.map c154 (nrm a))),(6,.sl (List.map c154 (nrm b))),(7,.own 1007 0),(8,.i .i64 ((0:Int))),(9,.i .i64 ((0:Int)))],[(1007,⟨0,154,.row 2 (List.map c154 [])⟩)]⟩) (by kernel_rfl)<|sL (X:=Int×Int×List Run) (fun x=>⟨[(5,.sl (List.map c154 (nrm a))),(6,.sl (List.map c154 (nrm b))),(7,.own 1007 0),(8,.i .i64 (x.1)),(9,.i .i64 (x.2.1))],[(1007,⟨0,154,.row 2 (List.map c154 x.2.2)⟩)]⟩) (fun x ↦ decMe (nrm a) (nrm b) x.1 x.2.1 x.2.2) (fun x ↦ B03 (nrm a) (nrm b) x.1 x.2.1 x.2.2) [5,6,7,8,9] [1007] (((0:Int),(0:Int),[])) (show B03 (nrm a) (nrm b) (0:Int) (0:Int) []from(by exact⟨by omega,by omega,by omega,by omega,by simp,B78 _ _⟩)) ?_
 rintro⟨i2,j3,o4⟩ h_5
 obtain⟨h6,h7,h8,h9,h10,h11⟩:0≤i2∧i2≤(↑(nrm a).length:Int)∧0≤j3∧j3≤(↑(nrm b).length:Int)∧(↑o4.length:Int)≤i2+j3∧Al6 (nrm a) (nrm b) i2 j3 o4:=h_5
 refine sq<|sq<|B4 (σ':=⟨[(5,.sl (List.map c154 (nrm a))),(6,.sl (List.map c154 (nrm b))),(7,.own 1007 0),(8,.i .i64 (i2)),(9,.i .i64 (j3)),(24,.b (decide (i2 <(↑(nrm a).length:Int)∧j3 <(↑(nrm b).length:Int))))],[(1007,⟨0,154,.row 2 (List.map c154 o4)⟩)]⟩) ?_ ?_
 refine A4 (i2 <(↑(nrm a).length:Int)) (fun h_13=>?_) (fun h_13=>?_)
 refine rG cx [5,6,7,8,9,24] [1007] (tL 2 c154 (nrm a) (tT 3 (A6 h_13) (tL 7 c154 (nrm b) (tB 8 (j3 <(↑(nrm b).length:Int)) (tD 9 (decide (j3 <(↑(nrm b).length:Int))) (i2 <(↑(nrm a).length:Int)∧j3 <(↑(nrm b).length:Int)) (by simp only [eq_true h_13,tsl]) z0))))) ?_
 exact⟨rfl,by kernel_rfl⟩
 refine rG cx [5,6,7,8,9,24] [1007] (tL 2 c154 (nrm a) (tT 3 (A3 h_13) (tD 9 false (i2 <(↑(nrm a).length:Int)∧j3 <(↑(nrm b).length:Int)) (by simp only [eq_false h_13,tsl]) z0))) ?_
 exact⟨rfl,by kernel_rfl⟩
 refine sn<|dC (i2 <(↑(nrm a).length:Int)∧j3 <(↑(nrm b).length:Int)) (fun h14=>?_) fun h14=>?_
 refine sK<|sn<|bL 1<|sq<|rA cx [5,6,7,8,9,10] [1007,10] (fA (0≤i2) (fG c154 (nrm a) i2.toNat (fR 2 (fA (0≤j3) (fG c154 (nrm b) j3.toNat (fR 2 (tT 10 (A3o:AV.i .i64 (if(nrm b)[j3.toNat]!.lo >(nrm a)[i2.toNat]!.lo then(nrm b)[j3.toNat]!.lo else(nrm a)[i2.toNat]!.lo)=AV.i .i64 (max (nrm a)[i2.toNat]!.lo (nrm b)[j3.toNat]!.lo)) (fA (0≤i2) (fG c154 (nrm a) i2.toNat (fR 2 (fA (0≤j3) (fG c154 (nrm b) j3.toNat (fR 2 (tT 21 (A3p:AV.i .i64 (if(nrm b)[j3.toNat]!.hi <(nrm a)[i2.toNat]!.hi then(nrm b)[j3.toNat]!.hi else(nrm a)[i2.toNat]!.hi)=AV.i .i64 (min (nrm a)[i2.toNat]!.hi (nrm b)[j3.toNat]!.hi)) (oR 2 (c154 (nrm a)[i2.toNat]!) (oR 7 (c154 (nrm b)[j3.toNat]!) (oR 13 (c154 (nrm a)[i2.toNat]!) (oR 18 (c154 (nrm b)[j3.toNat]!) z0))))))))))))))))))<|sn<|sq<|rD cx [5,6,7,8,9,10,52] [1007,10] (zB 4 (max (nrm a)[i2.toNat]!.lo (nrm b)[j3.toNat]!.lo≤min (nrm a)[i2.toNat]!.hi (nrm b)[j3.toNat]!.hi)) (fun h15=>?_) fun h15=>?_
 refine rG cx [5,6,7,8,9] [1007] (fR 154 (fR 2 (fR 2 (fX c154 [{ lo:=max (nrm a)[i2.toNat]!.lo (nrm b)[j3.toNat]!.lo,hi:=min (nrm a)[i2.toNat]!.hi (nrm b)[j3.toNat]!.hi:Run }] 2 (fS c154 o4 c154 [{ lo:=max (nrm a)[i2.toNat]!.lo (nrm b)[j3.toNat]!.lo,hi:=min (nrm a)[i2.toNat]!.hi (nrm b)[j3.toNat]!.hi:Run }] (fP (((List.map c154 o4).length+(List.map c154 [{ lo:=max (nrm a)[i2.toNat]!.lo (nrm b)[j3.toNat]!.lo,hi:=min (nrm a)[i2.toNat]!.hi (nrm b)[j3.toNat]!.hi:Run }]).length)*(16:Nat)≤(140737488355328:Nat)) (by simp only [List.length_map,List.length_cons,List.length_nil];omega) (fM c154 o4 [{ lo:=max (nrm a)[i2.toNat]!.lo (nrm b)[j3.toNat]!.lo,hi:=min (nrm a)[i2.toNat]!.hi (nrm b)[j3.toNat]!.hi:Run }] (oV 3 { rows:=some (List.map c154 (o4++[{ lo:=max (nrm a)[i2.toNat]!.lo (nrm b)[j3.toNat]!.lo,hi:=min (nrm a)[i2.toNat]!.hi (nrm b)[j3.toNat]!.hi:Run }])) } z0)))))))) ?_
 refine sn<|sq<|rA cx [5,6,7,8,9,67] [1007] (fA (0≤i2) (fG c154 (nrm a) i2.toNat (fR 2 (fA (0≤j3) (fG c154 (nrm b) j3.toNat (fR 2 (tB 10 ((nrm a)[i2.toNat]!.hi <(nrm b)[j3.toNat]!.hi) (oR 2 (c154 (nrm a)[i2.toNat]!) (oR 7 (c154 (nrm b)[j3.toNat]!) z0)))))))))<|sn<|dC ((nrm a)[i2.toNat]!.hi <(nrm b)[j3.toNat]!.hi) (fun h16=>?_) fun h16=>?_
 refine rG cx [5,6,7,8,9] [1007] (tW 1 (i2+1) z0)<|bN<|sn<|nX ((i2+1,j3,o4++[{ lo:=max (nrm a)[i2.toNat]!.lo (nrm b)[j3.toNat]!.lo,hi:=min (nrm a)[i2.toNat]!.hi (nrm b)[j3.toNat]!.hi:Run }])) (show((↑(nrm a).length:Int)-(i2+1)+((↑(nrm b).length:Int)-j3)).toNat <((↑(nrm a).length:Int)-i2+((↑(nrm b).length:Int)-j3)).toNat from(by omega)) (show B03 (nrm a) (nrm b) (i2+1) j3 (o4++[{ lo:=max (nrm a)[i2.toNat]!.lo (nrm b)[j3.toNat]!.lo,hi:=min (nrm a)[i2.toNat]!.hi (nrm b)[j3.toNat]!.hi:Run }])from(by exact⟨by omega,by omega,by omega,by omega,by simp only [List.length_append,List.length_cons,List.length_nil];omega,me_in1 h6 h14.1 h8 h14.2 h11 h15 h16⟩))
 refine rG cx [5,6,7,8,9] [1007] (tW 1 (j3+1) z0)<|bN<|sn<|nX ((i2,j3+1,o4++[{ lo:=max (nrm a)[i2.toNat]!.lo (nrm b)[j3.toNat]!.lo,hi:=min (nrm a)[i2.toNat]!.hi (nrm b)[j3.toNat]!.hi:Run }])) (show((↑(nrm a).length:Int)-i2+((↑(nrm b).length:Int)-(j3+1))).toNat <((↑(nrm a).length:Int)-i2+((↑(nrm b).length:Int)-j3)).toNat from(by omega)) (show B03 (nrm a) (nrm b) i2 (j3+1) (o4++[{ lo:=max (nrm a)[i2.toNat]!.lo (nrm b)[j3.toNat]!.lo,hi:=min (nrm a)[i2.toNat]!.hi (nrm b)[j3.toNat]!.hi:Run }])from(by exact⟨by omega,by omega,by omega,by omega,by simp only [List.length_append,List.length_cons,List.length_nil];omega,me_in2 h6 h14.1 h8 h14.2 h11 h15 h16⟩))
 refine sK<|sn<|sq<|rA cx [5,6,7,8,9,67] [1007] (fA (0≤i2) (fG c154 (nrm a) i2.toNat (fR 2 (fA (0≤j3) (fG c154 (nrm b) j3.toNat (fR 2 (tB 10 ((nrm a)[i2.toNat]!.hi <(nrm b)[j3.toNat]!.hi) (oR 2 (c154 (nrm a)[i2.toNat]!) (oR 7 (c154 (nrm b)[j3.toNat]!) z0)))))))))<|sn<|dC ((nrm a)[i2.toNat]!.hi <(nrm b)[j3.toNat]!.hi) (fun h17=>?_) fun h17=>?_
 refine rG cx [5,6,7,8,9] [1007] (tW 1 (i2+1) z0)<|bN<|sn<|nX ((i2+1,j3,o4)) (show((↑(nrm a).length:Int)-(i2+1)+((↑(nrm b).length:Int)-j3)).toNat <((↑(nrm a).length:Int)-i2+((↑(nrm b).length:Int)-j3)).toNat from(by omega)) (show B03 (nrm a) (nrm b) (i2+1) j3 o4 from(by exact⟨by omega,by omega,by omega,by omega,by omega,Bg5 h6 h14.1 h8 h14.2 h11 h15 h17⟩))
 refine rG cx [5,6,7,8,9] [1007] (tW 1 (j3+1) z0)<|bN<|sn<|nX ((i2,j3+1,o4)) (show((↑(nrm a).length:Int)-i2+((↑(nrm b).length:Int)-(j3+1))).toNat <((↑(nrm a).length:Int)-i2+((↑(nrm b).length:Int)-j3)).toNat from(by omega)) (show B03 (nrm a) (nrm b) i2 (j3+1) o4 from(by exact⟨by omega,by omega,by omega,by omega,by omega,Bg6 h6 h14.1 h8 h14.2 h11 h15 h17⟩))
 refine eX 0<|nE<|nE<|bH<|sn<|sq<|rG cx [4] [1007] z0<|sn<|rT<|qR (.sl (List.map c154 o4)) (.eq (by rw[me_end h14 h11];rfl))
theorem con185(n:List Run)(hn:V3 n):Con Tryz.prog 185 [.sl (n.map c154)] (.sl ((A3h 1 n).map c154)) :=
 by
 have h1:=P6 hn
 have hr:∀ i:Int,0≤i→i < n.length→1≤n[i.toNat]!.lo∧n[i.toNat]!.lo≤n[i.toNat]!.hi∧n[i.toNat]!.hi≤1000000000:=fun i h0 h1=>hn.2 _ (D6 (by omega))
 refine lN 0 c154 (n) Tryz.func185 fun hl_0=>sC B1 [.tmp 2] 37 Tryz.func185 ?_
 intro e0 cx
 refine sq<|rG cx [0] [] z0<|sn<|sq<|rG cx [0,3] [] z0<|sn<|sq<|rG cx [0,3,4] [] z0<|sn<|sq<|sq<|rG cx [3,4,7,8,9] [] (tL 1 c154 n z0)<|sn<|bL 0<|H8 3 1003 154 2 (σ':=⟨[(3,.own 1003 0),(4,.i .i64 ((1:Int))),(7,.sl (List.map c154 n)),(8,.i .i64 ((↑n.length:Int))),(9,.i .i64 ((0:Int)))],[(1003,⟨0,154,.row 2 (List.map c154 [])⟩)]⟩) (by kernel_rfl)<|sL (X:=Int×Int×List Run) (fun x=>⟨[(3,.own 1003 0),(4,.i .i64 (x.1)),(7,.sl (List.map c154 n)),(8,.i .i64 ((↑n.length:Int))),(9,.i .i64 (x.2.1))],[(1003,⟨0,154,.row 2 (List.map c154 x.2.2)⟩)]⟩) (fun x ↦ decOt n x.1 x.2.1 x.2.2) (fun x ↦ B79 n x.1 x.2.1 x.2.2) [3,4,7,8,9] [1003] (((1:Int),(0:Int),[])) (show B79 n (1:Int) (0:Int) []from ?g0) ?_;rotate_left
 rintro⟨x0,i1,o2⟩ h_3
 obtain⟨h4,h5,h6,h7,h8,h9⟩:0≤i1∧i1≤(↑n.length:Int)∧(↑o2.length:Int)≤i1∧1≤x0∧x0≤1000000001∧B0v n x0 i1 o2:=h_3
 refine rE cx [3,4,7,8,9,10] [1003] (zB 0 (i1 <(↑n.length:Int))) (fun h10=>?_) fun h10=>?_
 refine sK<|sn<|sq<|bL 1<|sq<|rG cx [3,4,7,8,9,6] [1003,6] (fA (0≤i1) (fG c154 n i1.toNat (fR 2 (fN 2 2 (oR 0 (c154 n[i1.toNat]!) z0)))))<|sn<|sq<|rD cx [3,4,7,8,9,6,16] [1003,6] (zB 3 (x0 < n[i1.toNat]!.lo)) (fun h11=>?_) fun h11=>?_
 refine rG cx [3,7,8,9,6] [1003,6] (tT 4 (B6 (by omega) ?g1:AV.i .i64 (IntKind.i64.wrap (n[i1.toNat]!.lo-1))=AV.i .i64 (n[i1.toNat]!.lo-1)) (fR 154 (fR 2 (fR 2 (fX c154 [{ lo:=x0,hi:=n[i1.toNat]!.lo-1:Run }] 2 (fS c154 o2 c154 [{ lo:=x0,hi:=n[i1.toNat]!.lo-1:Run }] (fP (((List.map c154 o2).length+(List.map c154 [{ lo:=x0,hi:=n[i1.toNat]!.lo-1:Run }]).length)*(16:Nat)≤(140737488355328:Nat)) ?g2 (fM c154 o2 [{ lo:=x0,hi:=n[i1.toNat]!.lo-1:Run }] (oV 7 { rows:=some (List.map c154 (o2++[{ lo:=x0,hi:=n[i1.toNat]!.lo-1:Run }])) } z0))))))))) ?_;rotate_left 2
 refine sn<|rG cx [3,7,8,9,4] [1003] (tT 2 (B6 ?g3 ?g4:AV.i .i64 (IntKind.i64.wrap (n[i1.toNat]!.hi+1))=AV.i .i64 (n[i1.toNat]!.hi+1)) z0) ?_;rotate_left 2
 refine bN<|sn<|rG cx [3,7,8,9,4] [1003] (tW 0 (i1+1) z0)<|sn<|nX ((n[i1.toNat]!.hi+1,i1+1,o2++[{ lo:=x0,hi:=n[i1.toNat]!.lo-1:Run }])) (show((↑n.length:Int)-(i1+1)).toNat <((↑n.length:Int)-i1).toNat from(by omega)) (show B79 n (n[i1.toNat]!.hi+1) (i1+1) (o2++[{ lo:=x0,hi:=n[i1.toNat]!.lo-1:Run }])from ?g5);rotate_left
 refine sK<|sn<|rG cx [3,4,7,8,9] [1003] (tT 2 (B6 ?g6 ?g7:AV.i .i64 (IntKind.i64.wrap (n[i1.toNat]!.hi+1))=AV.i .i64 (n[i1.toNat]!.hi+1)) z0) ?_;rotate_left 2
 refine bN<|sn<|rG cx [3,4,7,8,9] [1003] (tW 0 (i1+1) z0)<|sn<|nX ((n[i1.toNat]!.hi+1,i1+1,o2)) (show((↑n.length:Int)-(i1+1)).toNat <((↑n.length:Int)-i1).toNat from(by omega)) (show B79 n (n[i1.toNat]!.hi+1) (i1+1) o2 from ?g8);rotate_left
 refine eX 0<|nE<|nE<|bH<|sn<|sq<|rD cx [3,4,30] [1003] (zB 1 (x0≤1000000000)) (fun h12=>?_) fun h12=>?_
 refine rG cx [3] [1003] (fR 154 (fR 2 (fR 2 (fX c154 [{ lo:=x0,hi:=(1000000000:Int):Run }] 2 (fP ((List.map c154 o2).length+(List.map c154 [{ lo:=x0,hi:=(1000000000:Int):Run }]).length≤maxLen) ?g9 (fP (((List.map c154 o2).length+(List.map c154 [{ lo:=x0,hi:=(1000000000:Int):Run }]).length)*(16:Nat)≤(140737488355328:Nat)) ?g10 (fM c154 o2 [{ lo:=x0,hi:=(1000000000:Int):Run }] (oV 4 { rows:=some (List.map c154 (o2++[{ lo:=x0,hi:=(1000000000:Int):Run }])) } z0)))))))) ?_;rotate_left 2
 refine sn<|sq<|rG cx [2] [1003] z0<|sn<|rT<|qR (.sl (List.map c154 (o2++[{ lo:=x0,hi:=(1000000000:Int):Run }]))) (.eq ?g11);rotate_left
 refine sK<|sn<|sq<|rG cx [2] [1003] z0<|sn<|rT<|qR (.sl (List.map c154 o2)) (.eq ?g12);rotate_left
 rotate_left
 revert x0 i1 o2 h4 h5 h6 h7 h8 h9 h10 h11;rotate_left
 revert x0 i1 o2 h4 h5 h6 h7 h8 h9 h10 h11;rotate_left
 revert x0 i1 o2 h4 h5 h6 h7 h8 h9 h10 h11;rotate_left
 revert x0 i1 o2 h4 h5 h6 h7 h8 h9 h10 h11;rotate_left
 revert x0 i1 o2 h4 h5 h6 h7 h8 h9 h10 h11;rotate_left
 revert x0 i1 o2 h4 h5 h6 h7 h8 h9 h10 h11;rotate_left
 revert x0 i1 o2 h4 h5 h6 h7 h8 h9 h10 h11;rotate_left
 revert x0 i1 o2 h4 h5 h6 h7 h8 h9 h10 h11;rotate_left
 revert x0 i1 o2 h4 h5 h6 h7 h8 h9 h10 h12;rotate_left
 revert x0 i1 o2 h4 h5 h6 h7 h8 h9 h10 h12;rotate_left
 revert x0 i1 o2 h4 h5 h6 h7 h8 h9 h10 h12;rotate_left
 revert x0 i1 o2 h4 h5 h6 h7 h8 h9 h10 h12;rotate_left
 case g0=>exact⟨by omega,by omega,by simp,by omega,by omega,rfl⟩
 case g5=>intro x i o k0 k1 k2 k3 k4 k5 k6 k7;have:=hr i k0 k6;exact⟨by omega,by omega,by simp only [List.length_append,List.length_cons,List.length_nil];omega,by omega,by omega,ot_in k0 k6 k5 k7⟩
 case g8=>intro x i o k0 k1 k2 k3 k4 k5 k6 k7;have:=hr i k0 k6;exact⟨by omega,by omega,by omega,by omega,by omega,ot_out k0 k6 k5 k7⟩
 case g2=>intro x i o k0 k1 k2 k3 k4 k5 k6 k7;simp only [List.length_map,List.length_cons,List.length_nil];omega
 case g9=>intro x i o k0 k1 k2 k3 k4 k5 k6 k7;simp only [List.length_map,List.length_cons,List.length_nil,Go.maxLen];omega
 case g10=>intro x i o k0 k1 k2 k3 k4 k5 k6 k7;simp only [List.length_map,List.length_cons,List.length_nil];omega
 case g11=>intro x i o k0 k1 k2 k3 k4 k5 k6 k7;rw[Bg7 k6 k5 k7]
 case g12=>intro x i o k0 k1 k2 k3 k4 k5 k6 k7;rw[Bg8 k6 k5 k7]
 all_goals (intro x i o k0 k1 k2 k3 k4 k5 k6 k7;have:=hr i k0 k6;omega)
theorem con150(a b:List Run)(ha:a.length*16≤140737488351232)(hb:b.length*16≤140737488351232):Con Tryz.prog 150 [.sl (a.map c154),.sl (b.map c154)] (.sl ((A89 a b).map c154)) :=
 by
 have h2:=P6 (B2q b)
 refine lN 0 c154 (a) Tryz.func150 fun hl_0=>lN 1 c154 (b) Tryz.func150 fun hl_1=>sC B1 [.tmp 4] 10 Tryz.func150 ?_
 intro e0 cx
 refine sq<|rG cx [0,1] [] z0<|sn<|sq ?_
 have hl_0:=(X1 b)
 refine rG cx [4] [] (fT (Ab1 (b) (by(with_reducible assumption))) (fT (con185 (nrm b) ?g0) (fT (con184 (a) (A3h (1:Int) (nrm b)) (by(with_reducible assumption)) ?g1) (oA 2 (.sl (List.map c154 (nrm b))) (oA 3 (.sl (List.map c154 (A3h (1:Int) (nrm b)))) (oA 4 (.sl (List.map c154 (metR a (A3h (1:Int) (nrm b))))) z0)))))) ?_;rotate_left 2
 refine sn<|rT<|qR (.sl (List.map c154 (metR a (A3h (1:Int) (nrm b))))) (.eq ?g2);rotate_left
 case g0=>exact E8 b
 case g1=>omega
 case g2=>rfl
theorem con149(a b:Past)(ha:a.cloud.length*16≤140737488350000)(hb:b.cloud.length*16≤140737488350000):Con Tryz.prog 149 [.agg (c26 a),.agg (c26 b),.fn (.func 150) [] []] (.agg (c26 (D5 a b))) :=
 by
 refine sC B1 [.cell 6 26] 38 Tryz.func149 ?_
 intro e0 cx
 refine sq<|rG cx [2,3,4,6] [3,4,6] z0<|sn<|sq<|rA cx [2,6,7,8] [6,12,15] (fT (Ab6 ([a]) (by exact As1 ha)) (fT (Ab6 ([b]) (by exact As1 hb)) (oV 2 { val:=some (.ptr ((152:Nat)) (0) (0) (0)),row:=(I0 c154 16 (B5 [a])) } (oV 5 { val:=some (.ptr ((152:Nat)) (0) (0) (0)),row:=(I0 c154 16 (B5 [b])) } z0)))) ?_
 refine sn<|sq<|sq<|rG cx [2,6,7,8,16] [6,12,15] z0<|sn<|bL 0<|sL (X:=Int×(Nat→List Run)×(Nat→List Run)) (fun x=>⟨[(2,.fn (Fn.func (150:FuncId)) [] []),(6,.ptr (6) (0) (0) (0)),(7,.ptr (12) (0) (0) (0)),(8,.ptr (15) (0) (0) (0)),(16,.i .i64 (x.1))],[(6,⟨0,26,.var [.nl,.nl]⟩),(12,⟨0,152,.arr (I0 c154 16 x.2.1)⟩),(15,⟨0,152,.arr (I0 c154 16 x.2.2)⟩)]⟩) (fun x ↦ decEa x.1 x.2.1 x.2.2) (fun x ↦ Bh0 (B5 [a]) (B5 [b]) x.1 x.2.1 x.2.2) [2,6,7,8,16] [6,12,15] (((0:Int),B5 [a],B5 [b])) (show Bh0 (B5 [a]) (B5 [b]) (0:Int) (B5 [a]) (B5 [b])from(by exact⟨rfl,by omega,by omega,B7a _ _⟩)) ?_
 rintro⟨r0,T1,U2⟩ h_3
 obtain⟨h4,h5,h6,h7⟩:U2=B5 [b]∧0≤r0∧r0≤16∧Bg9 (B5 [a]) (B5 [b]) r0 T1:=h_3
 refine rE cx [2,6,7,8,16,17] [6,12,15] (zB 0 (r0 <(16:Int))) (fun h8=>?_) fun h8=>?_
 refine sK<|sn<|sq<|bL 1<|sq<|rG cx [2,6,7,8,16,9] [6,12,15] z0<|sn<|rA cx [2,6,7,8,16] [6,12,15] (fA (0≤r0) (fO (r0 <(↑(16:Nat):Int)) (fP ((I0 c154 16 T1)[r0.toNat*(1:Nat)+0]?=some (AV.sl (List.map c154 (T1 r0.toNat)))) (by((try simp only [Nat.mul_one,Nat.add_zero,Nat.zero_add]);with_reducible refine F9 ?_;omega)) (fA (0≤r0) (fO (r0 <(↑(16:Nat):Int)) (fP ((I0 c154 16 U2)[r0.toNat*(1:Nat)+0]?=some (AV.sl (List.map c154 (U2 r0.toNat)))) (by((try simp only [Nat.mul_one,Nat.add_zero,Nat.zero_add]);with_reducible refine F9 ?_;omega)) (fT (con150 (T1 r0.toNat) (U2 r0.toNat) (by rw[ea_at h5 h8 h7];exact Al0 ha _) (by subst h4;exact Al0 hb _)) (fA (0≤r0) (fO (r0 <(↑(16:Nat):Int)) (fP (r0.toNat*(1:Nat)+0 <(I0 c154 16 T1).length) (by rw[W9];omega) (fR [(E2 (AV.sl (List.map c154 (A89 (T1 r0.toNat) (U2 r0.toNat))))).headD AV.dead] (fP ((I0 c154 16 T1).set (r0.toNat*(1:Nat)+0) ((E2 (AV.sl (List.map c154 (A89 (T1 r0.toNat) (U2 r0.toNat))))).headD AV.dead)=I0 c154 16 (N0 T1 r0.toNat (A89 (T1 r0.toNat) (U2 r0.toNat)))) (by((try simp only [Nat.mul_one,Nat.add_zero,Nat.zero_add]);(with_reducible refine Aa7 ?_);exact Eq.refl _)) (oR 7 [.sl (List.map c154 (T1 r0.toNat))] (oR 12 [.sl (List.map c154 (U2 r0.toNat))] (oA 13 (.sl (List.map c154 (A89 (T1 r0.toNat) (U2 r0.toNat)))) (oV 16 { rows:=some [(I0 c154 16 (N0 T1 r0.toNat (A89 (T1 r0.toNat) (U2 r0.toNat))))] } z0)))))))))))))))) ?_
 refine bN<|sn<|rG cx [2,6,7,8,16] [6,12,15] (tW 0 (r0+1) z0)<|sn<|nX ((r0+1,N0 T1 r0.toNat (A89 (T1 r0.toNat) (U2 r0.toNat)),U2)) (show(16-(r0+1)).toNat <(16-r0).toNat from(by omega)) (show Bh0 (B5 [a]) (B5 [b]) (r0+1) (N0 T1 r0.toNat (A89 (T1 r0.toNat) (U2 r0.toNat))) U2 from(by subst h4;exact⟨rfl,by omega,by omega,Bh1 h5 h8 h7⟩))
 refine eX 0<|nE<|nE<|bH<|sn<|sq<|rG cx [6] [6] (fT (Aq8 (T1) ?g7) (oA 1 (.agg [.sl (List.map c3 (H3 T1).vec),.sl (List.map B7 (H3 T1).cloud)]) z0)) ?_;rotate_left
 refine sn<|rT<|qR (.agg [.sl (List.map c3 (H3 T1).vec),.sl (List.map B7 (H3 T1).cloud)]) (.eq (by rw[ea_end h6 h8 h7];rfl))
 case g7=>revert r0 T1 U2 h4 h5 h6 h7 h8;intro r T U k0 k1 k2 k3 k4 q hq;rw[k3 q hq,if_pos (by omega)];have:=B6l (B5 [a] q) (B5 [b] q);omega
theorem B9r(a b:Past)(ha:a.cloud.length*16≤140737488350000)(hb:b.cloud.length*16≤140737488350000):Con Tryz.prog 104 [.agg (c26 a),.agg (c26 b)] (.agg (c26 (D5 a b))) :=
 by
 refine sC B1 [.cell 4 26] 8 Tryz.func104 ?_
 intro e0 cx
 refine sq<|rG cx [2,3,4] [2,3,4] z0<|sn<|sq<|rG cx [4] [4] (fT (con149 (a) (b) (by(with_reducible assumption)) (by(with_reducible assumption))) (oA 2 (.agg [.sl (List.map c3 (D5 a b).vec),.sl (List.map B7 (D5 a b).cloud)]) z0))<|sn<|rT<|qR (.agg [.sl (List.map c3 (D5 a b).vec),.sl (List.map B7 (D5 a b).cloud)]) (.eq ?g0);rotate_left
 case g0=>exact rfl
theorem Bh2(ps:List Past)(hb:A15 ps*16≤140737488350000):Con Tryz.prog 55 [.sl (ps.map c26)] (.agg (c26 (D3 ps))) :=
 by
 have h2:=fun r=>Q6 r ps
 refine lN 0 c26 (ps) Tryz.func55 fun hl_0=>sC B1 [.cell 2 26] 6 Tryz.func55 ?_
 intro e0 cx
 refine sq<|rG cx [0,2] [2] z0<|sn<|sq<|rG cx [2] [2] (fT (Ab6 (ps) (by omega)) (fT (Aq8 (B5 ps) ?g0) (oV 1 { val:=some (.ptr ((152:Nat)) (0) (0) (0)),row:=(I0 c154 16 (B5 ps)) } (oA 2 (.agg [.sl (List.map c3 (H3 (B5 ps)).vec),.sl (List.map B7 (H3 (B5 ps)).cloud)]) z0)))) ?_;rotate_left
 refine sn<|rT<|qR (.agg [.sl (List.map c3 (H3 (B5 ps)).vec),.sl (List.map B7 (H3 (B5 ps)).cloud)]) (.eq ?g1);rotate_left
 case g0=>intro r hr;have:=h2 r;omega
 case g1=>rfl
end Go.Proofs.YtaiepnaokhpmcaaGreat
namespace Go.Proofs.YtaiepnaokhpmcaaGreat
open Go.E
set_option maxRecDepth 100000
set_option maxHeartbeats 4000000
def Bh3(U:Nat→List Run)(n r:Int)(S:Nat→List Int):Prop:=S=tnS U∧0≤r∧r≤16∧n=sizeT U r.toNat
def decRs(n r:Int)(S:Nat→List Int):Nat:=(16-r).toNat
def Bh4(U:Nat→List Run)(r n0 n k:Int)(S:Nat→List Int):Prop:=S=tnS U∧0≤k∧k≤2*(U r.toNat).length∧2*(k / 2)=k∧n=n0+I2 ((U r.toNat).take (k / 2).toNat)
def decRt(U:Nat→List Run)(r n k:Int)(S:Nat→List Int):Nat:=(2*(U r.toNat).length-k).toNat
theorem B9s{T:Nat→List Run}(r:Nat):nrm (F3 T r)=F3 T r:=Ak5 _
theorem Ad6(T:Nat→List Run):∀ n:Nat,sizeT (F3 T) n=sizeT T n
 | 0=>rfl
 | n+1=>by rw[sizeT,sizeT,Ad6 T n,B9s];rfl
theorem B3l{l:List Run}{k:Int}(h0:0≤k)(he:2*(k / 2)=k)(h:k+1 < 2*l.length):I2 (l.take ((k+2) / 2).toNat)=I2 (l.take (k / 2).toNat)+(l[(k / 2).toNat]!.hi-l[(k / 2).toNat]!.lo+1):=by
 rw[show(k+2) / 2=k / 2+1 by omega]
 exact A6x (by omega) (by omega)
theorem con108(p:Past)(hb:p.cloud.length*16≤140737488350000):Con Tryz.prog 108 [.agg (c26 p)] (.i .i64 (E3 p)) :=
 by
 have hl:∀ r,(F3 (B5 [p]) r).length≤500000000:=fun r=>P6 (E8 _)
 have hz:∀ n,0≤sizeT (F3 (B5 [p])) n∧sizeT (F3 (B5 [p])) n≤n*1000000000:=A1x _
 have hk:∀ r n,0≤I2 ((F3 (B5 [p]) r).take n)∧I2 ((F3 (B5 [p]) r).take n)≤1000000000:=fun r n=>A1w (Ac6 (E8 _) n)
 have hr:∀(r:Nat) (k:Int),0≤k→k+1 < 2*(F3 (B5 [p]) r).length→1≤(F3 (B5 [p]) r)[(k / 2).toNat]!.lo∧(F3 (B5 [p]) r)[(k / 2).toNat]!.lo≤(F3 (B5 [p]) r)[(k / 2).toNat]!.hi∧(F3 (B5 [p]) r)[(k / 2).toNat]!.hi≤1000000000 :=
  fun r k h0 h1=>(E8 _).2 _ (D6 (by have h2:k+1 < 2*(nrm (B5 [p] r)).length:=h1;omega))
 have ht:∀ r,(tnS (F3 (B5 [p])) r).length=2*(F3 (B5 [p]) r).length:=fun r=>Ad4 _
 have hs:=Ad6 (B5 [p])
 have hU:∀ r,nrm (F3 (B5 [p]) r)=F3 (B5 [p]) r:=B9s
 have hP:E3 p=sizeT (F3 (B5 [p])) 16:=(A8f p).trans (hs 16).symm
 clear hs
 refine sC B1 [.tmp 2] 42 Tryz.func108 ?_
 intro e0 cx
 refine sq<|rG cx [1] [1] z0<|sn<|sq<|rG cx [3] [3] (fT (B9q (p) (by(with_reducible assumption))) (oA 1 (.agg (I0 c3 16 (tnS (F3 (B5 [p]))))) z0))<|sn<|sq<|rG cx [3,4] [3] z0<|sn<|sq<|sq<|rG cx [3,4,5] [3] z0<|sn<|bL 0<|N1 3 ⟨0,122,.var [.sl (List.map c3 (tnS (F3 (B5 [p])) (0))),.sl (List.map c3 (tnS (F3 (B5 [p])) (1))),.sl (List.map c3 (tnS (F3 (B5 [p])) (2))),.sl (List.map c3 (tnS (F3 (B5 [p])) (3))),.sl (List.map c3 (tnS (F3 (B5 [p])) (4))),.sl (List.map c3 (tnS (F3 (B5 [p])) (5))),.sl (List.map c3 (tnS (F3 (B5 [p])) (6))),.sl (List.map c3 (tnS (F3 (B5 [p])) (7))),.sl (List.map c3 (tnS (F3 (B5 [p])) (8))),.sl (List.map c3 (tnS (F3 (B5 [p])) (9))),.sl (List.map c3 (tnS (F3 (B5 [p])) (10))),.sl (List.map c3 (tnS (F3 (B5 [p])) (11))),.sl (List.map c3 (tnS (F3 (B5 [p])) (12))),.sl (List.map c3 (tnS (F3 (B5 [p])) (13))),.sl (List.map c3 (tnS (F3 (B5 [p])) (14))),.sl (List.map c3 (tnS (F3 (B5 [p])) (15)))]⟩ [.sl (List.map c3 (tnS (F3 (B5 [p])) (0))),.sl (List.map c3 (tnS (F3 (B5 [p])) (1))),.sl (List.map c3 (tnS (F3 (B5 [p])) (2))),.sl (List.map c3 (tnS (F3 (B5 [p])) (3))),.sl (List.map c3 (tnS (F3 (B5 [p])) (4))),.sl (List.map c3 (tnS (F3 (B5 [p])) (5))),.sl (List.map c3 (tnS (F3 (B5 [p])) (6))),.sl (List.map c3 (tnS (F3 (B5 [p])) (7))),.sl (List.map c3 (tnS (F3 (B5 [p])) (8))),.sl (List.map c3 (tnS (F3 (B5 [p])) (9))),.sl (List.map c3 (tnS (F3 (B5 [p])) (10))),.sl (List.map c3 (tnS (F3 (B5 [p])) (11))),.sl (List.map c3 (tnS (F3 (B5 [p])) (12))),.sl (List.map c3 (tnS (F3 (B5 [p])) (13))),.sl (List.map c3 (tnS (F3 (B5 [p])) (14))),.sl (List.map c3 (tnS (F3 (B5 [p])) (15)))] (I0 c3 16 (tnS (F3 (B5 [p])))) (σ':=⟨[(3,.ptr (3) (0) (0) (0)),(4,.i .i64 ((0:Int))),(5,.i .i64 ((0:Int)))],[(3,⟨0,122,.arr (I0 c3 16 (tnS (F3 (B5 [p]))))⟩)]⟩) (by kernel_rfl) (by kernel_rfl) (by kernel_rfl) (by kernel_rfl) (ZLe.of_eq (by kernel_rfl)) (by kernel_rfl)<|sL (X:=Int×Int×(Nat→List Int)) (fun x=>⟨[(3,.ptr (3) (0) (0) (0)),(4,.i .i64 (x.1)),(5,.i .i64 (x.2.1))],[(3,⟨0,122,.arr (I0 c3 16 x.2.2)⟩)]⟩) (fun x ↦ decRs x.1 x.2.1 x.2.2) (fun x ↦ Bh3 (F3 (B5 [p])) x.1 x.2.1 x.2.2) [3,4,5] [3] (((0:Int),(0:Int),tnS (F3 (B5 [p])))) (show Bh3 (F3 (B5 [p])) (0:Int) (0:Int) (tnS (F3 (B5 [p])))from ?g0) ?_;rotate_left
 rintro⟨n0,r1,S2⟩ h_3
 obtain⟨hh4,h5,hh6,h7⟩:S2=tnS (F3 (B5 [p]))∧0≤r1∧r1≤16∧n0=sizeT (F3 (B5 [p])) r1.toNat:=h_3
 refine sq<|rD cx [3,4,5,10] [3] (zB 1 (r1 <(16:Int))) (fun h8=>?_) fun h8=>?_
 refine sK<|sn<|sq<|bL 1<|sq<|rG cx [3,4,5,6] [3] z0<|sn<|bL 2<|sL (X:=Int×Int×(Nat→List Int)) (fun x=>⟨[(3,.ptr (3) (0) (0) (0)),(4,.i .i64 (x.1)),(5,.i .i64 (r1)),(6,.i .i64 (x.2.1))],[(3,⟨0,122,.arr (I0 c3 16 x.2.2)⟩)]⟩) (fun x ↦ decRt (F3 (B5 [p])) r1 x.1 x.2.1 x.2.2) (fun x ↦ Bh4 (F3 (B5 [p])) r1 n0 x.1 x.2.1 x.2.2) [3,4,5,6] [3] ((n0,(0:Int),S2)) (show Bh4 (F3 (B5 [p])) r1 n0 n0 (0:Int) S2 from ?g1) ?_;rotate_left
 rintro⟨n9,k10,S11⟩ h_12
 obtain⟨h13,h14,h15,h16,h17⟩:S11=tnS (F3 (B5 [p]))∧0≤k10∧k10≤(2:Int)*(↑(F3 (B5 [p]) r1.toNat).length:Int)∧(2:Int)*(k10 / (2:Int))=k10∧n9=n0+I2 (List.take (k10 / (2:Int)).toNat (F3 (B5 [p]) r1.toNat)):=h_12
 refine sq<|sq<|rG cx [3,4,5,6,20] [3] (tT 1 (B6 (by omega) ?g2:AV.i .i64 (IntKind.i64.wrap (k10+1))=AV.i .i64 (k10+1)) (fA (0≤r1) (fO (r1 <(↑(16:Nat):Int)) (fP ((I0 c3 16 S11)[r1.toNat*(1:Nat)+0]?=some (AV.sl (List.map c3 (S11 r1.toNat)))) (by((try simp only [Nat.mul_one,Nat.add_zero,Nat.zero_add]);with_reducible refine F9 ?_;omega)) (tL 6 c3 (S11 r1.toNat) (tB 7 (k10+1 <(↑(S11 r1.toNat).length:Int)) (oR 5 [.sl (List.map c3 (S11 r1.toNat))] z0))))))) ?_;rotate_left
 refine sn<|dC (k10+1 <(↑(S11 r1.toNat).length:Int)) (fun h18=>?_) fun h18=>?_
 refine sK<|sn<|sq<|bL 3<|rA cx [3,4,5,6] [3] (fA (0≤r1) (fO (r1 <(↑(16:Nat):Int)) (fP ((I0 c3 16 S11)[r1.toNat*(1:Nat)+0]?=some (AV.sl (List.map c3 (S11 r1.toNat)))) (by((try simp only [Nat.mul_one,Nat.add_zero,Nat.zero_add]);with_reducible refine F9 ?_;omega)) (tT 6 (B6 (by omega) ?g3:AV.i .i64 (IntKind.i64.wrap (k10+1))=AV.i .i64 (k10+1)) (fO (0≤k10+1) (fG c3 (S11 r1.toNat) ((k10+1).toNat) (fR 1 (fA (0≤r1) (fO (r1 <(↑(16:Nat):Int)) (fP ((I0 c3 16 S11)[r1.toNat*(1:Nat)+0]?=some (AV.sl (List.map c3 (S11 r1.toNat)))) (by((try simp only [Nat.mul_one,Nat.add_zero,Nat.zero_add]);with_reducible refine F9 ?_;omega)) (fA (0≤k10) (fG c3 (S11 r1.toNat) k10.toNat (fR 1 (tT 16 (B6 ?g4 ?g5:AV.i .i64 (IntKind.i64.wrap ((S11 r1.toNat)[(k10+1).toNat]!-(S11 r1.toNat)[k10.toNat]!))=AV.i .i64 ((S11 r1.toNat)[(k10+1).toNat]!-(S11 r1.toNat)[k10.toNat]!)) (tT 17 (B6 ?g6 ?g7:AV.i .i64 (IntKind.i64.wrap (n9+((S11 r1.toNat)[(k10+1).toNat]!-(S11 r1.toNat)[k10.toNat]!)))=AV.i .i64 (n9+((S11 r1.toNat)[(k10+1).toNat]!-(S11 r1.toNat)[k10.toNat]!))) (oR 4 [.sl (List.map c3 (S11 r1.toNat))] (oR 7 (c3 (S11 r1.toNat)[(k10+1).toNat]!) (oR 12 [.sl (List.map c3 (S11 r1.toNat))] (oR 14 (c3 (S11 r1.toNat)[k10.toNat]!) z0))))))))))))))))))) ?_;rotate_left 5
 refine bN<|sn<|rG cx [3,4,5,6] [3] (tT 1 (B6 (by omega) ?g8:AV.i .i64 (IntKind.i64.wrap (k10+2))=AV.i .i64 (k10+2)) z0) ?_;rotate_left
 refine sn<|nX ((n9+((S11 r1.toNat)[(k10+1).toNat]!-(S11 r1.toNat)[k10.toNat]!),k10+2,S11)) (show((2:Int)*(↑(F3 (B5 [p]) r1.toNat).length:Int)-(k10+2)).toNat <((2:Int)*(↑(F3 (B5 [p]) r1.toNat).length:Int)-k10).toNat from ?g9) (show Bh4 (F3 (B5 [p])) r1 n0 (n9+((S11 r1.toNat)[(k10+1).toNat]!-(S11 r1.toNat)[k10.toNat]!)) (k10+2) S11 from ?g10);rotate_left 2
 refine eX 2<|nE<|nE<|bH<|bN<|sn<|rG cx [3,4,5] [3] (tW 1 (r1+1) z0)<|sn<|nX ((n9,r1+1,S11)) (show(16-(r1+1)).toNat <(16-r1).toNat from(by omega)) (show Bh3 (F3 (B5 [p])) n9 (r1+1) S11 from ?g11);rotate_left
 refine eX 0<|nE<|nE<|bH<|sn<|sq<|rG cx [2] [] z0<|sn<|rT<|qR (.i .i64 (n0)) (.eq ?g12);rotate_left
 rotate_left
 revert n0 r1 S2 hh4 h5 hh6 h7 h8;rotate_left
 revert n0 r1 S2 hh4 h5 hh6 h7 h8 n9 k10 S11 h13 h14 h15 h16 h17;rotate_left
 revert n0 r1 S2 hh4 h5 hh6 h7 h8 n9 k10 S11 h13 h14 h15 h16 h17 h18;rotate_left
 revert n0 r1 S2 hh4 h5 hh6 h7 h8 n9 k10 S11 h13 h14 h15 h16 h17 h18;rotate_left
 revert n0 r1 S2 hh4 h5 hh6 h7 h8 n9 k10 S11 h13 h14 h15 h16 h17 h18;rotate_left
 revert n0 r1 S2 hh4 h5 hh6 h7 h8 n9 k10 S11 h13 h14 h15 h16 h17 h18;rotate_left
 revert n0 r1 S2 hh4 h5 hh6 h7 h8 n9 k10 S11 h13 h14 h15 h16 h17 h18;rotate_left
 revert n0 r1 S2 hh4 h5 hh6 h7 h8 n9 k10 S11 h13 h14 h15 h16 h17 h18;rotate_left
 revert n0 r1 S2 hh4 h5 hh6 h7 h8 n9 k10 S11 h13 h14 h15 h16 h17 h18;rotate_left
 revert n0 r1 S2 hh4 h5 hh6 h7 h8 n9 k10 S11 h13 h14 h15 h16 h17 h18;rotate_left
 revert n0 r1 S2 hh4 h5 hh6 h7 h8 n9 k10 S11 h13 h14 h15 h16 h17 h18;rotate_left
 revert n0 r1 S2 hh4 h5 hh6 h7 h8;rotate_left
 all_goals generalize F3 (B5 [p])=U at *
 case g0=>exact⟨rfl,by omega,by omega,rfl⟩
 case g1=>intro n r S h0 h1 h2 h3 h4;exact⟨h0,by omega,by omega,by omega,by simp [I2]⟩
 case g2=>intro n r S h0 h1 h2 h3 h4 m k R k0 k1 k2 k3 k4;have:=hl r.toNat;omega
 case g3=>intro n r S h0 h1 h2 h3 h4 m k R k0 k1 k2 k3 k4 k5;have:=hl r.toNat;omega
 case g4 =>
  intro n r S h0 h1 h2 h3 h4 m k R k0 k1 k2 k3 k4 k5
  subst k0;rw[ht]at k5
  have:=Ad5 (U:=U) (r:=r) k1 k3 (by omega);have:=hr r.toNat k k1 (by omega);omega
 case g5 =>
  intro n r S h0 h1 h2 h3 h4 m k R k0 k1 k2 k3 k4 k5
  subst k0;rw[ht]at k5
  have:=Ad5 (U:=U) (r:=r) k1 k3 (by omega);have:=hr r.toNat k k1 (by omega);omega
 case g6 =>
  intro n r S h0 h1 h2 h3 h4 m k R k0 k1 k2 k3 k4 k5
  subst k0;rw[ht]at k5
  have:=Ad5 (U:=U) (r:=r) k1 k3 (by omega);have:=hr r.toNat k k1 (by omega)
  have:=hz r.toNat;have:=hk r.toNat (k / 2).toNat;omega
 case g7 =>
  intro n r S h0 h1 h2 h3 h4 m k R k0 k1 k2 k3 k4 k5
  subst k0;rw[ht]at k5
  have:=Ad5 (U:=U) (r:=r) k1 k3 (by omega);have:=hr r.toNat k k1 (by omega)
  have:=hz r.toNat;have:=hk r.toNat (k / 2).toNat;omega
 case g8=>intro n r S h0 h1 h2 h3 h4 m k R k0 k1 k2 k3 k4 k5;have:=hl r.toNat;omega
 case g9=>intro n r S h0 h1 h2 h3 h4 m k R k0 k1 k2 k3 k4 k5;subst k0;rw[ht]at k5;omega
 case g10 =>
  intro n r S h0 h1 h2 h3 h4 m k R k0 k1 k2 k3 k4 k5
  subst k0;rw[ht]at k5
  have h6:=Ad5 (U:=U) (r:=r) k1 k3 (by omega)
  refine⟨rfl,by omega,by omega,by omega,?_⟩
  rw[B3l k1 k3 (by omega)]
  omega
 case g11 =>
  intro n r S h0 h1 h2 h3 h4 m k R k0 k1 k2 k3 k4 k5
  subst k0;rw[ht]at k5
  refine⟨rfl,by omega,by omega,?_⟩
  rw[show(r+1).toNat=r.toNat+1 by omega,sizeT,hU,k4,h3,List.take_of_length_le (by omega)]
 case g12=>intro n r S h0 h1 h2 h3 h4;rw[h3,hP,show r.toNat=16 by omega]
theorem con59(p:Past)(hb:p.cloud.length*16≤140737488350000):Con Tryz.prog 59 [.agg (c26 p)] (.b (decide (E3 p=0))) :=
 by
 refine sC B1 [.tmp 2] 6 Tryz.func59 ?_
 intro e0 cx
 refine sq<|rG cx [1] [1] z0<|sn<|sq<|rG cx [2] [] (fT (con108 (p) (by(with_reducible assumption))) (tB 2 (E3 p=0) (oA 1 (.i .i64 (E3 p)) z0)))<|sn<|rT ?_
 exact A3f (r:=.b (decide (E3 p=0))) (obl:=[]) (by kernel_rfl) trivial (B8.refl _)
end Go.Proofs.YtaiepnaokhpmcaaGreat
namespace Go.Proofs.YtaiepnaokhpmcaaGreat
open Go.E
set_option maxRecDepth 100000
set_option maxHeartbeats 4000000
def Al7(x y:Past)(r:Int)(u:List Int)(c:List Span)(v:List Int)(d:List Span):Prop:=u=x.vec∧c=x.cloud∧v=y.vec∧d=y.cloud∧0≤r∧r≤16∧Ah3 x.vec y.vec r
def decRc(r:Int)(u:List Int)(c:List Span)(v:List Int)(d:List Span):Nat:=(16-r).toNat
def Bh5(x y:Past)(i:Int)(u:List Int)(c:List Span)(v:List Int)(d:List Span):Prop:=c=x.cloud∧d=y.cloud∧0≤i∧i≤x.cloud.length∧i≤y.cloud.length∧O3 x.cloud y.cloud=O3 (x.cloud.drop i.toNat) (y.cloud.drop i.toNat)
def decRd2(x:Past)(i:Int)(u:List Int)(c:List Span)(v:List Int)(d:List Span):Nat:=(x.cloud.length-i).toNat
theorem A4v(a b:Int):Con Tryz.prog 196 [.i .i64 a,.i .i64 b] (.i .i64 (J0 a b)) :=
 by
 refine sC B1 [.tmp 4] 11 Tryz.func196 ?_
 intro e0 cx
 refine sq<|rG cx [0,1] [] z0<|sn<|sq<|rD cx [0,1,7] [] (zB 2 (a < b)) (fun h0=>?_) fun h0=>?_
 refine sq<|rG cx [4] [] z0<|sn<|rT<|nR<|qR (.i .i64 ((-1:Int))) (.eq (by unfold J0;rw[if_pos h0]))
 refine sK<|sn<|sq<|rD cx [10] [] (zB 2 (b < a)) (fun h1=>?_) fun h1=>?_
 refine sq<|rG cx [4] [] z0<|sn<|rT<|nR<|qR (.i .i64 ((1:Int))) (.eq (by unfold J0;rw[if_neg h0,if_pos h1]))
 refine sK<|sn<|sq<|rG cx [4] [] z0<|sn<|rT<|qR (.i .i64 ((0:Int))) (.eq (by unfold J0;rw[if_neg h0,if_neg h1]))
theorem con164(p q:Past)(hb:p.cloud.length*16≤140737488350000)(hq:q.cloud.length*16≤140737488350000):Con Tryz.prog 164 [.agg (c26 p),.agg (c26 q)] (.i .i64 (Ac0 p q)) :=
 by
 have D:∀ {r:Int} {u v:List Int},u=(A5 p).vec→v=(A5 q).vec→0≤r→r < 16→∀ {a b:Int},u[r.toNat]! = a→v[r.toNat]! = b→¬ a=b→Ah3 (A5 p).vec (A5 q).vec r→J0 a b=Ac0 p q:=by
  intro r u v e1 e3 h0 h1 a b ha hb hn h
  rw[e1]at ha
  rw[e3]at hb
  have e:=B2z h0 h1 (by rw[ha,hb];exact hn) h
  rw[ha,hb]at e
  exact(B9d e (A16 hn)).symm
 have N:∀ {r:Int} {u v:List Int} {c d:List Span},u=(A5 p).vec→c=(A5 p).cloud→v=(A5 q).vec→d=(A5 q).cloud→0≤r→r < 16→∀ {a b:Int},u[r.toNat]! = a→v[r.toNat]! = b→¬ ¬ a=b→Ah3 (A5 p).vec (A5 q).vec r→Al7 (A5 p) (A5 q) (r+1) u c v d:=by
  intro r u v c d e1 e2 e3 e4 h0 h1 a b ha hb hn h
  have e:=B30 h0 h1 (by rw[← e1,← e3,ha,hb];exact Classical.not_not.1 hn) h
  exact⟨e1,e2,e3,e4,e.1,e.2.1,e.2.2⟩
 have S1:∀ {s t:Span},¬ s.rep=t.rep→J0 s.rep t.rep=A1t s t:=fun {s t} h=>by unfold A1t;rw[if_pos (A16 h)]
 have S2:∀ {s t:Span},s.rep=t.rep→¬ s.lo=t.lo→J0 s.lo t.lo=A1t s t:=fun {s t} h0 h=>by unfold A1t;rw[if_neg (fun k=>k (J4.2 h0)),if_pos (A16 h)]
 have S3:∀ {s t:Span},s.rep=t.rep→s.lo=t.lo→J0 s.hi t.hi=A1t s t:=fun {s t} h0 h=>by unfold A1t;rw[if_neg (fun k=>k (J4.2 h0)),if_neg (fun k=>k (J4.2 h))]
 have E:∀ {i z:Int} {c d:List Span},c=(A5 p).cloud→d=(A5 q).cloud→0≤i→(i < c.length∧i < d.length)→O3 (A5 p).cloud (A5 q).cloud=O3 ((A5 p).cloud.drop i.toNat) ((A5 q).cloud.drop i.toNat)→A8c (A5 p).vec (A5 q).vec 0 16=0→¬ z=0→z=A1t c[i.toNat]! d[i.toNat]!→z=Ac0 p q:=by
  intro i z c d e1 e2 h0 hl h hf hz e
  rw[e1,e2]at hl e
  rw[A8d hf,B2w h0 hl.1 hl.2 (by rw[← e];exact hz) h]
  exact e
 refine sC B1 [.tmp 4] 106 Tryz.func164 ?_
 intro e0 cx
 refine sq<|rG cx [2,3] [2,3] z0<|sn<|sq<|rG cx [2,3] [2,3] (fT (Bg4 (p) (by(with_reducible assumption))) (oA 1 (.agg [.sl (List.map c3 (A5 p).vec),.sl (List.map B7 (A5 p).cloud)]) z0))<|sn<|sq<|rG cx [2,3] [2,3] (fT (Bg4 (q) (by(with_reducible assumption))) (oA 1 (.agg [.sl (List.map c3 (A5 q).vec),.sl (List.map B7 (A5 q).cloud)]) z0))<|sn<|sq<|sq<|rG cx [2,3,5] [2,3] z0<|sn<|bL 0<|sL (X:=Int×List Int×List Span×List Int×List Span) (fun x=>⟨[(2,.ptr (2) (0) (0) (0)),(3,.ptr (3) (0) (0) (0)),(5,.i .i64 (x.1))],[(2,⟨0,26,.var [.sl (List.map c3 x.2.1),.sl (List.map B7 x.2.2.1)]⟩),(3,⟨0,26,.var [.sl (List.map c3 x.2.2.2.1),.sl (List.map B7 x.2.2.2.2)]⟩)]⟩) (fun x ↦ decRc x.1 x.2.1 x.2.2.1 x.2.2.2.1 x.2.2.2.2) (fun x ↦ Al7 (A5 p) (A5 q) x.1 x.2.1 x.2.2.1 x.2.2.2.1 x.2.2.2.2) [2,3,5] [2,3] (((0:Int),(A5 p).vec,(A5 p).cloud,(A5 q).vec,(A5 q).cloud)) (show Al7 (A5 p) (A5 q) (0:Int) (A5 p).vec (A5 p).cloud (A5 q).vec (A5 q).cloud from(by exact⟨Eq.refl _,Eq.refl _,Eq.refl _,Eq.refl _,by omega,by omega,Eq.refl _⟩)) ?_
 rintro⟨r0,u1,c2,v3,d4⟩ h_5
 obtain⟨h6,h7,h8,h9,h10,h11,h12⟩:u1=(A5 p).vec∧c2=(A5 p).cloud∧v3=(A5 q).vec∧d4=(A5 q).cloud∧0≤r0∧r0≤16∧Ah3 (A5 p).vec (A5 q).vec r0:=h_5
 refine sq<|rD cx [2,3,5,16] [2,3] (zB 1 (r0 <(16:Int))) (fun h13=>?_) fun h13=>?_
 refine sK<|sn<|sq<|bL 1<|sq<|rG cx [2,3,5,6,7] [2,3] z0<|sn<|sq<|rD cx [2,3,5,6,7,23] [2,3] (tL 3 c3 u1 (zB 4 (r0 <(↑u1.length:Int)))) (fun h14=>?_) fun h14=>?_
 refine rG cx [2,3,5,6,7] [2,3] (fA (0≤r0) (fG c3 u1 r0.toNat (fR 1 (oR 3 (c3 u1[r0.toNat]!) z0))))<|sn<|sq<|rD cx [2,3,5,6,7,33] [2,3] (tL 3 c3 v3 (zB 4 (r0 <(↑v3.length:Int)))) (fun h15=>?_) fun h15=>?_
 refine rG cx [2,3,5,6,7] [2,3] (fA (0≤r0) (fG c3 v3 r0.toNat (fR 1 (oR 3 (c3 v3[r0.toNat]!) z0))))<|sn<|sq<|rG cx [2,3,5,6,7,41] [2,3] (tN 2 u1[r0.toNat]! v3[r0.toNat]! z0)<|sn<|dC (¬u1[r0.toNat]! = v3[r0.toNat]!) (fun h16=>?_) fun h16=>?_
 refine sq<|rG cx [4] [] (fT (A4v (u1[r0.toNat]!) (v3[r0.toNat]!)) (oA 2 (.i .i64 (J0 u1[r0.toNat]! v3[r0.toNat]!)) z0))<|sn<|rT<|bR<|nR<|nR<|bR<|nR<|qR (.i .i64 (J0 u1[r0.toNat]! v3[r0.toNat]!)) (.eq (by exact congrArg (AV.i .i64) (D h6 h8 h10 h13 (Eq.refl _) (Eq.refl _) h16 h12)))
 refine sK<|bN<|sn<|rG cx [2,3,5] [2,3] (tW 1 (r0+1) z0)<|sn<|nX ((r0+1,u1,c2,v3,d4)) (show(16-(r0+1)).toNat <(16-r0).toNat from(by omega)) (show Al7 (A5 p) (A5 q) (r0+1) u1 c2 v3 d4 from(by exact N h6 h7 h8 h9 h10 h13 (Eq.refl _) (Eq.refl _) h16 h12))
 refine sK<|sn<|sq<|rG cx [2,3,5,6,7,41] [2,3] (tN 2 u1[r0.toNat]! (0:Int) z0)<|sn<|dC (¬u1[r0.toNat]! =(0:Int)) (fun h17=>?_) fun h17=>?_
 refine sq<|rG cx [4] [] (fT (A4v (u1[r0.toNat]!) ((0:Int))) (oA 2 (.i .i64 (J0 u1[r0.toNat]! (0:Int))) z0))<|sn<|rT<|bR<|nR<|nR<|bR<|nR<|qR (.i .i64 (J0 u1[r0.toNat]! (0:Int))) (.eq (by exact congrArg (AV.i .i64) (D h6 h8 h10 h13 (Eq.refl _) (O6 h10 h15) h17 h12)))
 refine sK<|bN<|sn<|rG cx [2,3,5] [2,3] (tW 1 (r0+1) z0)<|sn<|nX ((r0+1,u1,c2,v3,d4)) (show(16-(r0+1)).toNat <(16-r0).toNat from(by omega)) (show Al7 (A5 p) (A5 q) (r0+1) u1 c2 v3 d4 from(by exact N h6 h7 h8 h9 h10 h13 (Eq.refl _) (O6 h10 h15) h17 h12))
 refine sK<|sn<|sq<|rD cx [2,3,5,6,7,33] [2,3] (tL 3 c3 v3 (zB 4 (r0 <(↑v3.length:Int)))) (fun h18=>?_) fun h18=>?_
 refine rG cx [2,3,5,6,7] [2,3] (fA (0≤r0) (fG c3 v3 r0.toNat (fR 1 (oR 3 (c3 v3[r0.toNat]!) z0))))<|sn<|sq<|rG cx [2,3,5,6,7,41] [2,3] (tN 2 (0:Int) v3[r0.toNat]! z0)<|sn<|dC (¬0=v3[r0.toNat]!) (fun h19=>?_) fun h19=>?_
 refine sq<|rG cx [4] [] (fT (A4v ((0:Int)) (v3[r0.toNat]!)) (oA 2 (.i .i64 (J0 (0:Int) v3[r0.toNat]!)) z0))<|sn<|rT<|bR<|nR<|nR<|bR<|nR<|qR (.i .i64 (J0 (0:Int) v3[r0.toNat]!)) (.eq (by exact congrArg (AV.i .i64) (D h6 h8 h10 h13 (O6 h10 h14) (Eq.refl _) h19 h12)))
 refine sK<|bN<|sn<|rG cx [2,3,5] [2,3] (tW 1 (r0+1) z0)<|sn<|nX ((r0+1,u1,c2,v3,d4)) (show(16-(r0+1)).toNat <(16-r0).toNat from(by omega)) (show Al7 (A5 p) (A5 q) (r0+1) u1 c2 v3 d4 from(by exact N h6 h7 h8 h9 h10 h13 (O6 h10 h14) (Eq.refl _) h19 h12))
 refine sK<|sn<|sq<|rG cx [2,3,5,6,7,41] [2,3] z0<|sn<|W7 (by kernel_rfl) (by kernel_rfl)<|sK<|bN<|sn<|rG cx [2,3,5] [2,3] (tW 1 (r0+1) z0)<|sn<|nX ((r0+1,u1,c2,v3,d4)) (show(16-(r0+1)).toNat <(16-r0).toNat from(by omega)) (show Al7 (A5 p) (A5 q) (r0+1) u1 c2 v3 d4 from(by exact N h6 h7 h8 h9 h10 h13 (O6 h10 h14) (O6 h10 h18) (fun k=>k (Eq.refl _)) h12))
 refine eX 0<|nE<|nE<|bH<|sn<|sq<|sq<|rG cx [2,3,8] [2,3] z0<|sn<|bL 2<|sL (X:=Int×List Int×List Span×List Int×List Span) (fun x=>⟨[(2,.ptr (2) (0) (0) (0)),(3,.ptr (3) (0) (0) (0)),(8,.i .i64 (x.1))],[(2,⟨0,26,.var [.sl (List.map c3 x.2.1),.sl (List.map B7 x.2.2.1)]⟩),(3,⟨0,26,.var [.sl (List.map c3 x.2.2.2.1),.sl (List.map B7 x.2.2.2.2)]⟩)]⟩) (fun x ↦ decRd2 (A5 p) x.1 x.2.1 x.2.2.1 x.2.2.2.1 x.2.2.2.2) (fun x ↦ Bh5 (A5 p) (A5 q) x.1 x.2.1 x.2.2.1 x.2.2.2.1 x.2.2.2.2) [2,3,8] [2,3] (((0:Int),u1,c2,v3,d4)) (show Bh5 (A5 p) (A5 q) (0:Int) u1 c2 v3 d4 from(by exact⟨h7,h9,by omega,by omega,by omega,Eq.refl _⟩)) ?_
 rintro⟨i20,u21,c22,v23,d24⟩ h_25
 obtain⟨h26,h27,h28,h29,h30,h31⟩:c22=(A5 p).cloud∧d24=(A5 q).cloud∧0≤i20∧i20≤(↑(A5 p).cloud.length:Int)∧i20≤(↑(A5 q).cloud.length:Int)∧O3 (A5 p).cloud (A5 q).cloud=O3 (List.drop i20.toNat (A5 p).cloud) (List.drop i20.toNat (A5 q).cloud):=h_25
 refine sq<|sq<|B4 (σ':=⟨[(2,.ptr (2) (0) (0) (0)),(3,.ptr (3) (0) (0) (0)),(8,.i .i64 (i20)),(56,.b (decide (i20 <(↑c22.length:Int)∧i20 <(↑d24.length:Int))))],[(2,⟨0,26,.var [.sl (List.map c3 u21),.sl (List.map B7 c22)]⟩),(3,⟨0,26,.var [.sl (List.map c3 v23),.sl (List.map B7 d24)]⟩)]⟩) ?_ ?_
 refine A4 (i20 <(↑c22.length:Int)) (fun h_33=>?_) (fun h_33=>?_)
 refine rG cx [2,3,8,56] [2,3] (tL 3 B7 c22 (tT 4 (A6 h_33) (tL 9 B7 d24 (tB 10 (i20 <(↑d24.length:Int)) (tD 11 (decide (i20 <(↑d24.length:Int))) (i20 <(↑c22.length:Int)∧i20 <(↑d24.length:Int)) (by simp only [eq_true h_33,tsl]) z0))))) ?_
 exact⟨rfl,by kernel_rfl⟩
 refine rG cx [2,3,8,56] [2,3] (tL 3 B7 c22 (tT 4 (A3 h_33) (tD 11 false (i20 <(↑c22.length:Int)∧i20 <(↑d24.length:Int)) (by simp only [eq_false h_33,tsl]) z0))) ?_
 exact⟨rfl,by kernel_rfl⟩
 refine sn<|dC (i20 <(↑c22.length:Int)∧i20 <(↑d24.length:Int)) (fun h34=>?_) fun h34=>?_
 refine sK<|sn<|sq<|bL 3<|sq<|rA cx [2,3,8,9,10] [2,3,9,10] (fA (0≤i20) (fG B7 c22 i20.toNat (fR 3 (fN 3 3 (fA (0≤i20) (fG B7 d24 i20.toNat (fR 3 (fN 3 3 (oR 3 (B7 c22[i20.toNat]!) (oR 8 (B7 d24[i20.toNat]!) z0))))))))))<|sn<|sq<|sq<|rG cx [2,3,8,9,10,73] [2,3,9,10] (tN 4 c22[i20.toNat]!.rep d24[i20.toNat]!.rep z0)<|sn<|dC (¬c22[i20.toNat]!.rep=d24[i20.toNat]!.rep) (fun h35=>?_) fun h35=>?_
 refine sq<|rG cx [4] [] (fT (A4v (c22[i20.toNat]!.rep) (d24[i20.toNat]!.rep)) (oA 4 (.i .i64 (J0 c22[i20.toNat]!.rep d24[i20.toNat]!.rep)) z0))<|sn<|rT<|nR<|bR<|nR<|nR<|bR<|nR<|qR (.i .i64 (J0 c22[i20.toNat]!.rep d24[i20.toNat]!.rep)) (.eq ?g9);rotate_left
 refine sK<|sn<|sq<|sq<|rG cx [2,3,8,9,10,83] [2,3,9,10] (tN 4 c22[i20.toNat]!.lo d24[i20.toNat]!.lo z0)<|sn<|dC (¬c22[i20.toNat]!.lo=d24[i20.toNat]!.lo) (fun h36=>?_) fun h36=>?_
 refine sq<|rG cx [4] [] (fT (A4v (c22[i20.toNat]!.lo) (d24[i20.toNat]!.lo)) (oA 4 (.i .i64 (J0 c22[i20.toNat]!.lo d24[i20.toNat]!.lo)) z0))<|sn<|rT<|nR<|bR<|nR<|nR<|bR<|nR<|qR (.i .i64 (J0 c22[i20.toNat]!.lo d24[i20.toNat]!.lo)) (.eq ?g10);rotate_left
 refine sK<|sn<|sq<|rG cx [2,3,8,9,10,93] [2,3,9,10] (tN 4 c22[i20.toNat]!.hi d24[i20.toNat]!.hi z0)<|sn<|dC (¬c22[i20.toNat]!.hi=d24[i20.toNat]!.hi) (fun h37=>?_) fun h37=>?_
 refine sq<|rG cx [4] [] (fT (A4v (c22[i20.toNat]!.hi) (d24[i20.toNat]!.hi)) (oA 4 (.i .i64 (J0 c22[i20.toNat]!.hi d24[i20.toNat]!.hi)) z0))<|sn<|rT<|bR<|nR<|nR<|bR<|nR<|qR (.i .i64 (J0 c22[i20.toNat]!.hi d24[i20.toNat]!.hi)) (.eq ?g11);rotate_left
 refine sK<|bN<|sn<|rG cx [2,3,8] [2,3] (tT 1 (B6 (by omega) (by have:=(N5 (B5 [p])).1;have h29:i20≤((H3 (B5 [p])).cloud.length:Int):=h29;omega):AV.i .i64 (IntKind.i64.wrap (i20+1))=AV.i .i64 (i20+1)) z0) ?_
 refine sn<|nX ((i20+1,u21,c22,v23,d24)) (show((↑(A5 p).cloud.length:Int)-(i20+1)).toNat <((↑(A5 p).cloud.length:Int)-i20).toNat from ?g13) (show Bh5 (A5 p) (A5 q) (i20+1) u21 c22 v23 d24 from ?g14);rotate_left 2
 refine eX 2<|nE<|nE<|bH<|sn<|sq<|rG cx [4] [] (tL 2 B7 c22 (tL 5 B7 d24 (fT (A4v ((↑c22.length:Int)) ((↑d24.length:Int))) (oA 6 (.i .i64 (J0 (↑c22.length:Int) (↑d24.length:Int))) z0))))<|sn<|rT<|qR (.i .i64 (J0 (↑c22.length:Int) (↑d24.length:Int))) (.eq ?g15);rotate_left
 case g9 =>
  exact congrArg (AV.i .i64) (E h26 h27 h28 h34 h31 (Ac3 h11 h13 h12) (A16 h35) (S1 h35))
 case g10 =>
  exact congrArg (AV.i .i64) (E h26 h27 h28 h34 h31 (Ac3 h11 h13 h12) (A16 h36) (S2 (Classical.not_not.1 h35) h36))
 case g11 =>
  exact congrArg (AV.i .i64) (E h26 h27 h28 h34 h31 (Ac3 h11 h13 h12) (A16 h37) (S3 (Classical.not_not.1 h35) (Classical.not_not.1 h36)))
 case g13 =>
  rw[h26]at h34
  generalize (A5 p).cloud.length=L at *
  omega
 case g14 =>
  have k6':=h34
  rw[h26,h27]at k6'
  have e:A1t c22[i20.toNat]! d24[i20.toNat]! = 0:=by rw[← S3 (Classical.not_not.1 h35) (Classical.not_not.1 h36)];exact J4.2 (Classical.not_not.1 h37)
  rw[h26,h27]at e
  have:=B2x h28 k6'.1 k6'.2 e h31
  exact⟨h26,h27,this.1,this.2.1,this.2.2.1,this.2.2.2⟩
 case g15 =>
  rw[h26,h27]at h34 ⊢
  refine congrArg (AV.i .i64) ?_
  rw[A8d (Ac3 h11 h13 h12)]
  by_cases a:i20 <((A5 p).cloud.length:Int)
  ·have b:¬ i20 <((A5 q).cloud.length:Int):=fun b=>h34 ⟨a,b⟩
   rw[B2t h28 a b h31]
   unfold J0
   rw[if_neg (by omega),if_pos (by omega)]
  ·by_cases b:i20 <((A5 q).cloud.length:Int)
   ·rw[B2u h28 a b h31]
    unfold J0
    rw[if_pos (by omega)]
   ·rw[B2v a b h31]
    unfold J0
    rw[if_neg (by omega),if_neg (by omega)]
end Go.Proofs.YtaiepnaokhpmcaaGreat
namespace Go.Proofs.YtaiepnaokhpmcaaGreat
open Go.E
set_option maxRecDepth 100000
set_option maxHeartbeats 4000000
def dLt(a b:Dot):Bool:=decide (a.rep < b.rep∨a.rep=b.rep∧a.num < b.num)
def R8(e:Entry):Int:=if e.dot.rep < 0∨16≤e.dot.rep then 3 else if e.dot.num < 1∨1000000000 < e.dot.num then 2 else if U0 e.sku=false then 5 else if e.qty < 1∨1000000 < e.qty then 6 else 0
def B0w(es:List Entry)(i:Nat):Bool:=decide (R8 es[i]! = 0) && (decide (i=0) || dLt es[i-1]!.dot es[i]!.dot)
def okL(es:List Entry):Bool:=Ak9 (B0w es) es.length
def E5(es:List Entry):Int:=if okL es=true then 0 else 1
def Bh6(es:List Entry)(i:Int):Prop:=0≤i∧i≤es.length∧∀ j:Nat,(j:Int) < i→B0w es j=true
def decL(es:List Entry)(i:Int):Nat:=(es.length-i).toNat
theorem A8o{es:List Entry}{i:Nat}(hi:i < es.length)(h:B0w es i=false):E5 es=1:=by
 unfold E5 okL
 rw[if_neg]
 intro k
 have:=(K2 _ _).1 k i hi
 rw[h]at this;cases this
theorem B3m{es:List Entry}(h:∀ j:Nat,j < es.length→B0w es j=true):E5 es=0:=by
 unfold E5 okL
 rw[if_pos ((K2 _ _).2 h)]
def dec30i{α:Type}(es:List α)(i:Int):Nat:=(es.length-i).toNat
theorem X6(es:List Entry)(i:Nat):B0w es i=true↔R8 es[i]! = 0∧(i=0∨dLt es[i-1]!.dot es[i]!.dot=true):=by
 unfold B0w
 rw[Bool.and_eq_true,Bool.or_eq_true,decide_eq_true_iff,decide_eq_true_iff]
theorem Ad7{es:List Entry}{i:Int}(h0:0≤i)(h1:i < es.length)(h2:∀ j:Nat,(j:Int) < i→B0w es j=true)(h:B0w es i.toNat=true):Bh6 es (i+1) :=
 ⟨by omega,by omega,fun j hj=>by
  by_cases e:j=i.toNat
  ·rw[e];exact h
  ·exact h2 j (by omega)⟩
theorem A8p{es:List Entry}{i:Nat}(h:¬ B0w es i=true):B0w es i=false:=by simpa using h
theorem At1(e:Entry):Con Tryz.prog 111 [.agg (c45 e)] (.i .i64 (R8 e)) :=
 by
 refine sC B1 [.tmp 2] 39 Tryz.func111 ?_
 intro e0 cx
 refine sq<|rG cx [1] [1] z0<|sn<|sq<|bL 0<|sq<|B4 (σ':=⟨[(1,.ptr (1) (0) (0) (0)),(3,.b (decide (e.dot.rep <(0:Int)∨16≤e.dot.rep)))],[(1,⟨0,45,.var [.i .i64 (e.dot.rep),.i .i64 (e.dot.num),.s (e.sku),.i .i64 (e.qty)]⟩)]⟩) ?_ ?_
 refine A4 (e.dot.rep <(0:Int)) (fun h_1=>?_) (fun h_1=>?_)
 refine rG cx [1,3] [1] (tT 3 (A6 h_1) (tD 10 true (e.dot.rep <(0:Int)∨16≤e.dot.rep) (by simp only [eq_true h_1,tsl]) z0)) ?_
 exact⟨rfl,by kernel_rfl⟩
 refine rG cx [1,3] [1] (tT 3 (A3 h_1) (tB 8 (16≤e.dot.rep) (tD 10 (decide (16≤e.dot.rep)) (e.dot.rep <(0:Int)∨16≤e.dot.rep) (by simp only [eq_false h_1,tsl]) z0))) ?_
 exact⟨rfl,by kernel_rfl⟩
 refine sn<|dC (e.dot.rep <(0:Int)∨16≤e.dot.rep) (fun h2=>?_) fun h2=>?_
 refine sq<|rG cx [2] [] z0<|sn<|rT<|bR<|nR<|qR (.i .i64 ((3:Int))) (.eq ?g0);rotate_left
 refine sq<|B4 (σ':=⟨[(1,.ptr (1) (0) (0) (0)),(14,.b (decide (e.dot.num <(1:Int)∨(1000000000:Int) < e.dot.num)))],[(1,⟨0,45,.var [.i .i64 (e.dot.rep),.i .i64 (e.dot.num),.s (e.sku),.i .i64 (e.qty)]⟩)]⟩) ?_ ?_
 refine A4 (e.dot.num <(1:Int)) (fun h_4=>?_) (fun h_4=>?_)
 refine rG cx [1,14] [1] (tT 3 (A6 h_4) (tD 10 true (e.dot.num <(1:Int)∨(1000000000:Int) < e.dot.num) (by simp only [eq_true h_4,tsl]) z0)) ?_
 exact⟨rfl,by kernel_rfl⟩
 refine rG cx [1,14] [1] (tT 3 (A3 h_4) (tB 8 ((1000000000:Int) < e.dot.num) (tD 10 (decide ((1000000000:Int) < e.dot.num)) (e.dot.num <(1:Int)∨(1000000000:Int) < e.dot.num) (by simp only [eq_false h_4,tsl]) z0))) ?_
 exact⟨rfl,by kernel_rfl⟩
 refine sn<|dC (e.dot.num <(1:Int)∨(1000000000:Int) < e.dot.num) (fun h5=>?_) fun h5=>?_
 refine sq<|rG cx [2] [] z0<|sn<|rT<|bR<|nR<|qR (.i .i64 ((2:Int))) (.eq ?g1);rotate_left
 refine sq<|rG cx [1,25] [1] (fT (B34 (e.sku)) (tT 3 (D0:(AV.b !U0 e.sku)=AV.b (decide ¬U0 e.sku=true)) (oA 2 (.b (U0 e.sku)) z0)))<|sn<|dC (¬U0 e.sku=true) (fun h6=>?_) fun h6=>?_
 refine sq<|rG cx [2] [] z0<|sn<|rT<|bR<|nR<|qR (.i .i64 ((5:Int))) (.eq ?g2);rotate_left
 refine sq<|B4 (σ':=⟨[(30,.b (decide (e.qty <(1:Int)∨(1000000:Int) < e.qty)))],[]⟩) ?_ ?_
 refine A4 (e.qty <(1:Int)) (fun h_8=>?_) (fun h_8=>?_)
 refine rG cx [30] [] (tT 2 (A6 h_8) (tD 8 true (e.qty <(1:Int)∨(1000000:Int) < e.qty) (by simp only [eq_true h_8,tsl]) z0)) ?_
 exact⟨rfl,by kernel_rfl⟩
 refine rG cx [30] [] (tT 2 (A3 h_8) (tB 6 ((1000000:Int) < e.qty) (tD 8 (decide ((1000000:Int) < e.qty)) (e.qty <(1:Int)∨(1000000:Int) < e.qty) (by simp only [eq_false h_8,tsl]) z0))) ?_
 exact⟨rfl,by kernel_rfl⟩
 refine sn<|dC (e.qty <(1:Int)∨(1000000:Int) < e.qty) (fun h9=>?_) fun h9=>?_
 refine sq<|rG cx [2] [] z0<|sn<|rT<|bR<|nR<|qR (.i .i64 ((6:Int))) (.eq ?g3);rotate_left
 refine sK<|bN<|sn<|sq<|rG cx [2] [] z0<|sn<|rT<|qR (.i .i64 ((0:Int))) (.eq ?g4);rotate_left
 revert h2;rotate_left
 revert h2 h5;rotate_left
 revert h2 h5 h6;rotate_left
 revert h2 h5 h6 h9;rotate_left
 revert h2 h5 h6 h9;rotate_left
 case' g4=>refine(fun h k l m=>?_)
 case' g3=>refine(fun h k l m=>?_)
 case' g2=>refine(fun h k l=>?_)
 case' g1=>refine(fun h k=>?_)
 case' g0=>refine(fun h=>?_)
 all_goals (unfold R8)
 ·rw[if_pos h]
 ·rw[if_neg h,if_pos k]
 ·rw[if_neg h,if_neg k,if_pos (by simpa using l)]
 ·rw[if_neg h,if_neg k,if_neg (by simpa using l),if_pos m]
 ·rw[if_neg h,if_neg k,if_neg (by simpa using l),if_neg m]
theorem con77(e:Entry):Con Tryz.prog 77 [.agg (c45 e)] (.i .i64 (R8 e)) :=
 by
 refine sC B1 [.tmp 2] 39 Tryz.func77 ?_
 intro e0 cx
 refine sq<|rG cx [1] [1] z0<|sn<|sq<|bL 0<|sq<|B4 (σ':=⟨[(1,.ptr (1) (0) (0) (0)),(3,.b (decide (e.dot.rep <(0:Int)∨16≤e.dot.rep)))],[(1,⟨0,45,.var [.i .i64 (e.dot.rep),.i .i64 (e.dot.num),.s (e.sku),.i .i64 (e.qty)]⟩)]⟩) ?_ ?_
 refine A4 (e.dot.rep <(0:Int)) (fun h_1=>?_) (fun h_1=>?_)
 refine rG cx [1,3] [1] (tT 3 (A6 h_1) (tD 10 true (e.dot.rep <(0:Int)∨16≤e.dot.rep) (by simp only [eq_true h_1,tsl]) z0)) ?_
 exact⟨rfl,by kernel_rfl⟩
 refine rG cx [1,3] [1] (tT 3 (A3 h_1) (tB 8 (16≤e.dot.rep) (tD 10 (decide (16≤e.dot.rep)) (e.dot.rep <(0:Int)∨16≤e.dot.rep) (by simp only [eq_false h_1,tsl]) z0))) ?_
 exact⟨rfl,by kernel_rfl⟩
 refine sn<|dC (e.dot.rep <(0:Int)∨16≤e.dot.rep) (fun h2=>?_) fun h2=>?_
 refine sq<|rG cx [2] [] z0<|sn<|rT<|bR<|nR<|qR (.i .i64 ((3:Int))) (.eq ?g0);rotate_left
 refine sq<|B4 (σ':=⟨[(1,.ptr (1) (0) (0) (0)),(14,.b (decide (e.dot.num <(1:Int)∨(1000000000:Int) < e.dot.num)))],[(1,⟨0,45,.var [.i .i64 (e.dot.rep),.i .i64 (e.dot.num),.s (e.sku),.i .i64 (e.qty)]⟩)]⟩) ?_ ?_
 refine A4 (e.dot.num <(1:Int)) (fun h_4=>?_) (fun h_4=>?_)
 refine rG cx [1,14] [1] (tT 3 (A6 h_4) (tD 10 true (e.dot.num <(1:Int)∨(1000000000:Int) < e.dot.num) (by simp only [eq_true h_4,tsl]) z0)) ?_
 exact⟨rfl,by kernel_rfl⟩
 refine rG cx [1,14] [1] (tT 3 (A3 h_4) (tB 8 ((1000000000:Int) < e.dot.num) (tD 10 (decide ((1000000000:Int) < e.dot.num)) (e.dot.num <(1:Int)∨(1000000000:Int) < e.dot.num) (by simp only [eq_false h_4,tsl]) z0))) ?_
 exact⟨rfl,by kernel_rfl⟩
 refine sn<|dC (e.dot.num <(1:Int)∨(1000000000:Int) < e.dot.num) (fun h5=>?_) fun h5=>?_
 refine sq<|rG cx [2] [] z0<|sn<|rT<|bR<|nR<|qR (.i .i64 ((2:Int))) (.eq ?g1);rotate_left
 refine sq<|rG cx [1,25] [1] (fT (B9m (e.sku)) (tT 3 (D0:(AV.b !U0 e.sku)=AV.b (decide ¬U0 e.sku=true)) (oA 2 (.b (U0 e.sku)) z0)))<|sn<|dC (¬U0 e.sku=true) (fun h6=>?_) fun h6=>?_
 refine sq<|rG cx [2] [] z0<|sn<|rT<|bR<|nR<|qR (.i .i64 ((5:Int))) (.eq ?g2);rotate_left
 refine sq<|B4 (σ':=⟨[(30,.b (decide (e.qty <(1:Int)∨(1000000:Int) < e.qty)))],[]⟩) ?_ ?_
 refine A4 (e.qty <(1:Int)) (fun h_8=>?_) (fun h_8=>?_)
 refine rG cx [30] [] (tT 2 (A6 h_8) (tD 8 true (e.qty <(1:Int)∨(1000000:Int) < e.qty) (by simp only [eq_true h_8,tsl]) z0)) ?_
 exact⟨rfl,by kernel_rfl⟩
 refine rG cx [30] [] (tT 2 (A3 h_8) (tB 6 ((1000000:Int) < e.qty) (tD 8 (decide ((1000000:Int) < e.qty)) (e.qty <(1:Int)∨(1000000:Int) < e.qty) (by simp only [eq_false h_8,tsl]) z0))) ?_
 exact⟨rfl,by kernel_rfl⟩
 refine sn<|dC (e.qty <(1:Int)∨(1000000:Int) < e.qty) (fun h9=>?_) fun h9=>?_
 refine sq<|rG cx [2] [] z0<|sn<|rT<|bR<|nR<|qR (.i .i64 ((6:Int))) (.eq ?g3);rotate_left
 refine sK<|bN<|sn<|sq<|rG cx [2] [] z0<|sn<|rT<|qR (.i .i64 ((0:Int))) (.eq ?g4);rotate_left
 revert h2;rotate_left
 revert h2 h5;rotate_left
 revert h2 h5 h6;rotate_left
 revert h2 h5 h6 h9;rotate_left
 revert h2 h5 h6 h9;rotate_left
 case' g4=>refine(fun h k l m=>?_)
 case' g3=>refine(fun h k l m=>?_)
 case' g2=>refine(fun h k l=>?_)
 case' g1=>refine(fun h k=>?_)
 case' g0=>refine(fun h=>?_)
 all_goals (unfold R8)
 ·rw[if_pos h]
 ·rw[if_neg h,if_pos k]
 ·rw[if_neg h,if_neg k,if_pos (by simpa using l)]
 ·rw[if_neg h,if_neg k,if_neg (by simpa using l),if_pos m]
 ·rw[if_neg h,if_neg k,if_neg (by simpa using l),if_neg m]
theorem B9t(a b:Dot):Con Tryz.prog 112 [.agg (c43 a),.agg (c43 b)] (.b (dLt a b)) :=
 by
 refine sC B1 [.tmp 4] 24 Tryz.func112 ?_
 intro e0 cx
 refine sq<|rG cx [2,3] [2,3] z0<|sn<|sq<|B4 (σ':=⟨[(4,.b (decide (a.rep < b.rep∨a.rep=b.rep∧a.num < b.num)))],[]⟩) ?_ ?_
 refine A4 (a.rep < b.rep) (fun h_1=>?_) (fun h_1=>?_)
 refine rG cx [4] [] (tT 4 (A6 h_1) (tD 19 true (a.rep < b.rep∨a.rep=b.rep∧a.num < b.num) (by simp only [eq_true h_1,tsl]) z0)) ?_
 exact⟨rfl,by kernel_rfl⟩
 refine A4 (a.rep=b.rep) (fun h_2=>?_) (fun h_2=>?_)
 refine rG cx [4] [] (tT 4 (A3 h_1) (tT 10 (A6 h_2) (tB 16 (a.num < b.num) (tD 19 (decide (a.num < b.num)) (a.rep < b.rep∨a.rep=b.rep∧a.num < b.num) (by simp only [eq_false h_1,eq_true h_2,tsl]) z0)))) ?_
 exact⟨rfl,by kernel_rfl⟩
 refine rG cx [4] [] (tT 4 (A3 h_1) (tT 10 (A3 h_2) (tD 19 false (a.rep < b.rep∨a.rep=b.rep∧a.num < b.num) (by simp only [eq_false h_1,eq_false h_2,tsl]) z0))) ?_
 exact⟨rfl,by kernel_rfl⟩
 refine sn<|rT<|qR (.b (decide (a.rep < b.rep∨a.rep=b.rep∧a.num < b.num))) (.eq ?g0);rotate_left
 case g0=>exact rfl
theorem con78(a b:Dot):Con Tryz.prog 78 [.agg (c43 a),.agg (c43 b)] (.b (dLt a b)) :=
 by
 refine sC B1 [.tmp 4] 24 Tryz.func78 ?_
 intro e0 cx
 refine sq<|rG cx [2,3] [2,3] z0<|sn<|sq<|B4 (σ':=⟨[(4,.b (decide (a.rep < b.rep∨a.rep=b.rep∧a.num < b.num)))],[]⟩) ?_ ?_
 refine A4 (a.rep < b.rep) (fun h_1=>?_) (fun h_1=>?_)
 refine rG cx [4] [] (tT 4 (A6 h_1) (tD 19 true (a.rep < b.rep∨a.rep=b.rep∧a.num < b.num) (by simp only [eq_true h_1,tsl]) z0)) ?_
 exact⟨rfl,by kernel_rfl⟩
 refine A4 (a.rep=b.rep) (fun h_2=>?_) (fun h_2=>?_)
 refine rG cx [4] [] (tT 4 (A3 h_1) (tT 10 (A6 h_2) (tB 16 (a.num < b.num) (tD 19 (decide (a.num < b.num)) (a.rep < b.rep∨a.rep=b.rep∧a.num < b.num) (by simp only [eq_false h_1,eq_true h_2,tsl]) z0)))) ?_
 exact⟨rfl,by kernel_rfl⟩
 refine rG cx [4] [] (tT 4 (A3 h_1) (tT 10 (A3 h_2) (tD 19 false (a.rep < b.rep∨a.rep=b.rep∧a.num < b.num) (by simp only [eq_false h_1,eq_false h_2,tsl]) z0))) ?_
 exact⟨rfl,by kernel_rfl⟩
 refine sn<|rT<|qR (.b (decide (a.rep < b.rep∨a.rep=b.rep∧a.num < b.num))) (.eq ?g0);rotate_left
 case g0=>exact rfl
theorem A4w(es:List Entry):Con Tryz.prog 65 [.sl (es.map c45)] (.i .i64 (E5 es)) :=
 by
 have e:∀ {i:Int},0≤i→(i-1).toNat=i.toNat-1:=fun {i} h=>by omega
 refine lN 0 c45 (es) Tryz.func65 fun hl_0=>sC B1 [.tmp 2] 32 Tryz.func65 ?_
 intro e0 cx
 refine sq<|rG cx [0] [] z0<|sn<|sq<|sq<|rG cx [0,5,6,7] [] (tL 1 c45 es z0)<|sn<|bL 0<|sL (X:=Int) (fun x=>⟨[(0,.sl (List.map c45 es)),(5,.sl (List.map c45 es)),(6,.i .i64 ((↑es.length:Int))),(7,.i .i64 (x))],[]⟩) (fun x ↦ decL es x) (fun x ↦ Bh6 es x) [0,5,6,7] [] ((0:Int)) (show Bh6 es (0:Int)from ?g0) ?_;rotate_left
 intro i0 h_1
 obtain⟨hh2,hh3,hh4⟩:0≤i0∧i0≤(↑es.length:Int)∧∀(j:Nat),(↑j:Int) < i0→B0w es j=true:=h_1
 refine rE cx [0,5,6,7,8] [] (zB 0 (i0 <(↑es.length:Int))) (fun hh5=>?_) fun hh5=>?_
 refine sK<|sn<|sq<|bL 1<|sq<|rG cx [0,5,6,7,4,3] [4] (fA (0≤i0) (fG c45 es i0.toNat (fR 4 (fN 4 4 (oR 1 (c45 es[i0.toNat]!) z0)))))<|sn<|sq<|B4 (σ':=⟨[(0,.sl (List.map c45 es)),(5,.sl (List.map c45 es)),(6,.i .i64 ((↑es.length:Int))),(7,.i .i64 (i0)),(30,.b (decide (¬R8 es[i0.toNat]! =(0:Int)∨(0:Int) < i0∧¬dLt es[(i0-1).toNat]!.dot es[i0.toNat]!.dot=true)))],[]⟩) ?_ ?_
 refine A4 (¬R8 es[i0.toNat]! =(0:Int)) (fun h_7=>?_) (fun h_7=>?_)
 refine rA cx [0,5,6,7,30] [] (fT (At1 (es[i0.toNat]!)) (tT 2 (C4 h_7:AV.b (R8 es[i0.toNat]! !=0)=AV.b true) (tD 18 true (¬R8 es[i0.toNat]! =(0:Int)∨(0:Int) < i0∧¬dLt es[(i0-1).toNat]!.dot es[i0.toNat]!.dot=true) (by simp only [eq_false h_7,tsl]) (oA 1 (.i .i64 (R8 es[i0.toNat]!)) z0)))) ?_
 exact⟨rfl,by kernel_rfl⟩
 refine A4 ((0:Int) < i0) (fun h_8=>?_) (fun h_8=>?_)
 refine rA cx [0,5,6,7,30] [] (fT (At1 (es[i0.toNat]!)) (tN 2 (R8 es[i0.toNat]!) (0:Int) (tT 3 (A3 h_7) (tT 5 (A6 h_8) (tW 9 (i0-1) (fO (0≤i0-1) (fG c45 es ((i0-1).toNat) (fR 4 (fN 2 4 (fT (B9t (es[(i0-1).toNat]!.dot) (es[i0.toNat]!.dot)) (tT 16 (D0:(AV.b !dLt es[(i0-1).toNat]!.dot es[i0.toNat]!.dot)=AV.b (decide ¬dLt es[(i0-1).toNat]!.dot es[i0.toNat]!.dot=true)) (tT 18 (by first | (simp only [eq_false h_7,eq_true h_8,tsl];done) | simp_all:AV.b (decide ¬dLt es[(i0-1).toNat]!.dot es[i0.toNat]!.dot=true)=AV.b (decide (¬R8 es[i0.toNat]! =(0:Int)∨(0:Int) < i0∧¬dLt es[(i0-1).toNat]!.dot es[i0.toNat]!.dot=true))) (oA 1 (.i .i64 (R8 es[i0.toNat]!)) (oR 10 (c45 es[(i0-1).toNat]!) (oA 15 (.b (dLt es[(i0-1).toNat]!.dot es[i0.toNat]!.dot)) z0))))))))))))))) ?_
 exact⟨rfl,by kernel_rfl⟩
 refine rA cx [0,5,6,7,30] [] (fT (At1 (es[i0.toNat]!)) (tN 2 (R8 es[i0.toNat]!) (0:Int) (tT 3 (A3 h_7) (tT 5 (A3 h_8) (tT 18 (by first | (simp only [eq_false h_7,eq_false h_8,tsl];done) | simp_all:AV.b false=AV.b (decide (¬R8 es[i0.toNat]! =(0:Int)∨(0:Int) < i0∧¬dLt es[(i0-1).toNat]!.dot es[i0.toNat]!.dot=true))) (oA 1 (.i .i64 (R8 es[i0.toNat]!)) z0)))))) ?_
 exact⟨rfl,by kernel_rfl⟩
 refine sn<|dC (¬R8 es[i0.toNat]! =(0:Int)∨(0:Int) < i0∧¬dLt es[(i0-1).toNat]!.dot es[i0.toNat]!.dot=true) (fun h9=>?_) fun h9=>?_
 refine sq<|rG cx [2] [] z0<|sn<|rT<|bR<|nR<|nR<|bR<|nR<|qR (.i .i64 ((1:Int))) (.eq ?g1);rotate_left
 refine sK<|bN<|sn<|rG cx [0,5,6,7] [] (tW 0 (i0+1) z0)<|sn<|nX (i0+1) (show((↑es.length:Int)-(i0+1)).toNat <((↑es.length:Int)-i0).toNat from(by omega)) (show Bh6 es (i0+1)from ?g2);rotate_left
 refine eX 0<|nE<|nE<|bH<|sn<|sq<|rG cx [2] [] z0<|sn<|rT<|qR (.i .i64 ((0:Int))) (.eq ?g3);rotate_left
 rotate_left
 revert i0 hh2 hh3 hh4 hh5 h9;rotate_left
 revert i0 hh2 hh3 hh4 hh5 h9;rotate_left
 revert i0 hh2 hh3 hh4 hh5;rotate_left
 case g0=>exact⟨by omega,by omega,fun j hj=>by omega⟩
 case' g3=>refine(fun i h0 h1 h2 h3=>?_)
 case' g2=>refine(fun i h0 h1 h2 h3 h4=>?_)
 case' g1=>refine(fun i h0 h1 h2 h3 h4=>?_)
 ·rw[A8o (i:=i.toNat) (by omega) (A8p _)]
  rw[e h0]at h4
  rw[X6];rintro⟨a,b⟩
  rcases h4 with h4 | ⟨h4,h5⟩
  ·exact h4 a
  ·rcases b with b | b
   ·omega
   ·exact h5 b
 ·rw[e h0]at h4
  refine Ad7 h0 h3 h2 ((X6 _ _).2 ⟨Classical.byContradiction fun a=>h4 (.inl a),?_⟩)
  by_cases c:i.toNat=0
  ·exact .inl c
  ·exact .inr (Classical.byContradiction fun a=>h4 (.inr ⟨by omega,a⟩))
 ·rw[B3m fun j hj=>h2 j (by omega)]
theorem B7b(es:List Entry):Con Tryz.prog 34 [.sl (es.map c45)] (.i .i64 (E5 es)) :=
 by
 have e:∀ {i:Int},0≤i→(i-1).toNat=i.toNat-1:=fun {i} h=>by omega
 refine lN 0 c45 (es) Tryz.func34 fun hl_0=>sC B1 [.tmp 2] 33 Tryz.func34 ?_
 intro e0 cx
 refine sq<|rG cx [0] [] z0<|sn<|sq<|sq<|rG cx [0,3] [] z0<|sn<|bL 0<|sL (X:=Int) (fun x=>⟨[(0,.sl (List.map c45 es)),(3,.i .i64 (x))],[]⟩) (fun x ↦ decL es x) (fun x ↦ Bh6 es x) [0,3] [] ((0:Int)) (show Bh6 es (0:Int)from ?g0) ?_;rotate_left
 intro i0 h_1
 obtain⟨hh2,hh3,hh4⟩:0≤i0∧i0≤(↑es.length:Int)∧∀(j:Nat),(↑j:Int) < i0→B0w es j=true:=h_1
 refine sq<|rD cx [0,3,7] [] (tL 2 c45 es (zB 3 (i0 <(↑es.length:Int)))) (fun hh5=>?_) fun hh5=>?_
 refine sK<|sn<|sq<|bL 1<|sq<|sq<|rG cx [0,3,15] [] (fA (0≤i0) (fG c45 es i0.toNat (fR 4 (fN 4 4 (fT (con77 (es[i0.toNat]!)) (tN 5 (R8 es[i0.toNat]!) (0:Int) (oR 2 (c45 es[i0.toNat]!) (oA 4 (.i .i64 (R8 es[i0.toNat]!)) z0))))))))<|sn<|dC (¬R8 es[i0.toNat]! =(0:Int)) (fun h6=>?_) fun h6=>?_
 refine sq<|rG cx [2] [] z0<|sn<|rT<|nR<|bR<|nR<|nR<|bR<|nR<|qR (.i .i64 ((1:Int))) (.eq ?g1);rotate_left
 refine sK<|sn<|sq<|B4 (σ':=⟨[(0,.sl (List.map c45 es)),(3,.i .i64 (i0)),(32,.b (decide ((0:Int) < i0∧¬dLt es[(i0-1).toNat]!.dot es[i0.toNat]!.dot=true)))],[]⟩) ?_ ?_
 refine A4 ((0:Int) < i0) (fun h_8=>?_) (fun h_8=>?_)
 refine rA cx [0,3,32] [] (tT 1 (A6 h_8) (tW 5 (i0-1) (fO (0≤i0-1) (fG c45 es ((i0-1).toNat) (fR 4 (fN 2 4 (fA (0≤i0) (fG c45 es i0.toNat (fR 4 (fN 2 4 (fT (con78 (es[(i0-1).toNat]!.dot) (es[i0.toNat]!.dot)) (tT 15 (D0:(AV.b !dLt es[(i0-1).toNat]!.dot es[i0.toNat]!.dot)=AV.b (decide ¬dLt es[(i0-1).toNat]!.dot es[i0.toNat]!.dot=true)) (tD 16 (decide ¬dLt es[(i0-1).toNat]!.dot es[i0.toNat]!.dot=true) ((0:Int) < i0∧¬dLt es[(i0-1).toNat]!.dot es[i0.toNat]!.dot=true) (by simp only [eq_true h_8,tsl]) (oR 6 (c45 es[(i0-1).toNat]!) (oR 11 (c45 es[i0.toNat]!) (oA 14 (.b (dLt es[(i0-1).toNat]!.dot es[i0.toNat]!.dot)) z0)))))))))))))))) ?_
 exact⟨rfl,by kernel_rfl⟩
 refine rA cx [0,3,32] [] (tT 1 (A3 h_8) (tD 16 false ((0:Int) < i0∧¬dLt es[(i0-1).toNat]!.dot es[i0.toNat]!.dot=true) (by simp only [eq_false h_8,tsl]) z0)) ?_
 exact⟨rfl,by kernel_rfl⟩
 refine sn<|dC ((0:Int) < i0∧¬dLt es[(i0-1).toNat]!.dot es[i0.toNat]!.dot=true) (fun h9=>?_) fun h9=>?_
 refine sq<|rG cx [2] [] z0<|sn<|rT<|bR<|nR<|nR<|bR<|nR<|qR (.i .i64 ((1:Int))) (.eq ?g2);rotate_left
 refine sK<|bN<|sn<|rG cx [0,3] [] (tW 1 (i0+1) z0)<|sn<|nX (i0+1) (show((↑es.length:Int)-(i0+1)).toNat <((↑es.length:Int)-i0).toNat from(by omega)) (show Bh6 es (i0+1)from ?g3);rotate_left
 refine eX 0<|nE<|nE<|bH<|sn<|sq<|rG cx [2] [] z0<|sn<|rT<|qR (.i .i64 ((0:Int))) (.eq ?g4);rotate_left
 rotate_left
 revert i0 hh2 hh3 hh4 hh5 h6;rotate_left
 revert i0 hh2 hh3 hh4 hh5 h6 h9;rotate_left
 revert i0 hh2 hh3 hh4 hh5 h6 h9;rotate_left
 revert i0 hh2 hh3 hh4 hh5;rotate_left
 case g0=>exact⟨by omega,by omega,fun j hj=>by omega⟩
 case' g4=>refine(fun i h0 h1 h2 h3=>?_)
 case' g3=>refine(fun i h0 h1 h2 h3 h4 h5=>?_)
 case' g2=>refine(fun i h0 h1 h2 h3 h4 h5=>?_)
 case' g1=>refine(fun i h0 h1 h2 h3 h4=>?_)
 ·rw[A8o (i:=i.toNat) (by omega) (A8p _)]
  rw[X6];rintro⟨a,b⟩;exact h4 a
 ·rw[A8o (i:=i.toNat) (by omega) (A8p _)]
  rw[e h0]at h5
  rw[X6];rintro⟨a,b⟩
  rcases b with b | b
  ·omega
  ·exact h5.2 b
 ·rw[e h0]at h5
  refine Ad7 h0 h3 h2 ((X6 _ _).2 ⟨Classical.not_not.1 h4,?_⟩)
  by_cases c:i.toNat=0
  ·exact .inl c
  ·exact .inr (Classical.byContradiction fun a=>h5 ⟨by omega,a⟩)
 ·rw[B3m fun j hj=>h2 j (by omega)]
end Go.Proofs.YtaiepnaokhpmcaaGreat
namespace Go.Proofs.YtaiepnaokhpmcaaGreat
open Go.E
set_option maxRecDepth 100000
set_option maxHeartbeats 4000000
def szP(p:Past):Prop:=p.cloud.length*16≤140737488350000∧p.vec.length≤9223372036854775807
def szQ(rs:List Record):Prop:=∀ r∈rs,szP r.past
theorem Ad8{rs:List Record}(h:szQ rs):Az6 rs:=fun r hr=>(h r hr).1
theorem At2{rs:List Record}(h:szQ rs){i:Int}(h0:0≤i)(hi:i < rs.length):szP rs[i.toNat]!.past:=h _ (D6 (by omega))
theorem Bh7{rs:List Record}(h:szQ rs){i:Int}(h0:0 < i)(hi:i < rs.length):szP rs[(i-1).toNat]!.past:=h _ (D6 (by omega))
theorem con133(r:Record)(hb:szP r.past):Con Tryz.prog 133 [.agg (c81 r)] (.i .i64 (ckR r)) :=
 by
 have g:∀ {b:Bool},¬ b=true→b=false:=fun {b} h=>by cases b <;> simp_all
 refine sC B1 [.tmp 2] 21 Tryz.func133 ?_
 intro e0 cx
 refine sq<|rG cx [1] [1] z0<|sn<|sq<|sq<|B4 (σ':=⟨[(1,.ptr (1) (0) (0) (0)),(11,.b (decide (¬r.sku={ data:=#[]:ByteArray }∧¬U0 r.sku=true)))],[(1,⟨0,81,.var [.s (r.sku),.sl (List.map c3 r.past.vec),.sl (List.map B7 r.past.cloud)]⟩)]⟩) ?_ ?_
 refine A4 (¬r.sku={ data:=#[]:ByteArray }) (fun h_1=>?_) (fun h_1=>?_)
 refine rG cx [1,11] [1] (tT 2 (A1l h_1:(AV.b !r.sku.toList == { data:=#[]:ByteArray }.toList)=AV.b true) (fT (B9m (r.sku)) (tT 7 (D0:(AV.b !U0 r.sku)=AV.b (decide ¬U0 r.sku=true)) (tD 8 (decide ¬U0 r.sku=true) (¬r.sku={ data:=#[]:ByteArray }∧¬U0 r.sku=true) (by simp only [eq_false h_1,tsl]) (oA 6 (.b (U0 r.sku)) z0))))) ?_
 exact⟨rfl,by kernel_rfl⟩
 refine rG cx [1,11] [1] (tT 2 (A3s:(AV.b !r.sku.toList == { data:=#[]:ByteArray }.toList)=AV.b (decide ¬r.sku={ data:=#[]:ByteArray })) (tT 3 (A3 h_1) (tT 8 (by first | (simp only [eq_false h_1,tsl];done) | simp_all:AV.b false=AV.b (decide (¬r.sku={ data:=#[]:ByteArray }∧¬U0 r.sku=true))) z0))) ?_
 exact⟨rfl,by kernel_rfl⟩
 refine sn<|dC (¬r.sku={ data:=#[]:ByteArray }∧¬U0 r.sku=true) (fun h2=>?_) fun h2=>?_
 refine sq<|rG cx [2] [] z0<|sn<|rT<|nR<|qR (.i .i64 ((5:Int))) (.eq (by unfold ckR;rw[if_pos ⟨h2.1,g h2.2⟩]))
 refine sK<|sn<|sq<|sq<|B4 (σ':=⟨[(20,.b (decide (¬r.past=A5 r.past∨E3 r.past=0)))],[]⟩) ?_ ?_
 refine A4 (¬r.past=A5 r.past) (fun h4=>?_) (fun h4=>?_)
 refine rg (A:=_∧_∧(AV.b true=AV.b (decide (¬r.past=A5 r.past∨E3 r.past=0)))) cx [(2,{ val:=some (.b (decide (r.past=A5 r.past))),tell:=some (.b (false)) }),(8,{ tell:=some (.b (decide (¬r.past=A5 r.past∨E3 r.past=0))) })] [20] [] ⟨(A3 h4),(B76 (r.past) (by exact hb.1) (by exact hb.2)),(by simp only [eq_false h4,tsl])⟩ ?_
 exact⟨rfl,by kernel_rfl⟩
 refine rG cx [20] [] (fT (B76 (r.past) (by exact hb.1) (by exact hb.2)) (tQ 3 (r.past=A5 r.past) (tT 4 (A3 h4) (fT (con59 (r.past) (by exact hb.1)) (tT 8 (by first | (simp only [eq_false h4,tsl];done) | simp_all:AV.b (decide (E3 r.past=0))=AV.b (decide (¬r.past=A5 r.past∨E3 r.past=0))) (oA 2 (.b (decide (r.past=A5 r.past))) (oA 7 (.b (decide (E3 r.past=0))) z0))))))) ?_
 exact⟨rfl,by kernel_rfl⟩
 refine sn<|dC (¬r.past=A5 r.past∨E3 r.past=0) (fun h5=>?_) fun h5=>?_
 refine sq<|rG cx [2] [] z0<|sn<|rT<|nR<|qR (.i .i64 ((1:Int))) (.eq (by unfold ckR;rw[if_neg (fun c=>h2 ⟨c.1,by rw[c.2];simp⟩),if_pos h5]))
 refine sK<|sn<|sq<|rG cx [2] [] z0<|sn<|rT<|qR (.i .i64 ((0:Int))) (.eq (by unfold ckR;rw[if_neg (fun c=>h2 ⟨c.1,by rw[c.2];simp⟩),if_neg h5]))
theorem con134(r s:Record)(hr:szR r)(hs:szR s):Con Tryz.prog 134 [.agg (c81 r),.agg (c81 s)] (.i .i64 (C3 r s)) :=
 by
 have L:∀ {x:Int},Z6 r.sku s.sku=x→¬ x=0→AV.i .i64 x=AV.i .i64 (C3 r s):=fun {x} h k=>by
  unfold C3;rw[if_pos (by rw[h];exact k),h]
 refine sC B1 [.tmp 4] 20 Tryz.func134 ?_
 intro e0 cx
 refine sq<|rG cx [2,3] [2,3] z0<|sn<|sq<|sq<|rG cx [2,3,9] [2,3] (tT 4 (B5z:AV.b (Op.bytesLess r.sku.toList s.sku.toList)=AV.b (sLt r.sku s.sku)) z0)<|sn<|W8 (sLt r.sku s.sku) (by kernel_rfl) (by kernel_rfl) (fun h0=>?_) (fun h0=>?_)
 refine sq<|rG cx [4] [] z0<|sn<|rT<|nR<|qR (.i .i64 ((-1:Int))) (.eq (by exact L (by rw[L4,if_pos h0]) (by decide)))
 refine sK<|sn<|sq<|sq<|rG cx [2,3,14] [2,3] (tT 4 (B60:(AV.b !(Op.bytesLess r.sku.toList s.sku.toList || r.sku.toList == s.sku.toList))=AV.b (decide ¬(sLt r.sku s.sku=true∨r.sku=s.sku))) z0)<|sn<|dC (¬(sLt r.sku s.sku=true∨r.sku=s.sku)) (fun h1=>?_) fun h1=>?_
 refine sq<|rG cx [4] [] z0<|sn<|rT<|nR<|qR (.i .i64 ((1:Int))) (.eq ?g1);rotate_left
 refine sK<|sn<|sq<|rG cx [4] [] (fT (con164 (r.past) (s.past) (by exact hr) (by exact hs)) (oA 4 (.i .i64 (Ac0 r.past s.past)) z0)) ?_
 refine sn<|rT<|qR (.i .i64 (Ac0 r.past s.past)) (.eq ?g4);rotate_left
 case g1 =>
  have a:¬ sLt r.sku s.sku=true:=by rw[h0];simp
  have b:sLt s.sku r.sku=true:=Classical.byContradiction fun b=>h1 (.inr (A1v a b))
  exact L (by rw[L4,if_neg a,if_pos b]) (by decide)
 case g4 =>
  have e:r.sku=s.sku:=by
   rcases Classical.not_not.1 h1 with h1 | h1
   ·rw[h0]at h1;cases h1
   ·exact h1
  unfold C3
  rw[if_neg (fun c=>c (A2u.2 e))]
theorem con85(rs:List Record)(hb:szQ rs):Con Tryz.prog 85 [.sl (rs.map c81)] (.i .i64 (G9 rs)) :=
 by
 have e:∀ {i:Int},0≤i→(i-1).toNat=i.toNat-1:=fun {i} h=>by omega
 refine lN 0 c81 (rs) Tryz.func85 fun hl_0=>sC B1 [.tmp 2] 31 Tryz.func85 ?_
 intro e0 cx
 refine sq<|rG cx [0] [] z0<|sn<|sq<|sq<|rG cx [0,3] [] z0<|sn<|bL 0<|sL (X:=Int) (fun x=>⟨[(0,.sl (List.map c81 rs)),(3,.i .i64 (x))],[]⟩) (fun x ↦ decKc rs x) (fun x ↦ Al1 rs x) [0,3] [] ((0:Int)) (show Al1 rs (0:Int)from(by exact⟨by omega,by omega,fun j hj=>by omega⟩)) ?_
 intro i0 h_1
 obtain⟨hh2,hh3,hh4⟩:0≤i0∧i0≤(↑rs.length:Int)∧∀(j:Nat),(↑j:Int) < i0→B50 rs j=true:=h_1
 refine sq<|rD cx [0,3,7] [] (tL 2 c81 rs (zB 3 (i0 <(↑rs.length:Int)))) (fun hh5=>?_) fun hh5=>?_
 refine sK<|sn<|sq<|bL 1<|sq<|sq<|rG cx [0,3,15] [] (fA (0≤i0) (fG c81 rs i0.toNat (fR 3 (fN 3 3 (fT (con133 (rs[i0.toNat]!) (by exact At2 hb hh2 hh5)) (tN 5 (ckR rs[i0.toNat]!) (0:Int) (oR 2 (c81 rs[i0.toNat]!) (oA 4 (.i .i64 (ckR rs[i0.toNat]!)) z0)))))))) ?_
 refine sn<|dC (¬ckR rs[i0.toNat]! =(0:Int)) (fun h6=>?_) fun h6=>?_
 refine sq<|rG cx [2] [] z0<|sn<|rT<|nR<|bR<|nR<|nR<|bR<|nR<|qR (.i .i64 ((1:Int))) (.eq ?g2);rotate_left
 refine sK<|sn<|sq<|B4 (σ':=⟨[(0,.sl (List.map c81 rs)),(3,.i .i64 (i0)),(30,.b (decide ((0:Int) < i0∧0≤C3 rs[(i0-1).toNat]! rs[i0.toNat]!)))],[]⟩) ?_ ?_
 refine A4 ((0:Int) < i0) (fun h8=>?_) (fun h8=>?_)
 refine rA cx [0,3,30] [] (tT 1 (A6 h8) (tW 5 (i0-1) (fO (0≤i0-1) (fG c81 rs ((i0-1).toNat) (fR 3 (fN 3 3 (fA (0≤i0) (fG c81 rs i0.toNat (fR 3 (fN 3 3 (fT (con134 (rs[(i0-1).toNat]!) (rs[i0.toNat]!) (by exact(Bh7 hb h8 hh5).1) (by exact(At2 hb hh2 hh5).1)) (tB 13 (0≤C3 rs[(i0-1).toNat]! rs[i0.toNat]!) (tD 14 (decide (0≤C3 rs[(i0-1).toNat]! rs[i0.toNat]!)) ((0:Int) < i0∧0≤C3 rs[(i0-1).toNat]! rs[i0.toNat]!) (by simp only [eq_true h8,tsl]) (oR 6 (c81 rs[(i0-1).toNat]!) (oR 10 (c81 rs[i0.toNat]!) (oA 12 (.i .i64 (C3 rs[(i0-1).toNat]! rs[i0.toNat]!)) z0)))))))))))))))) ?_
 exact⟨rfl,by kernel_rfl⟩
 refine rA cx [0,3,30] [] (tT 1 (A3 h8) (tD 14 false ((0:Int) < i0∧0≤C3 rs[(i0-1).toNat]! rs[i0.toNat]!) (by simp only [eq_false h8,tsl]) z0)) ?_
 exact⟨rfl,by kernel_rfl⟩
 refine sn<|dC ((0:Int) < i0∧0≤C3 rs[(i0-1).toNat]! rs[i0.toNat]!) (fun h9=>?_) fun h9=>?_
 refine sq<|rG cx [2] [] z0<|sn<|rT<|bR<|nR<|nR<|bR<|nR<|qR (.i .i64 ((1:Int))) (.eq ?g5);rotate_left
 refine sK<|bN<|sn<|rG cx [0,3] [] (tW 1 (i0+1) z0)<|sn<|nX (i0+1) (show((↑rs.length:Int)-(i0+1)).toNat <((↑rs.length:Int)-i0).toNat from(by omega)) (show Al1 rs (i0+1)from ?g6);rotate_left
 refine eX 0<|nE<|nE<|bH<|sn<|sq<|rG cx [2] [] z0<|sn<|rT<|qR (.i .i64 ((0:Int))) (.eq (by rw[B37 fun j hj=>hh4 j (by omega)]))
 case g2 =>
  revert i0 hh2 hh3 hh4 hh5 h6
  intro i h0 h1 h2 h3 h4
  rw[A8i (i:=i.toNat) (by omega)]
  rw[S9]
  exact fun c=>h4 c.1
 case g5 =>
  revert i0 hh2 hh3 hh4 hh5 h6 h9
  intro i h0 h1 h2 h3 h4 h5
  rw[A8i (i:=i.toNat) (by omega)]
  rw[e h0]at h5
  rw[S9]
  rintro⟨a,b⟩
  omega
 case g6 =>
  rw[e hh2]at h9
  refine A6y hh2 hh5 hh4 ((S9 _ _).2 ⟨Classical.not_not.1 h6,?_⟩)
  by_cases c:i0.toNat=0
  ·exact .inl c
  ·exact .inr (Classical.byContradiction fun a=>h9 ⟨by omega,by omega⟩)
end Go.Proofs.YtaiepnaokhpmcaaGreat
namespace Go.Proofs.YtaiepnaokhpmcaaGreat
open Go.E
set_option maxRecDepth 100000
set_option maxHeartbeats 4000000
theorem B9u(f:Facts):∃ b:Bool,b=decide (E5 f.adds=0∧f.gone=A5 f.gone∧G9 f.recs=0):=⟨_,rfl⟩
noncomputable def okF(f:Facts):Bool:=Classical.choose (B9u f)
theorem B9v(f:Facts):okF f=decide (E5 f.adds=0∧f.gone=A5 f.gone∧G9 f.recs=0):=Classical.choose_spec (B9u f)
def szF(f:Facts):Prop:=szP f.gone∧szQ f.recs
end Go.Proofs.YtaiepnaokhpmcaaGreat
namespace Go.Proofs.YtaiepnaokhpmcaaGreat
open Go.E
set_option maxRecDepth 100000
set_option maxHeartbeats 4000000
def ofV(es:List Entry)(sku:ByteArray):List Entry×Int :=
 if okL es=true then(if U0 sku=true then(es.filter (fun e=>decide (e.sku=sku)),0)else([],5))else([],1)
def Bh8(p:Entry→Bool)(es:List Entry)(i:Int)(l:List Entry):Prop:=0≤i∧i≤es.length∧l=(es.take i.toNat).filter p∧(l.length:Int)≤i
def decP(es:List Entry)(i:Int)(l:List Entry):Nat:=(es.length-i).toNat
theorem A4x{p:Entry→Bool}{es:List Entry}{i:Int}(h0:0≤i)(h:i < es.length):(es.take (i+1).toNat).filter p=if p es[i.toNat]! = true then(es.take i.toNat).filter p++[es[i.toNat]!]else(es.take i.toNat).filter p:=by
 rw[← D9 h0 h,List.filter_append]
 by_cases hp:p es[i.toNat]! = true
 ·rw[if_pos hp,List.filter_cons_of_pos hp,List.filter_nil]
 ·rw[if_neg hp,List.filter_cons_of_neg hp,List.filter_nil,List.append_nil]
theorem B3n(p:Entry→Bool)(es:List Entry):Bh8 p es 0 []:=⟨by omega,by omega,by simp,by simp⟩
theorem B7c{p:Entry→Bool}{es l:List Entry}{i:Int}(h0:0≤i)(h2:l=(es.take i.toNat).filter p)(h3:(l.length:Int)≤i)(h4:i < es.length)(h:p es[i.toNat]! = true):Bh8 p es (i+1) (l++[es[i.toNat]!]) :=
 ⟨by omega,by omega,by rw[A4x h0 h4,if_pos h,h2],by rw[List.length_append,List.length_cons,List.length_nil];omega⟩
theorem B3o{p:Entry→Bool}{es l:List Entry}{i:Int}(h0:0≤i)(h2:l=(es.take i.toNat).filter p)(h3:(l.length:Int)≤i)(h4:i < es.length)(h:¬ p es[i.toNat]! = true):Bh8 p es (i+1) l :=
 ⟨by omega,by omega,by rw[A4x h0 h4,if_neg h,h2],by omega⟩
theorem B3p{p:Entry→Bool}{es l:List Entry}{i:Int}(h2:l=(es.take i.toNat).filter p)(h4:¬ i < es.length):l=es.filter p:=by
 rw[h2,List.take_of_length_le (by omega)]
theorem Bh9(a b:List Entry):Con Tryz.prog 44 [.sl (a.map c45),.sl (b.map c45)] (.b (decide (a=b))) :=
 by
 refine lN 0 c45 (a) Tryz.func44 fun hl_0=>lN 1 c45 (b) Tryz.func44 fun hl_1=>sC B1 [.tmp 4] 26 Tryz.func44 ?_
 intro e0 cx
 refine sq<|rG cx [0,1] [] z0<|sn<|sq<|sq<|rG cx [0,1,10] [] (tL 1 c45 a (tL 3 c45 b (tN 4 (↑a.length:Int) (↑b.length:Int) z0)))<|sn<|dC (¬(↑a.length:Int)=(↑b.length:Int)) (fun h0=>?_) fun h0=>?_
 refine sq<|rG cx [4] [] z0<|sn<|rT<|nR<|qR (.b (false)) (.eq ?g0);rotate_left
 refine sK<|sn<|sq<|sq<|rG cx [0,1,5] [] z0<|sn<|bL 0<|sL (X:=Int) (fun x=>⟨[(0,.sl (List.map c45 a)),(1,.sl (List.map c45 b)),(5,.i .i64 (x))],[]⟩) (fun x ↦ dec30 a x) (fun x ↦ Bc9 a b x) [0,1,5] [] ((0:Int)) (show Bc9 a b (0:Int)from ?g1) ?_;rotate_left
 intro i1 h_2
 obtain⟨hh3,hh4,hh5⟩:0≤i1∧i1≤(↑a.length:Int)∧∀(j:Nat),(↑j:Int) < i1→a[j]! = b[j]!:=h_2
 refine sq<|rD cx [0,1,5,14] [] (tL 2 c45 a (zB 3 (i1 <(↑a.length:Int)))) (fun h6=>?_) fun h6=>?_
 refine sK<|sn<|sq<|bL 1<|sq<|rA cx [0,1,5,25] [] (fA (0≤i1) (fG c45 a i1.toNat (fR 4 (fN 4 4 (fA (0≤i1) (fG c45 b i1.toNat (fR 4 (fN 4 4 (fT (V1 (Bn5 a[i1.toNat]! b[i1.toNat]!)) (oR 2 (c45 a[i1.toNat]!) (oR 6 (c45 b[i1.toNat]!) (oA 8 (.b (decide ¬a[i1.toNat]! = b[i1.toNat]!)) z0))))))))))))<|sn<|dC (¬a[i1.toNat]! = b[i1.toNat]!) (fun h7=>?_) fun h7=>?_
 refine sq<|rG cx [4] [] z0<|sn<|rT<|bR<|nR<|nR<|bR<|nR<|qR (.b (false)) (.eq ?g2);rotate_left
 refine sK<|bN<|sn<|rG cx [0,1,5] [] (tW 1 (i1+1) z0)<|sn<|nX (i1+1) (show((↑a.length:Int)-(i1+1)).toNat <((↑a.length:Int)-i1).toNat from(by omega)) (show Bc9 a b (i1+1)from ?g3);rotate_left
 refine eX 0<|nE<|nE<|bH<|sn<|sq<|rG cx [4] [] z0<|sn<|rT<|qR (.b (true)) (.eq ?g4);rotate_left
 revert h0;rotate_left
 revert h0;rotate_left
 revert h0 i1 hh3 hh4 hh5 h6 h7;rotate_left
 revert h0 i1 hh3 hh4 hh5 h6 h7;rotate_left
 revert h0 i1 hh3 hh4 hh5 h6;rotate_left
 case g1=>exact(fun h=>⟨by omega,by omega,fun j hj=>by omega⟩)
 case' g4=>refine(fun h i h1 h2 h3 h4=>?_)
 case' g3=>refine(fun h i h1 h2 h3 h4 h5=>⟨by omega,by omega,fun j hj=>?_⟩)
 case' g2=>refine(fun h i h1 h2 h3 h4 h5=>?_)
 case' g0=>refine(fun h=>?_)
 ·congr 1;symm;rw[decide_eq_false_iff_not];rintro rfl;exact h rfl
 ·congr 1;symm;rw[decide_eq_false_iff_not];rintro rfl;exact h5 rfl
 ·by_cases e:j=i.toNat
  ·subst e;exact Classical.not_not.1 h5
  ·exact h3 j (by omega)
 ·congr 1;symm;rw[decide_eq_true_iff];exact Bd0 (Classical.not_not.1 h) fun j hj=>h3 j (by omega)
end Go.Proofs.YtaiepnaokhpmcaaGreat
namespace Go.Proofs.YtaiepnaokhpmcaaGreat
open Go.E
set_option maxRecDepth 100000
set_option maxHeartbeats 4000000
open Go Go.Sort Go.RowKit Go.Lib Go.Shelf Go.Proofs
section
variable {α : Type} [Inhabited α] {enc : α → List Value} {k blk off : Nat}
def A21(sf:Nat)(sb:Array Value)(enc:α→List Value)(k blk off size:Nat):Prop :=
 ∀(W:World) (dk:Array α),HoldsK enc k W blk off dk→dk.size=size→∀ i j:Nat,i < size→j < size→i≠j →
  (callFunc sf (#[.int .i64 i,.int .i64 j]++sb)).run Tryz.prog W=.ok (.value (.tuple #[])) ((W.setCells blk (off+i*k) (enc dk[j]!)).setCells blk (off+j*k) (enc dk[i]!))
def A1a(w:World)(g:Nat)(lb:Array Value)(sf:Nat)(sb:Array Value):World:=w.alloc (.cells #[.func (.func g) #[] lb,.func (.func sf) #[] sb] 204)
theorem R0(w:World)(g:Nat)(lb:Array Value)(sf:Nat)(sb:Array Value):(A1a w g lb sf sb).heap.size=w.heap.size+1:=by simp [A1a]
theorem A23{w0:World}{d:Array α}(hH:HoldsK enc k w0 blk off d)(g:Nat)(lb:Array Value)(sf:Nat)(sb:Array Value):Fam enc k blk off w0 d (A1a w0 g lb sf sb):=(Fam.start hH).alloc _
theorem H0{w0:World}(hb:blk < w0.heap.size)(g:Nat)(lb:Array Value)(sf:Nat)(sb:Array Value){W:World}{d':Array α}(h:Fam enc k blk off (A1a w0 g lb sf sb) d' W) :
  W.cell? ⟨w0.heap.size,0,none⟩=some (.func (.func g) #[] lb)∧W.cell? ⟨w0.heap.size,1,none⟩=some (.func (.func sf) #[] sb):=by
 constructor
 ·rw[h.cell (by show w0.heap.size < _;rw[R0];omega) (by show w0.heap.size≠blk;omega)];simp [A1a]
 ·rw[h.cell (by show w0.heap.size < _;rw[R0];omega) (by show w0.heap.size≠blk;omega)];simp [A1a]
set_option maxHeartbeats 4000000 in
theorem U1 (hk:∀ x,(enc x).length=k) (g:Nat) (lb:Array Value) (sf:Nat) (sb:Array Value) (w0:World) (d:Array α) (hswap:A21 sf sb enc k blk off d.size) (hH:HoldsK enc k w0 blk off d) (hb:blk < w0.heap.size)
  (a b n:Nat) (hab:a+n≤b) (hbn:b+n≤d.size) (hsz:d.size < 4611686018427387904) :
  Calls Tryz.prog 250 #[.agg #[.func (.func g) #[] lb,.func (.func sf) #[] sb],.int .i64 a,.int .i64 b,.int .i64 n] w0 fun e w' =>
   e=.returned (.tuple #[])∧∃ d',Fam enc k blk off w0 d' w'∧d'.size=d.size∧PermIn a (b+n) d d'∧∀ j,d'[j]! = d[A62 a b n j]!:=by
 have HF:Hid (Fam enc k blk off w0 d (A1a w0 g lb sf sb)):=A23 hH g lb sf sb
 have hb1:blk <(A1a w0 g lb sf sb).heap.size:=by rw[R0];omega
 have HH:Hid (HoldsK enc k (A1a w0 g lb sf sb) blk off d):=HF.out.holds hb hH rfl
 have HS:Hid (A21 sf sb enc k blk off d.size):=hswap
 clear hswap
 go_enter Tryz.func250,Tryz.ntmps250
 go_wp2
 go_loopw [8] (fun v8 wr=>∃(i:Nat) (dk:Array α),v8=.int .i64 i∧i≤n∧Hid (dk.size=d.size∧Fam enc k blk off (A1a w0 g lb sf sb) dk wr∧PermIn a (b+n) d dk∧∀ j,dk[j]! = d[A62 a b i j]!)) (fun v8 _=>n-(intOf v8).toNat)
 case atStart=>exact⟨0,d,by go_num,by omega,rfl,Fam.start HH.out,permIn_refl d _ _,fun j=>by rw[B1w]⟩
 case round =>
  obtain⟨i,dk,rfl,hin,HI⟩:=hrel
  have c:=(H0 hb g lb sf sb HI.out.2.1).2
  go_wp2
  ·have hlt:i < n:=by omega
   have hs:=HS.out wr dk (HI.out.2.1.holds hb1 HH.out HI.out.1) HI.out.1 (a+i) (b+i) (by omega) (by omega) (by omega)
   rw[show((a+i:Nat):Int)=(a:Int)+(i:Int)by omega,show((b+i:Nat):Int)=(b:Int)+(i:Int)by omega]at hs
   rw[hs,Oper.upon_value]
   clear hs
   go_wp2
   go_roundw
   case rel =>
    obtain⟨e1,e2,e3,e4⟩:=HI.out
    exact⟨i+1,swp dk (a+i) (b+i),by go_num,by omega,by rw[Sort.size_swp];exact e1,e2.swap hk hb1 _ _ (by omega) (by omega),
     permIn_trans d dk _ _ _ e3 (swp_permIn dk a (b+n) (a+i) (b+i) (by omega) (by omega) (by omega) (by omega) (by omega)),Bd1 (by omega) (by omega) e1 e4⟩
   case measure=>simp [intOf];omega
  ·go_end0
   obtain⟨e1,e2,e3,e4⟩:=HI.out
   have hi:i=n:=by omega
   exact⟨rfl,dk,HF.out.trans hb e2 e1,e1,e3,fun j=>by rw[e4 j,hi]⟩
set_option maxHeartbeats 4000000 in
theorem Al8 (hk:∀ x,(enc x).length=k) (g:Nat) (lb:Array Value) (sf:Nat) (sb:Array Value) (w0:World) (d:Array α) (hswap:A21 sf sb enc k blk off d.size) (hH:HoldsK enc k w0 blk off d) (hb:blk < w0.heap.size)
  (a m b:Nat) (ham:a < m) (hmb:m < b) (hbn:b≤d.size) (hsz:d.size < 4611686018427387904) :
  Calls Tryz.prog 242 #[.agg #[.func (.func g) #[] lb,.func (.func sf) #[] sb],.int .i64 a,.int .i64 m,.int .i64 b] w0 fun e w' =>
   e=.returned (.tuple #[])∧∃ d',Fam enc k blk off w0 d' w'∧d'.size=d.size∧PermIn a b d d'∧∀ j,d'[j]! = d[G7 a m b j]!:=by
 have HF:Hid (Fam enc k blk off w0 d (A1a w0 g lb sf sb)):=A23 hH g lb sf sb
 have hb1:blk <(A1a w0 g lb sf sb).heap.size:=by rw[R0];omega
 have HH:Hid (HoldsK enc k (A1a w0 g lb sf sb) blk off d):=HF.out.holds hb hH rfl
 have HS:Hid (A21 sf sb enc k blk off d.size):=hswap
 have u:=run_underlying (P:=Tryz.prog) (B1 204 _ rfl).1
 clear hswap
 go_enter Tryz.func242,Tryz.ntmps242
 go_wp2
 go_loopw [8,9] (fun v8 v9 wr=>∃(i j:Nat) (dk:Array α),v8=.int .i64 i∧v9=.int .i64 j∧0 < i∧0 < j∧a+i≤m∧m+j≤b∧Hid (dk.size=d.size∧Fam enc k blk off (A1a w0 g lb sf sb) dk wr∧PermIn a b d dk∧∀ q,dk[G7 (m-i) m (m+j) q]! = d[G7 a m b q]!)) (fun v8 v9 _=>(intOf v8).toNat+(intOf v9).toNat)
 case atStart =>
  refine⟨m-a,b-m,d,by go_num,by go_num,by omega,by omega,by omega,by omega,rfl,Fam.start HH.out,permIn_refl d _ _,fun q=>?_⟩
  rw[show m-(m-a)=a by omega,show m+(b-m)=b by omega]
 case round =>
  obtain⟨i,j,dk,rfl,rfl,hi0,hj0,hi,hj,HI⟩:=hrel
  have c:=H0 hb g lb sf sb HI.out.2.1
  have c0:=c.1
  have c1:=c.2
  clear c
  have hw:=HI.out.2.1.size
  by_cases hij:i=j
  ·subst hij
   have hc:=U1 hk g lb sf sb wr dk (HI.out.1 ▸ HS.out) (HI.out.2.1.holds hb1 HH.out HI.out.1) (by omega) (m-i) m i (by omega) (by rw[HI.out.1];omega) (by rw[HI.out.1];omega)
   rw[show((m-i:Nat):Int)=(m:Int)-(i:Int)by omega]at hc
   have HC:=Box.mk hc
   clear hc
   go_wp2_with (go_at_call 250;refine HC.out.mono ?_;rintro e w' ⟨rfl,d',f1,f2,f3,f4⟩)
   go_end0
   obtain⟨e1,e2,e3,e4⟩:=HI.out
   exact⟨rfl,d',HF.out.trans hb (e2.trans hb1 f1 (by rw[f2,e1])) (by rw[f2,e1]),by rw[f2,e1],permIn_trans d dk d' _ _ e3 (K0 (by omega) (by omega) (by omega) f3),fun q=>by rw[f4 q,B6c (by omega),e4 q]⟩
  ·by_cases hlt:j < i
   ·have hc:=U1 hk g lb sf sb wr dk (HI.out.1 ▸ HS.out) (HI.out.2.1.holds hb1 HH.out HI.out.1) (by omega) (m-i) m j (by omega) (by rw[HI.out.1];omega) (by rw[HI.out.1];omega)
    rw[show((m-i:Nat):Int)=(m:Int)-(i:Int)by omega]at hc
    have HC:=Box.mk hc
    clear hc
    go_wp2_with (go_at_call 250;refine HC.out.mono ?_;rintro e w' ⟨rfl,d',f1,f2,f3,f4⟩)
    go_roundw
    case rel =>
     obtain⟨e1,e2,e3,e4⟩:=HI.out
     exact⟨i-j,j,d',by go_num,rfl,by omega,by omega,by omega,by omega,by rw[f2,e1],e2.trans hb1 f1 (by rw[f2]),permIn_trans d dk d' _ _ e3 (K0 (by omega) (by omega) (by omega) f3),fun q=>by rw[f4,B6b (by omega) hj0 hlt,e4 q]⟩
    case measure=>simp [intOf];omega
   ·have hc:=U1 hk g lb sf sb wr dk (HI.out.1 ▸ HS.out) (HI.out.2.1.holds hb1 HH.out HI.out.1) (by omega) (m-i) (m+j-i) i (by omega) (by rw[HI.out.1];omega) (by rw[HI.out.1];omega)
    rw[show((m-i:Nat):Int)=(m:Int)-(i:Int)by omega,show((m+j-i:Nat):Int)=(m:Int)+(j:Int)-(i:Int)by omega]at hc
    have HC:=Box.mk hc
    clear hc
    go_wp2_with (go_at_call 250;refine HC.out.mono ?_;rintro e w' ⟨rfl,d',f1,f2,f3,f4⟩)
    go_roundw
    case rel =>
     obtain⟨e1,e2,e3,e4⟩:=HI.out
     exact⟨i,j-i,d',rfl,by go_num,by omega,by omega,by omega,by omega,by rw[f2,e1],e2.trans hb1 f1 (by rw[f2]),permIn_trans d dk d' _ _ e3 (K0 (by omega) (by omega) (by omega) f3),fun q=>by rw[f4,B1x (by omega) hi0 (by omega),e4 q]⟩
    case measure=>simp [intOf];omega
def A24(g:Nat)(lb:Array Value)(enc:α→List Value)(k:Nat)(lt:α→α→Bool)(blk off size:Nat)(w0:World):Prop :=
 ∀(W:World) (dk:Array α),Fam enc k blk off w0 dk W→dk.size=size→∀ i j:Nat,i < size→j < size →
  Calls Tryz.prog g (#[.int .i64 i,.int .i64 j]++lb) W fun e w'=>e=.returned (.bool (lt dk[i]! dk[j]!))∧Below W.heap.size W w'
theorem A24.on{g:Nat}{lb:Array Value}{lt:α→α→Bool}{size:Nat}{w0 W:World}{d:Array α}(h:A24 g lb enc k lt blk off size w0)(hb:blk < w0.heap.size)(hF:Fam enc k blk off w0 d W)(hs:d.size=size):A24 g lb enc k lt blk off size W :=
 fun W' dk hF' hs' i j hi hj=>h W' dk (hF.trans hb hF' (by omega)) hs' i j hi hj
set_option maxHeartbeats 4000000 in
theorem A0t (hk:∀ x,(enc x).length=k) (lt:α→α→Bool) (g:Nat) (lb:Array Value) (sf:Nat) (sb:Array Value) (w0:World) (d:Array α) (hg:E4 Tryz.prog g) (hless:A24 g lb enc k lt blk off d.size w0) (hswap:A21 sf sb enc k blk off d.size) (hH:HoldsK enc k w0 blk off d) (hb:blk < w0.heap.size)
  (a b:Nat) (hab:a≤b) (hbn:b≤d.size) (hsz:d.size < 4611686018427387904) :
  Calls Tryz.prog 220 #[.agg #[.func (.func g) #[] lb,.func (.func sf) #[] sb],.int .i64 a,.int .i64 b] w0 fun e w' =>
   e=.returned (.tuple #[])∧Fam enc k blk off w0 (Sort.insertionSort lt d a b) w':=by
 have HF:=Box.mk (A23 hH g lb sf sb)
 have hb1:blk <(A1a w0 g lb sf sb).heap.size:=by rw[R0];omega
 have HH:=Box.mk (HF.out.holds hb hH rfl)
 have HS:=Box.mk hswap
 have HL:=Box.mk (hless.on hb HF.out rfl)
 have eg:∀ args w,(callFunc g args).run Tryz.prog w=.ok (.enter g args) w:=fun args w=>N7 hg w
 clear hswap hless
 go_enter Tryz.func220,Tryz.ntmps220
 go_wp2
 go_loopw [6] (fun vi wr=>∃(i:Nat) (dk:Array α),vi=.int .i64 i∧a < i∧i≤b+1∧dk.size=d.size∧Box (Fam enc k blk off (A1a w0 g lb sf sb) dk wr)∧Box (insOuter lt a b i dk=insOuter lt a b (a+1) d)) (fun vi _=>b+1-(intOf vi).toNat)
 case atStart=>exact⟨a+1,d,by go_num,by omega,by omega,rfl,⟨Fam.start HH.out⟩,⟨rfl⟩⟩
 case round =>
  obtain⟨i,dk,rfl,hai,hib,hsk,HW,HO⟩:=hrel
  go_wp2
  ·go_loopw [7] (fun vj wr2=>∃(j:Nat) (dj:Array α),vj=.int .i64 j∧a≤j∧j≤i∧dj.size=d.size∧Box (Fam enc k blk off (A1a w0 g lb sf sb) dj wr2)∧Box (insInner lt a j dj=insInner lt a i dk)) (fun vj _=>(intOf vj).toNat)
   case atStart=>exact⟨i,dk,rfl,by omega,Nat.le_refl _,hsk,HW,⟨rfl⟩⟩
   case round =>
    obtain⟨j,dj,rfl,haj,hji,hsj,HJ,HI⟩:=hrel
    have hlt:i < b:=by assumption
    have c:=H0 hb g lb sf sb HJ.out
    have c0:=c.1
    have c1:=c.2
    clear c
    by_cases hja:a < j
    ·have hl:=HL.out wr dj HJ.out hsj j (j-1) (by omega) (by omega)
     rw[show(((j-1:Nat):Int))=(j:Int)-1 by omega]at hl
     cases hlv:lt dj[j]! dj[j-1]! with
     | true =>
      rw[hlv]at hl
      have HQ:=Box.mk hl
      clear hl
      go_wp2_with (go_at_fn g;refine HQ.out.mono ?_;rintro e w' ⟨rfl,hB⟩;have c2:=(H0 hb g lb sf sb (HJ.out.below hB)).2;have FB:=Box.mk (HJ.out.below hB);clear hB)
      have hs:=HS.out w' dj (FB.out.holds hb1 HH.out hsj) hsj j (j-1) (by omega) (by omega) (by omega)
      rw[show(((j-1:Nat):Int))=(j:Int)-1 by omega]at hs
      rw[hs,Oper.upon_value]
      clear hs
      go_wp2
      go_roundw
      case rel =>
       (repeat apply Exists.intro)
       refine⟨⟨j-1,swp dj j (j-1),by congr 1 <;> omega,by omega,by omega,by rw[Sort.size_swp];exact hsj,⟨FB.out.swap hk hb1 _ _ (by omega) (by omega)⟩,⟨?_⟩⟩,by rw[decide_eq_true hlt,show((j-1:Nat):Int)=(j:Int)-1 by omega]⟩
       rw[← HI.out,insInner_go lt a j dj hja hlv]
      case measure=>simp [intOf];omega
     | false =>
      rw[hlv]at hl
      have HQ:=Box.mk hl
      clear hl
      go_wp2_with (go_at_fn g;refine HQ.out.mono ?_;rintro e w' ⟨rfl,hB⟩)
      go_roundw
      case rel=>exact⟨i+1,dj,by go_num,by omega,by omega,hsj,⟨HJ.out.below hB⟩,⟨by rw[← HO.out,insOuter_go _ _ _ _ _ hlt,← HI.out,insInner_stop _ _ _ _ (Or.inr hlv)]⟩⟩
      case measure=>simp [intOf];omega
    ·go_wp2
     go_roundw
     case rel=>exact⟨i+1,dj,by go_num,by omega,by omega,hsj,HJ,⟨by rw[← HO.out,insOuter_go _ _ _ _ _ hlt,← HI.out,insInner_stop _ _ _ _ (Or.inl (by omega))]⟩⟩
     case measure=>simp [intOf];omega
  ·have hge:¬ i < b:=by omega
   go_end0
   exact⟨rfl,by unfold Sort.insertionSort;rw[← HO.out,insOuter_stop _ _ _ _ _ hge];exact HF.out.trans hb HW.out hsk⟩
end
end Go.Proofs.YtaiepnaokhpmcaaGreat
namespace Go.Proofs.YtaiepnaokhpmcaaGreat
open Go.E
set_option maxRecDepth 100000
set_option maxHeartbeats 4000000
open Go Go.Sort Go.RowKit Go.Lib Go.Shelf Go.Proofs
section
variable {α : Type} [Inhabited α] {enc : α → List Value} {k blk off : Nat}
section
variable {lt0 lt : α → α → Bool} {d dA dB dC : Array α} {a m b start h h' : Nat}
theorem Ad9(hO:SWO lt)(hs:SortedIn lt a b d){i j:Nat}(h1:a≤i)(h2:i≤j)(h3:j < b):lt d[j]! d[i]! = false:=by
 rcases Nat.lt_or_ge i j with h | h
 ·exact hs i j h1 h h3
 ·rw[show i=j by omega];exact hO.irrefl _
theorem srA_t(hO:SWO lt)(hs:SortedIn lt m b d){x:α}(h1:h < b)(ht:lt d[h]! x=true)(h2:m≤h')(h3:h'≤h):lt d[h']! x=true:=by
 cases hc:lt d[h']! x with
 | true=>rfl
 | false=>rw[hO.ntrans _ _ _ (Ad9 hO hs h2 h3 h1) hc]at ht;cases ht
theorem srA_f(hO:SWO lt)(hs:SortedIn lt m b d){x:α}(h1:m≤h)(ht:lt d[h]! x=false)(h2:h≤h')(h3:h' < b):lt d[h']! x=false:=hO.ntrans _ _ _ (Ad9 hO hs h1 h2 h3) ht
theorem srB_f(hO:SWO lt)(hs:SortedIn lt a m d){x:α}(h1:h < m)(ht:lt x d[h]! = false)(h2:a≤h')(h3:h'≤h):lt x d[h']! = false:=hO.ntrans _ _ _ ht (Ad9 hO hs h2 h3 h1)
theorem srB_t(hO:SWO lt)(hs:SortedIn lt a m d){x:α}(h1:a≤h)(ht:lt x d[h]! = true)(h2:h≤h')(h3:h' < m):lt x d[h']! = true:=by
 cases hc:lt x d[h']! with
 | true=>rfl
 | false=>rw[hO.ntrans _ _ _ hc (Ad9 hO hs h1 h2 h3)]at ht;cases ht
theorem srC_f(hO:SWO lt)(hs1:SortedIn lt a m d)(hs2:SortedIn lt m b d){p c c':Nat}(hc:c < m)(hpc:m≤p-c)(ht:lt d[p-c]! d[c]! = false)(h2:a≤c')(h3:c'≤c)(h4:p-c' < b):lt d[p-c']! d[c']! = false :=
 hO.ntrans _ _ _ (hO.ntrans _ _ _ (Ad9 hO hs2 hpc (by omega) h4) ht) (Ad9 hO hs1 h2 h3 hc)
theorem srC_t(hO:SWO lt)(hs1:SortedIn lt a m d)(hs2:SortedIn lt m b d){p c c':Nat}(hc:a≤c)(hpc:p-c < b)(ht:lt d[p-c]! d[c]! = true)(h2:c≤c')(h3:c' < m)(h4:m≤p-c'):lt d[p-c']! d[c']! = true:=by
 cases hh:lt d[p-c']! d[c']! with
 | true=>rfl
 | false=>rw[hO.ntrans _ _ _ (hO.ntrans _ _ _ (Ad9 hO hs2 h4 (by omega) hpc) hh) (Ad9 hO hs1 hc h2 h3)]at ht;cases ht
theorem B7d{a m b q:Nat}(h:a=m∨m=b)(h1:a≤m)(h2:m≤b):G7 a m b q=q:=by
 unfold G7;rcases h with h | h
 ·subst h;split
  ·omega
  ·rw[if_neg (by omega)]
 ·subst h;rw[if_neg (by omega)];split <;> omega
theorem Bi0(ham:a < m)(hmb:m < b)(hC:Cut lt a m b start d)(hd:∀ q,dA[q]! = d[G7 start m ((a+b) / 2+m-start) q]!)(ho:∀ p q,a≤p→p < m→m≤q→q < b→lt0 d[q]! d[p]! = lt d[q]! d[p]!) :
  (∀ p q,a≤p→p < start→start≤q→q <(a+b) / 2→lt0 dA[q]! dA[p]! = lt dA[q]! dA[p]!)∧(∀ p q,(a+b) / 2≤p→p <(a+b) / 2+m-start→(a+b) / 2+m-start≤q→q < b→lt0 dA[q]! dA[p]! = lt dA[q]! dA[p]!):=by
 obtain⟨c1,c2,c3,c4,c5,c6⟩:=hC
 clear c5 c6
 constructor
 ·intro p q h1 h2 h3 h4
  rw[hd p,hd q]
  have e1:G7 start m ((a+b) / 2+m-start) p=p:=by unfold G7;rw[if_neg (by omega),if_neg (by omega)]
  have e2:G7 start m ((a+b) / 2+m-start) q=q-start+m:=by unfold G7;rw[if_pos (by omega)]
  rw[e1,e2]
  exact ho _ _ h1 (by omega) (by omega) (by omega)
 ·intro p q h1 h2 h3 h4
  rw[hd p,hd q]
  have e1:G7 start m ((a+b) / 2+m-start) p=p-((a+b) / 2+m-start-m):=by unfold G7;rw[if_neg (by omega),if_pos (by omega)]
  have e2:G7 start m ((a+b) / 2+m-start) q=q:=by unfold G7;rw[if_neg (by omega),if_neg (by omega)]
  rw[e1,e2]
  exact ho _ _ (by omega) (by omega) (by omega) (by omega)
theorem B7e{mid e:Nat}(h:PermIn a mid dA dB)(ho:∀ p q,mid≤p→p < e→e≤q→q < b→lt0 dA[q]! dA[p]! = lt dA[q]! dA[p]!):∀ p q,mid≤p→p < e→e≤q→q < b→lt0 dB[q]! dB[p]! = lt dB[q]! dB[p]!:=by
 intro p q h1 h2 h3 h4
 rw[h.2.1 p (by omega),h.2.1 q (by omega)];exact ho p q h1 h2 h3 h4
theorem X7{mid e f:Nat}(h:PermIn a mid dA dB)(hm:mid≤e)(hs:SortedIn lt e f dA):SortedIn lt e f dB:=L0 hs fun i h1 h2=>h.2.1 i (by omega)
theorem Bi1{mid:Nat}(ham:a≤mid)(hmb:mid≤b)(hb:b≤d.size)(hA:PermIn a b d dA)(hx:∀ p q,a≤p→p < mid→mid≤q→q < b→lt dA[q]! dA[p]! = false)(hB:PermIn a mid dA dB)(hBs:SortedIn lt a mid dB)
  (hC:PermIn mid b dB dC) (hCs:SortedIn lt mid b dC):PermIn a b d dC∧SortedIn lt a b dC:=by
 have sA:dA.size=d.size:=hA.1
 have sB:dB.size=dA.size:=hB.1
 refine⟨permIn_trans d dA dC _ _ hA (permIn_trans dA dB dC _ _ (K0 (Nat.le_refl _) hmb (by omega) hB) (K0 ham (Nat.le_refl _) (by omega) hC)),?_⟩
 exact A7z (L0 hBs fun i h1 h2=>hC.2.1 i (by omega)) hCs (Aj4 ham hmb (by omega) hC (Ay6 ham hmb (by omega) hB hx))
end
set_option maxHeartbeats 8000000 in
theorem A25 (hk:∀ x,(enc x).length=k) (lt0 lt:α→α→Bool) (hO:SWO lt) (g:Nat) (lb:Array Value) (sf:Nat) (sb:Array Value) (hg:E4 Tryz.prog g):∀(n:Nat) (w0:World) (d:Array α) (hless:A24 g lb enc k lt0 blk off d.size w0) (hswap:A21 sf sb enc k blk off d.size) (hH:HoldsK enc k w0 blk off d) (hb:blk < w0.heap.size)
  (a m b:Nat) (ham:a < m) (hmb:m < b) (hbn:b≤d.size) (hsz:d.size < 4611686018427387904) (hn:b-a≤n)
  (hord:∀ p q,a≤p→p < m→m≤q→q < b→lt0 d[q]! d[p]! = lt d[q]! d[p]!) (hs1:SortedIn lt a m d) (hs2:SortedIn lt m b d),
  Calls Tryz.prog 221 #[.agg #[.func (.func g) #[] lb,.func (.func sf) #[] sb],.int .i64 a,.int .i64 m,.int .i64 b] w0 fun e w' =>
   e=.returned (.tuple #[])∧∃ d',Fam enc k blk off w0 d' w'∧d'.size=d.size∧PermIn a b d d'∧SortedIn lt a b d':=by
 intro n
 induction n with
 | zero=>intros;omega
 | succ n ih =>
 intro w0 d hless hswap hH hb a m b ham hmb hbn hsz hn hord hs1 hs2
 have HF:=Box.mk (A23 hH g lb sf sb)
 have hb1:blk <(A1a w0 g lb sf sb).heap.size:=by rw[R0];omega
 have HH:=Box.mk (HF.out.holds hb hH rfl)
 have HS:=Box.mk hswap
 have HL:=Box.mk (hless.on hb HF.out rfl)
 have HO:=Box.mk hord
 have H1:=Box.mk hs1
 have H2:=Box.mk hs2
 have IH:=Box.mk ih
 have eg:∀ args w,(callFunc g args).run Tryz.prog w=.ok (.enter g args) w:=fun args w=>N7 hg w
 clear hswap hless hord hs1 hs2 ih
 by_cases hone:m=a+1
 ·have hone1:(m:Int)-a=1:=by omega
  have hma1:m≤a+1:=by omega
  have HM:=Box.mk hone
  clear hone
  go_enter Tryz.func221,Tryz.ntmps221
  go_wp2
  clear hone1
  go_loopw [8,9] (fun v8 v9 wr=>∃(i j:Nat),v8=.int .i64 i∧v9=.int .i64 j∧m≤i∧i≤j∧j≤b∧Box (Fam enc k blk off (A1a w0 g lb sf sb) d wr)∧Box ((∀ h,m≤h→h < i→lt d[h]! d[a]! = true)∧(∀ h,j≤h→h < b→lt d[h]! d[a]! = false))) (fun v8 v9 _=>(intOf v9).toNat-(intOf v8).toNat)
  case atStart=>exact⟨m,b,rfl,rfl,by omega,by omega,by omega,⟨Fam.start HH.out⟩,⟨fun h h1 h2=>by omega,fun h h1 h2=>by omega⟩⟩
  case round =>
   obtain⟨i,j,rfl,rfl,hai,hij,hjb,HW,HI⟩:=hrel
   have c:=H0 hb g lb sf sb HW.out
   have c0:=c.1
   have c1:=c.2
   clear c
   by_cases hlt:i < j
   ·have hl:=HL.out wr d HW.out rfl ((i+j) / 2) a (by omega) (by omega)
    have ho:=HO.out a ((i+j) / 2) (by omega) (by omega) (by omega) (by omega)
    cases hlv:lt d[(i+j) / 2]! d[a]! with
    | true =>
     rw[ho,hlv]at hl
     clear ho
     have HQ:=Box.mk hl
     clear hl
     go_wp2_with (go_at_fn g;refine HQ.out.mono ?_;rintro e w' ⟨rfl,hB⟩;have FB:=Box.mk (HW.out.below hB);clear hB)
     go_roundw
     case rel=>exact⟨(i+j) / 2+1,j,by go_num,rfl,by omega,by omega,by omega,FB,⟨fun h h1 h2=>srA_t hO H2.out (by omega) hlv h1 (by omega),HI.out.2⟩⟩
     case measure=>simp [intOf];omega
    | false =>
     rw[ho,hlv]at hl
     clear ho
     have HQ:=Box.mk hl
     clear hl
     go_wp2_with (go_at_fn g;refine HQ.out.mono ?_;rintro e w' ⟨rfl,hB⟩;have FB:=Box.mk (HW.out.below hB);clear hB)
     go_roundw
     case rel=>exact⟨i,(i+j) / 2,rfl,by go_num,by omega,by omega,by omega,FB,⟨HI.out.1,fun h h1 h2=>srA_f hO H2.out (by omega) hlv h1 h2⟩⟩
     case measure=>simp [intOf];omega
   ·obtain rfl:i=j:=by omega
    go_wp2
    go_loopw [11] (fun v11 wz=>∃(c:Nat) (dk:Array α),v11=.int .i64 c∧a≤c∧c+1≤i∧dk.size=d.size∧Box (Fam enc k blk off (A1a w0 g lb sf sb) dk wz)∧Box (PermIn a b d dk∧∀ q,dk[q]! = d[G7 a (a+1) (c+1) q]!)) (fun v11 _=>i-(intOf v11).toNat)
    case atStart=>exact⟨a,d,rfl,by omega,by omega,rfl,HW,⟨permIn_refl d _ _,fun q=>by rw[B1y]⟩⟩
    case round =>
     obtain⟨c,dk,rfl,hac,hci,hsk,HK,HD⟩:=hrel
     have c1':=(H0 hb g lb sf sb HK.out).2
     clear c0 c1
     by_cases hend:c+1 < i
     ·have hs:=HS.out wr dk (HK.out.holds hb1 HH.out hsk) hsk c (c+1) (by omega) (by omega) (by omega)
      rw[show((c+1:Nat):Int)=(c:Int)+1 by omega]at hs
      have hend1:(c:Int) <(i:Int)-1:=by omega
      go_wp2
      go_roundw
      case rel =>
       exact⟨c+1,swp dk c (c+1),by go_num,by omega,by omega,by rw[Sort.size_swp];exact hsk,⟨HK.out.swap hk hb1 _ _ (by omega) (by omega)⟩,
        ⟨permIn_trans d dk _ _ _ HD.out.1 (swp_permIn dk a b c (c+1) (by omega) (by omega) (by omega) (by omega) (by omega)),Bd2 hac (by omega) hsk HD.out.2⟩⟩
      case measure=>simp [intOf];omega
     ·obtain rfl:i=c+1:=by omega
      have hend1:¬(c:Int) <((c+1:Nat):Int)-1:=by omega
      go_wp2
      (try simp only [Exit.inBlock,Exit.then]);refine bodyPost_ret (results_none rfl _ _ _) rfl ?_
      obtain rfl:=HM.out
      exact⟨rfl,dk,HF.out.trans hb HK.out hsk,hsk,HD.out.1,A63 hO H2.out (by omega) (by omega) (fun h h1 h2=>HI.out.1 h h1 h2) (fun h h1 h2=>HI.out.2 h h1 h2) HD.out.2⟩
 ·by_cases hlast:b=m+1
  ·have hone1:(b:Int)-m=1:=by omega
   have hone0:¬(m:Int)-a=1:=by omega
   have hma1:b≤m+1:=by omega
   have hma2:a+2≤m:=by omega
   have HM:=Box.mk hlast
   clear hlast hone
   go_enter Tryz.func221,Tryz.ntmps221
   go_wp2
   clear hone1 hone0
   have hx:((m:Int)-a == 1)=false:=beq_false_of_ne (by omega)
   try simp only [hx]
   clear hx
   go_loopw [12,13] (fun v8 v9 wr=>∃(i j:Nat),v8=.int .i64 i∧v9=.int .i64 j∧a≤i∧i≤j∧j≤m∧Box (Fam enc k blk off (A1a w0 g lb sf sb) d wr)∧Box ((∀ h,a≤h→h < i→lt d[m]! d[h]! = false)∧(∀ h,j≤h→h < m→lt d[m]! d[h]! = true))) (fun v8 v9 _=>(intOf v9).toNat-(intOf v8).toNat)
   case atStart=>exact⟨a,m,rfl,rfl,by omega,by omega,by omega,⟨Fam.start HH.out⟩,⟨fun h h1 h2=>by omega,fun h h1 h2=>by omega⟩⟩
   case round =>
    obtain⟨i,j,rfl,rfl,hai,hij,hjb,HW,HI⟩:=hrel
    have c:=H0 hb g lb sf sb HW.out
    have c0:=c.1
    have c1:=c.2
    clear c
    by_cases hlt:i < j
    ·have hl:=HL.out wr d HW.out rfl m ((i+j) / 2) (by omega) (by omega)
     have ho:=HO.out ((i+j) / 2) m (by omega) (by omega) (by omega) (by omega)
     cases hlv:lt d[m]! d[(i+j) / 2]! with
     | false =>
      rw[ho,hlv]at hl
      clear ho
      have HQ:=Box.mk hl
      clear hl
      go_wp2_with (go_at_fn g;refine HQ.out.mono ?_;rintro e w' ⟨rfl,hB⟩;have FB:=Box.mk (HW.out.below hB);clear hB)
      go_roundw
      case rel=>exact⟨(i+j) / 2+1,j,by go_num,rfl,by omega,by omega,by omega,FB,⟨fun h h1 h2=>srB_f hO H1.out (by omega) hlv h1 (by omega),HI.out.2⟩⟩
      case measure=>simp [intOf];omega
     | true =>
      rw[ho,hlv]at hl
      clear ho
      have HQ:=Box.mk hl
      clear hl
      go_wp2_with (go_at_fn g;refine HQ.out.mono ?_;rintro e w' ⟨rfl,hB⟩;have FB:=Box.mk (HW.out.below hB);clear hB)
      go_roundw
      case rel=>exact⟨i,(i+j) / 2,rfl,by go_num,by omega,by omega,by omega,FB,⟨HI.out.1,fun h h1 h2=>srB_t hO H1.out (by omega) hlv h1 h2⟩⟩
      case measure=>simp [intOf];omega
    ·obtain rfl:i=j:=by omega
     go_wp2
     go_loopw [15] (fun v11 wz=>∃(c:Nat) (dk:Array α),v11=.int .i64 c∧i≤c∧c≤m∧dk.size=d.size∧Box (Fam enc k blk off (A1a w0 g lb sf sb) dk wz)∧Box (PermIn a b d dk∧∀ q,dk[q]! = d[G7 c m (m+1) q]!)) (fun v11 _=>(intOf v11).toNat-i)
     case atStart=>exact⟨m,d,rfl,by omega,by omega,rfl,HW,⟨permIn_refl d _ _,fun q=>by rw[B20]⟩⟩
     case round =>
      obtain⟨c,dk,rfl,hac,hci,hsk,HK,HD⟩:=hrel
      have c1':=(H0 hb g lb sf sb HK.out).2
      clear c0 c1
      by_cases hend:i < c
      ·have hs:=HS.out wr dk (HK.out.holds hb1 HH.out hsk) hsk c (c-1) (by omega) (by omega) (by omega)
       rw[show((c-1:Nat):Int)=(c:Int)-1 by omega]at hs
       go_wp2
       go_roundw
       case rel =>
        have hd:=B1z (d:=d) (dk:=dk) (c:=c-1) (m:=m) (by omega) (by omega) hsk
        rw[show c-1+1=c by omega]at hd
        exact⟨c-1,swp dk c (c-1),by go_num,by omega,by omega,by rw[Sort.size_swp];exact hsk,⟨HK.out.swap hk hb1 _ _ (by omega) (by omega)⟩,
         ⟨permIn_trans d dk _ _ _ HD.out.1 (swp_permIn dk a b c (c-1) (by omega) (by omega) (by omega) (by omega) (by omega)),hd HD.out.2⟩⟩
       case measure=>simp [intOf];omega
      ·obtain rfl:i=c:=by omega
       go_wp2
       (try simp only [Exit.inBlock,Exit.then]);refine bodyPost_ret (results_none rfl _ _ _) rfl ?_
       obtain rfl:=HM.out
       exact⟨rfl,dk,HF.out.trans hb HK.out hsk,hsk,HD.out.1,A4h hO H1.out (by omega) (by omega) (fun h h1 h2=>HI.out.1 h h1 h2) (fun h h1 h2=>HI.out.2 h h1 h2) HD.out.2⟩
  ·have hone1:¬(b:Int)-m=1:=by omega
   have hone0:¬(m:Int)-a=1:=by omega
   clear hlast hone
   have hmid1:2*((a+b) / 2)≤a+b:=by omega
   have hmid2:a+b≤2*((a+b) / 2)+1:=by omega
   go_enter Tryz.func221,Tryz.ntmps221
   go_upto_if 106 with fail
   go_cut [18,19] (fun s18 s19 wx=>wx=A1a w0 g lb sf sb∧∃ s0 r0:Nat,s18=.int .i64 s0∧s19=.int .i64 r0∧a≤s0∧(a+b) / 2+m≤b+s0∧(s0=a∨s0+b=(a+b) / 2+m)∧r0≤m∧r0≤(a+b) / 2∧(r0=m∨r0=(a+b) / 2)∧s0≤r0)
   case first =>
    by_cases hm:(a+b) / 2 < m
    ·go_wp2
     go_meet
     case rel=>exact⟨rfl,(a+b) / 2+m-b,(a+b) / 2,by go_num,by go_num,by omega,by omega,by omega,by omega,by omega,by omega,by omega⟩
    ·go_wp2
     go_meet
     case rel=>exact⟨rfl,a,m,by go_num,by go_num,by omega,by omega,by omega,by omega,by omega,by omega,by omega⟩
   case rest =>
    obtain⟨rfl,s0,r0,rfl,rfl,g1,g2,g3,g4,g5,g6,g7⟩:=hcut
    go_wp2
    clear hone0 hone1
    go_loopw [18,19] (fun v8 v9 wr=>∃(i j:Nat),v8=.int .i64 i∧v9=.int .i64 j∧s0≤i∧i≤j∧j≤r0∧Box (Fam enc k blk off (A1a w0 g lb sf sb) d wr)∧Box ((∀ c,a≤c→(a+b) / 2+m≤b+c→c < i→lt d[(a+b) / 2+m-1-c]! d[c]! = false)∧(∀ c,j≤c→c < m→c <(a+b) / 2→lt d[(a+b) / 2+m-1-c]! d[c]! = true))) (fun v8 v9 _=>(intOf v9).toNat-(intOf v8).toNat)
    case atStart=>exact⟨s0,r0,rfl,rfl,by omega,by omega,by omega,⟨Fam.start HH.out⟩,⟨fun h h1 h2 h3=>by omega,fun h h1 h2 h3=>by omega⟩⟩
    case round =>
     obtain⟨i,j,rfl,rfl,hai,hij,hjb,HW,HI⟩:=hrel
     by_cases hlt:i < j
     ·have c:=H0 hb g lb sf sb HW.out
      have c0:=c.1
      have c1:=c.2
      clear c
      have hl:=HL.out wr d HW.out rfl ((a+b) / 2+m-1-(i+j) / 2) ((i+j) / 2) (by omega) (by omega)
      have ho:=HO.out ((i+j) / 2) ((a+b) / 2+m-1-(i+j) / 2) (by omega) (by omega) (by omega) (by omega)
      cases hlv:lt d[(a+b) / 2+m-1-(i+j) / 2]! d[(i+j) / 2]! with
      | false =>
       rw[ho,hlv,show(((a+b) / 2+m-1-(i+j) / 2:Nat):Int)=((a:Int)+b) / 2+m-1-((i:Int)+j) / 2 by omega]at hl
       clear ho
       have HQ:=Box.mk hl
       clear hl
       go_wp2_with (go_at_fn g;refine HQ.out.mono ?_;rintro e w' ⟨rfl,hB⟩;have FB:=Box.mk (HW.out.below hB);clear hB)
       go_roundw
       case rel=>exact⟨(i+j) / 2+1,j,by go_num,rfl,by omega,by omega,by omega,FB,⟨fun c h1 h2 h3=>srC_f hO H1.out H2.out (by omega) (by omega) hlv h1 (by omega) (by omega),HI.out.2⟩⟩
       case measure=>simp [intOf];omega
      | true =>
       rw[ho,hlv,show(((a+b) / 2+m-1-(i+j) / 2:Nat):Int)=((a:Int)+b) / 2+m-1-((i:Int)+j) / 2 by omega]at hl
       clear ho
       have HQ:=Box.mk hl
       clear hl
       go_wp2_with (go_at_fn g;refine HQ.out.mono ?_;rintro e w' ⟨rfl,hB⟩;have FB:=Box.mk (HW.out.below hB);clear hB)
       go_roundw
       case rel=>exact⟨i,(i+j) / 2,rfl,by go_num,by omega,by omega,by omega,FB,⟨HI.out.1,fun c h1 h2 h3=>srC_t hO H1.out H2.out (by omega) (by omega) hlv h1 h2 (by omega)⟩⟩
       case measure=>simp [intOf];omega
     ·obtain rfl:i=j:=by omega
      have HC:=Box.mk (Cut.mk (lt:=lt) (a:=a) (m:=m) (b:=b) (start:=i) (d:=d) (by omega) (by omega) (by omega) (by omega) HI.out.1 HI.out.2)
      have he:(((a+b) / 2+m-i:Nat):Int)=((a:Int)+b) / 2+m-i:=by omega
      have HE:=Box.mk he
      clear he
      go_upto_region 40 with fail
      go_cut [145] (fun s wx=>wx=wr∧s=.bool (decide (i < m∧m <(a+b) / 2+m-i)))
      case first =>
       by_cases h1:i < m
       ·by_cases h2:m <(a+b) / 2+m-i
        ·go_wp2
         go_meet
         case rel=>exact⟨rfl,(congrArg Value.bool (by first | exact(decide_eq_true (by omega)).symm | exact(decide_eq_false (by omega)).symm | exact decide_eq_decide.mpr (by omega)))⟩
        ·go_wp2
         go_meet
         case rel=>exact⟨rfl,(congrArg Value.bool (by first | exact(decide_eq_true (by omega)).symm | exact(decide_eq_false (by omega)).symm | exact decide_eq_decide.mpr (by omega)))⟩
       ·go_wp2
        go_meet
        case rel=>exact⟨rfl,(congrArg Value.bool (by first | exact(decide_eq_true (by omega)).symm | exact(decide_eq_false (by omega)).symm | exact decide_eq_decide.mpr (by omega)))⟩
      case rest =>
       obtain⟨rfl,rfl⟩:=hcut
       go_upto_if 145 with fail
       go_cut [] (fun wx=>∃ dA,Box (Fam enc k blk off (A1a w0 g lb sf sb) dA wx)∧Box (dA.size=d.size)∧Box (PermIn a b d dA∧∀ q,dA[q]! = d[G7 i m ((a+b) / 2+m-i) q]!))
       case first =>
        by_cases h12:i < m∧m <(a+b) / 2+m-i
        ·have hc:=Al8 hk g lb sf sb wc d HS.out (HW.out.holds hb1 HH.out rfl) (by have:=HW.out.size;omega) i m ((a+b) / 2+m-i) h12.1 h12.2 (by omega) hsz
         rw[HE.out]at hc
         have HQ:=Box.mk hc
         have c:=H0 hb g lb sf sb HW.out
         have c0:=c.1
         have c1:=c.2
         clear c
         have h12b:decide (i < m∧m <(a+b) / 2+m-i)=true:=decide_eq_true h12
         clear hc
         go_wp2_with (go_at_call 242;refine HQ.out.mono ?_;rintro e w1 ⟨rfl,dA,f1,f2,f3,f4⟩;have FA:=Box.mk (HW.out.trans hb1 f1 f2);have SA:=Box.mk f2;have PA:=Box.mk f3;have RA:=Box.mk f4;clear f1 f2 f3 f4)
         go_meet
         case rel=>exact⟨dA,FA,SA,⟨K0 (by omega) (by omega) (by omega) PA.out,RA.out⟩⟩
        ·have h12b:decide (i < m∧m <(a+b) / 2+m-i)=false:=decide_eq_false h12
         go_wp2_with fail
         go_meet
         case rel=>exact⟨d,HW,⟨rfl⟩,⟨permIn_refl d _ _,fun q=>by rw[B7d (by omega) (by omega) (by omega)]⟩⟩
       case rest =>
        obtain⟨dA,FA,SA,PA⟩:=hcut
        have HP:=Box.mk (B21 hO H1.out H2.out ham hmb HC.out PA.out.2)
        have HR:=Box.mk (Bi0 ham hmb HC.out PA.out.2 HO.out)
        clear HW
        go_upto_region 42 with fail
        go_cut [158] (fun s wx=>wx=wc∧s=.bool (decide (a < i∧i <(a+b) / 2)))
        case first =>
         by_cases h1:a < i
         ·by_cases h2:i <(a+b) / 2
          ·go_wp2
           go_meet
           case rel=>exact⟨rfl,(congrArg Value.bool (by first | exact(decide_eq_true (by omega)).symm | exact(decide_eq_false (by omega)).symm | exact decide_eq_decide.mpr (by omega)))⟩
          ·go_wp2
           go_meet
           case rel=>exact⟨rfl,(congrArg Value.bool (by first | exact(decide_eq_true (by omega)).symm | exact(decide_eq_false (by omega)).symm | exact decide_eq_decide.mpr (by omega)))⟩
         ·go_wp2
          go_meet
          case rel=>exact⟨rfl,(congrArg Value.bool (by first | exact(decide_eq_true (by omega)).symm | exact(decide_eq_false (by omega)).symm | exact decide_eq_decide.mpr (by omega)))⟩
        case rest =>
         obtain⟨rfl,rfl⟩:=hcut
         go_upto_if 158 with fail
         go_cut [] (fun wx=>∃ dB,Box (Fam enc k blk off (A1a w0 g lb sf sb) dB wx)∧Box (dB.size=d.size)∧Box (PermIn a ((a+b) / 2) dA dB∧SortedIn lt a ((a+b) / 2) dB))
         case first =>
          by_cases h12:a < i∧i <(a+b) / 2
          ·have hc:=IH.out wc dA (by rw[SA.out];exact HL.out.on hb1 FA.out SA.out) (by rw[SA.out];exact HS.out) (FA.out.holds hb1 HH.out SA.out) (by have:=FA.out.size;omega) a i ((a+b) / 2) h12.1 h12.2 (by rw[SA.out];omega) (by rw[SA.out];exact hsz) (by omega) HR.out.1 HP.out.1 HP.out.2.1
           rw[show((((a+b) / 2:Nat)):Int)=((a:Int)+b) / 2 by omega]at hc
           have HQ:=Box.mk hc
           have c:=H0 hb g lb sf sb FA.out
           have c0:=c.1
           have c1:=c.2
           clear c
           have h12b:decide (a < i∧i <(a+b) / 2)=true:=decide_eq_true h12
           clear hc
           go_wp2_with (go_at_call 221;refine HQ.out.mono ?_;rintro e w1 ⟨rfl,dB,f1,f2,f3,f4⟩;have FB:=Box.mk (FA.out.trans hb1 f1 f2);have SB:=Box.mk (f2.trans SA.out);have PB:=Box.mk f3;have RB:=Box.mk f4;clear f1 f2 f3 f4)
           go_meet
           case rel=>exact⟨dB,FB,SB,⟨PB.out,RB.out⟩⟩
          ·have h12b:decide (a < i∧i <(a+b) / 2)=false:=decide_eq_false h12
           go_wp2_with fail
           go_meet
           case rel =>
            refine⟨dA,FA,SA,⟨permIn_refl dA _ _,?_⟩⟩
            have q1:=HC.out.hi2
            have q2:=HC.out.lo
            rcases Nat.lt_or_ge a i with q3 | q3
            ·have q4:i=(a+b) / 2:=by omega
             have q5:=HP.out.1
             rw[q4]at q5
             exact q5
            ·have q4:i=a:=by omega
             have q5:=HP.out.2.1
             rw[q4]at q5
             exact q5
         case rest =>
          obtain⟨dB,FB,SB,PB⟩:=hcut
          go_upto_region 44 with fail
          go_cut [171] (fun s wx=>wx=wc∧s=.bool (decide ((a+b) / 2 <(a+b) / 2+m-i∧(a+b) / 2+m-i < b)))
          case first =>
           by_cases h1:(a+b) / 2 <(a+b) / 2+m-i
           ·by_cases h2:(a+b) / 2+m-i < b
            ·go_wp2
             go_meet
             case rel=>exact⟨rfl,(congrArg Value.bool (by first | exact(decide_eq_true (by omega)).symm | exact(decide_eq_false (by omega)).symm | exact decide_eq_decide.mpr (by omega)))⟩
            ·go_wp2
             go_meet
             case rel=>exact⟨rfl,(congrArg Value.bool (by first | exact(decide_eq_true (by omega)).symm | exact(decide_eq_false (by omega)).symm | exact decide_eq_decide.mpr (by omega)))⟩
           ·go_wp2
            go_meet
            case rel=>exact⟨rfl,(congrArg Value.bool (by first | exact(decide_eq_true (by omega)).symm | exact(decide_eq_false (by omega)).symm | exact decide_eq_decide.mpr (by omega)))⟩
          case rest =>
           obtain⟨rfl,rfl⟩:=hcut
           have PA1:=PA.out.1
           have HX:=Box.mk (fun dC h1 h2=>Bi1 (lt:=lt) (mid:=(a+b) / 2) (dC:=dC) (by omega) (by omega) hbn PA1 HP.out.2.2.2.2 PB.out.1 PB.out.2 h1 h2)
           clear PA1
           by_cases h12:(a+b) / 2 <(a+b) / 2+m-i∧(a+b) / 2+m-i < b
           ·have hc:=IH.out wc dB (by rw[SB.out];exact HL.out.on hb1 FB.out SB.out) (by rw[SB.out];exact HS.out) (FB.out.holds hb1 HH.out SB.out) (by have:=FB.out.size;omega) ((a+b) / 2) ((a+b) / 2+m-i) b h12.1 h12.2 (by rw[SB.out];omega) (by rw[SB.out];exact hsz) (by omega) (B7e PB.out.1 HR.out.2) (X7 PB.out.1 (Nat.le_refl _) HP.out.2.2.1) (X7 PB.out.1 (by omega) HP.out.2.2.2.1)
            rw[HE.out,show((((a+b) / 2:Nat)):Int)=((a:Int)+b) / 2 by omega]at hc
            have HQ:=Box.mk hc
            have c:=H0 hb g lb sf sb FB.out
            have c0:=c.1
            have c1:=c.2
            clear c
            have h12b:decide ((a+b) / 2 <(a+b) / 2+m-i∧(a+b) / 2+m-i < b)=true:=decide_eq_true h12
            clear hc
            go_wp2_with (go_at_call 221;refine HQ.out.mono ?_;rintro e w1 ⟨rfl,dC,f1,f2,f3,f4⟩;have FC:=Box.mk (FB.out.trans hb1 f1 f2);have SC:=Box.mk (f2.trans SB.out);have PC:=Box.mk f3;have RC:=Box.mk f4;clear f1 f2 f3 f4)
            go_end0
            exact⟨rfl,dC,HF.out.trans hb FC.out SC.out,SC.out,HX.out dC PC.out RC.out⟩
           ·have h12b:decide ((a+b) / 2 <(a+b) / 2+m-i∧(a+b) / 2+m-i < b)=false:=decide_eq_false h12
            go_wp2_with fail
            go_end0
            refine⟨rfl,dB,HF.out.trans hb FB.out SB.out,SB.out,HX.out dB (permIn_refl dB _ _) ?_⟩
            have q1:=HC.out.hi
            have q2:=HC.out.lo2
            have q6:=HC.out.hi2
            rcases Nat.lt_or_ge ((a+b) / 2) ((a+b) / 2+m-i)with q3 | q3
            ·have q4:(a+b) / 2+m-i=b:=by omega
             have q5:=X7 PB.out.1 (Nat.le_refl _) HP.out.2.2.1
             rw[q4]at q5
             exact q5
            ·have q4:(a+b) / 2+m-i=(a+b) / 2:=by omega
             have q5:=X7 PB.out.1 (by omega) HP.out.2.2.2.1
             rw[q4]at q5
             exact q5
end
end Go.Proofs.YtaiepnaokhpmcaaGreat
namespace Go.Proofs.YtaiepnaokhpmcaaGreat
open Go.E
set_option maxRecDepth 100000
set_option maxHeartbeats 4000000
open Go Go.Sort Go.RowKit Go.Lib Go.Shelf Go.Proofs
section
variable {α : Type} [Inhabited α] {enc : α → List Value} {k blk off : Nat}
section
variable {lt0 lt : α → α → Bool} {d d' dk : Array α} {a b c n B : Nat}
def OB(lt0 lt:α→α→Bool)(n c:Nat)(d:Array α):Prop:=∀ p q,p < c→c≤q→q < n→lt0 d[q]! d[p]! = lt d[q]! d[p]!
theorem OB.keep(h:PermIn a b d d')(hb:b≤d.size)(hc:c≤a∨b≤c)(ho:OB lt0 lt n c d)(hbn:b≤n):OB lt0 lt n c d':=by
 intro p q h1 h2 h3
 rcases hc with hc | hc
 ·rw[h.2.1 p (by omega)]
  by_cases hq:a≤q∧q < b
  ·exact permIn_all d d' a b (fun x=>lt0 x d[p]! = lt x d[p]!) hb h (fun i hi him=>ho p i h1 (by omega) (by omega)) q hq.1 hq.2
  ·rw[h.2.1 q (by omega)];exact ho p q h1 h2 h3
 ·rw[h.2.1 q (by omega)]
  by_cases hp:a≤p∧p < b
  ·exact permIn_all d d' a b (fun x=>lt0 d[q]! x=lt d[q]! x) hb h (fun i hi him=>ho i q (by omega) h2 h3) p hp.1 hp.2
  ·rw[h.2.1 p (by omega)];exact ho p q h1 h2 h3
theorem Y6(h1:B ∣ c)(h2:B ∣ a)(h:c < a):c+B≤a:=by
 obtain⟨x,rfl⟩:=h1
 obtain⟨y,rfl⟩:=h2
 have hxy:x < y:=by
  rcases Nat.lt_or_ge x y with h' | h'
  ·exact h'
  ·exact absurd h (Nat.not_lt.mpr (Nat.mul_le_mul_left B h'))
 calc B*x+B=B*(x+1):=by rw[Nat.mul_add,Nat.mul_one]
  _≤B*y:=Nat.mul_le_mul_left B hxy
theorem Al9(h:2*B ∣ c):B ∣ c:=Nat.dvd_trans ⟨2,Nat.mul_comm 2 B⟩ h
structure Blocks (lt0 lt:α→α→Bool) (B n:Nat) (d:Array α):Prop where
 hi:∀ c,B ∣ c→SortedIn lt c (min (c+B) n) d
 o:∀ c,B ∣ c→OB lt0 lt n c d
structure Pass (lt0 lt:α→α→Bool) (B n a:Nat) (d:Array α):Prop where
 al:2*B ∣ a
 lo:∀ c,2*B ∣ c→c < a→SortedIn lt c (c+2*B) d
 hi:∀ c,B ∣ c→a≤c→SortedIn lt c (min (c+B) n) d
 o1:∀ c,2*B ∣ c→OB lt0 lt n c d
 o2:∀ c,B ∣ c→a≤c→OB lt0 lt n c d
theorem Blocks.start(h:Blocks lt0 lt B n d):Pass lt0 lt B n 0 d:=⟨Nat.dvd_zero _,fun c _ h1=>absurd h1 (Nat.not_lt_zero c),fun c h1 _=>h.hi c h1,fun c h1=>h.o c (Al9 h1),fun c h1 _=>h.o c h1⟩
theorem Pass.args(h:Pass lt0 lt B n a d)(hb:b≤n)(h1:a+B < b)(h2:b=a+2*B∨(b=n∧b≤a+2*B)) :
  (∀ p q,a≤p→p < a+B→a+B≤q→q < b→lt0 d[q]! d[p]! = lt d[q]! d[p]!)∧SortedIn lt a (a+B) d∧SortedIn lt (a+B) b d:=by
 have hB:B ∣ a:=Al9 h.al
 have hB2:B ∣ a+B:=Nat.dvd_add hB (Nat.dvd_refl B)
 refine⟨fun p q _ k2 k3 k4=>h.o2 (a+B) hB2 (by omega) p q k2 k3 (by omega),?_,?_⟩
 ·have:=h.hi a hB (Nat.le_refl _);rw[show min (a+B) n=a+B by omega]at this;exact this
 ·have:=h.hi (a+B) hB2 (by omega);rw[show min (a+B+B) n=b by omega]at this;exact this
theorem Pass.step(h:Pass lt0 lt B n a d)(hB:0 < B)(hn:n=d.size)(hb:a+2*B≤n)(hp:PermIn a (a+2*B) d d')(hs:SortedIn lt a (a+2*B) d'):Pass lt0 lt B n (a+2*B) d':=by
 refine⟨Nat.dvd_add h.al (Nat.dvd_refl _),fun c h1 h2=>?_,fun c h1 h2=>?_,fun c h1=>?_,fun c h1 h2=>?_⟩
 ·rcases Nat.lt_or_ge c a with h3 | h3
  ·have:=Y6 h1 h.al h3
   exact L0 (h.lo c h1 h3) fun i k1 k2=>hp.2.1 i (by omega)
  ·have h4:c=a:=by
    rcases Nat.lt_or_ge a c with h5 | h5
    ·have:=Y6 h.al h1 h5;omega
    ·omega
   rw[h4];exact hs
 ·exact L0 (h.hi c h1 (by omega)) fun i k1 k2=>hp.2.1 i (by omega)
 ·refine OB.keep hp (by omega) ?_ (h.o1 c h1) hb
  rcases Nat.lt_or_ge a c with h5 | h5
  ·exact Or.inr (Y6 h.al h1 h5)
  ·exact Or.inl h5
 ·exact OB.keep hp (by omega) (Or.inr h2) (h.o2 c h1 (by omega)) hb
theorem Pass.last(h:Pass lt0 lt B n a d)(hB:0 < B)(hn:n=d.size)(ha:a≤n)(hb:n < a+2*B)(hp:PermIn a n d d')(hs:SortedIn lt a n d'):Blocks lt0 lt (2*B) n d':=by
 refine⟨fun c h1=>?_,fun c h1=>?_⟩
 ·rcases Nat.lt_or_ge c a with h3 | h3
  ·have:=Y6 h1 h.al h3
   rw[show min (c+2*B) n=c+2*B by omega]
   exact L0 (h.lo c h1 h3) fun i k1 k2=>hp.2.1 i (by omega)
  ·rcases Nat.lt_or_ge a c with h5 | h5
   ·have:=Y6 h.al h1 h5
    intro i j k1 k2 k3;omega
   ·have h4:c=a:=by omega
    rw[h4,show min (a+2*B) n=n by omega];exact hs
 ·rcases Nat.lt_or_ge a c with h5 | h5
  ·intro p q k1 k2 k3
   have:=Y6 h.al h1 h5
   omega
  ·exact OB.keep hp (by omega) (Or.inl h5) (h.o1 c h1) (Nat.le_refl _)
theorem Pass.skip(h:Pass lt0 lt B n a d)(hb:n≤a+B):SortedIn lt a n d:=by
 have:=h.hi a (Al9 h.al) (Nat.le_refl _);rw[show min (a+B) n=n by omega]at this;exact this
theorem Blocks.all(h:Blocks lt0 lt B n d)(hb:n≤B):SortedIn lt 0 n d:=by
 have:=h.hi 0 (Nat.dvd_zero _);rw[show min (0+B) n=n by omega]at this;exact this
theorem A26(a i:Nat):∀(j:Nat) (d:Array α),a≤j→j≤i→i < d.size→PermIn a (i+1) d (insInner lt a j d)
 | 0,d,_,_,_=>permIn_refl d _ _
 | j+1,d,h1,h2,h3=>by
  unfold insInner
  split
  ·rename_i hc
   simp only [Bool.and_eq_true,decide_eq_true_eq]at hc
   exact permIn_trans _ _ _ a (i+1) (swp_permIn d a (i+1) (j+1) j (by omega) (by omega) (by omega) (by omega) (by omega)) (A26 a i j (swp d (j+1) j) (by omega) (by omega) (by rw[Sort.size_swp];exact h3))
  ·exact permIn_refl d _ _
theorem A0u(a:Nat):∀(j:Nat) (d:Array α),j < d.size→(∀ p,a≤p→p < j→lt0 d[j]! d[p]! = lt d[j]! d[p]!)→insInner lt0 a j d=insInner lt a j d
 | 0,d,_,_=>rfl
 | j+1,d,hj,h=>by
  unfold insInner
  by_cases hc:a < j+1
  ·rw[h j (by omega) (by omega)]
   split
   ·refine A0u a j (swp d (j+1) j) (by rw[Sort.size_swp];omega) fun p h1 h2=>?_
    rw[swp_get d (by omega) (by omega),swp_get d (by omega) (by omega)]
    rw[if_pos rfl,if_neg (by omega),if_neg (by omega)]
    exact h p h1 (by omega)
   ·rfl
  ·rw[if_neg (by simp;omega),if_neg (by simp;omega)]
theorem A0v(a b:Nat):∀(m i:Nat) (d:Array α),b-i=m→a < i→b≤d.size→(∀ p q,a≤p→p < q→i≤q→q < b→lt0 d[q]! d[p]! = lt d[q]! d[p]!)→insOuter lt0 a b i d=insOuter lt a b i d
 | 0,i,d,hm,_,_,_=>by rw[insOuter_stop lt0 a b i d (by omega),insOuter_stop lt a b i d (by omega)]
 | m+1,i,d,hm,hai,hb,h=>by
  rw[insOuter_go lt0 a b i d (by omega),insOuter_go lt a b i d (by omega),A0u a i d (by omega) (fun p h1 h2=>h p i h1 h2 (Nat.le_refl _) (by omega))]
  have hp:PermIn a (i+1) d (insInner lt a i d):=A26 a i i d (by omega) (Nat.le_refl _) (by omega)
  refine A0v a b m (i+1) _ (by omega) (by omega) (by rw[hp.1];exact hb) fun p q h1 h2 h3 h4=>?_
  rw[hp.2.1 q (by omega)]
  by_cases hpi:p < i+1
  ·exact permIn_all d _ a (i+1) (fun x=>lt0 d[q]! x=lt d[q]! x) (by omega) hp (fun r k1 k2=>h r q k1 (by omega) (by omega) h4) p h1 hpi
  ·rw[hp.2.1 p (by omega)];exact h p q h1 h2 (by omega) h4
theorem A4y(hb:b≤d.size)(h:∀ p q,a≤p→p < q→q < b→lt0 d[q]! d[p]! = lt d[q]! d[p]!):Sort.insertionSort lt0 d a b=Sort.insertionSort lt d a b :=
 A0v a b _ (a+1) d rfl (by omega) hb fun p q h1 h2 _ h4=>h p q h1 h2 h4
structure First (lt0 lt:α→α→Bool) (B a:Nat) (d dk:Array α):Prop where
 sz:dk.size=d.size
 p:PermIn 0 d.size d dk
 al:B ∣ a
 lo:∀ c,B ∣ c→c < a→SortedIn lt c (c+B) dk
 o:∀ c,B ∣ c→OB lt0 lt d.size c dk
 same:∀ q,a≤q→dk[q]! = d[q]!
theorem First.start(hord:∀ p q,p < q→q < d.size→lt0 d[q]! d[p]! = lt d[q]! d[p]!):First lt0 lt B 0 d d :=
 ⟨rfl,permIn_refl d _ _,Nat.dvd_zero _,fun c _ h=>absurd h (Nat.not_lt_zero c),fun c _ p q h1 h2 h3=>hord p q (by omega) h3,fun _ _=>rfl⟩
theorem First.agree(h:First lt0 lt B a d dk)(hord:∀ p q,p < q→q < d.size→lt0 d[q]! d[p]! = lt d[q]! d[p]!)(hb:b≤d.size):Sort.insertionSort lt0 dk a b=Sort.insertionSort lt dk a b :=
 A4y (by rw[h.sz];exact hb) fun p q h1 h2 h3=>by rw[h.same p h1,h.same q (by omega)];exact hord p q h2 (by omega)
theorem First.step(h:First lt0 lt B a d dk)(hO:SWO lt)(hB:0 < B)(hb:a+B≤d.size):First lt0 lt B (a+B) d (Sort.insertionSort lt dk a (a+B)):=by
 obtain⟨hp,hs⟩:=insertionSort_holds hO dk a (a+B) (by omega) (by rw[h.sz];exact hb)
 refine⟨hp.1.trans h.sz,permIn_trans _ _ _ _ _ h.p (K0 (Nat.zero_le _) hb (by rw[h.sz];exact Nat.le_refl _) hp),Nat.dvd_add h.al (Nat.dvd_refl _),fun c h1 h2=>?_,fun c h1=>?_,fun q hq=>?_⟩
 ·rcases Nat.lt_or_ge c a with h3 | h3
  ·have:=Y6 h1 h.al h3
   exact L0 (h.lo c h1 h3) fun i k1 k2=>hp.2.1 i (by omega)
  ·have h4:c=a:=by
    rcases Nat.lt_or_ge a c with h5 | h5
    ·have:=Y6 h.al h1 h5;omega
    ·omega
   rw[h4];exact hs
 ·refine OB.keep hp (by rw[h.sz];exact hb) ?_ (h.o c h1) hb
  rcases Nat.lt_or_ge a c with h5 | h5
  ·exact Or.inr (Y6 h.al h1 h5)
  ·exact Or.inl h5
 ·rw[hp.2.1 q (by omega)];exact h.same q (by omega)
theorem First.last(h:First lt0 lt B a d dk)(hO:SWO lt)(hB:0 < B)(ha:a≤d.size)(hb:d.size < a+B):Blocks lt0 lt B d.size (Sort.insertionSort lt dk a d.size)∧PermIn 0 d.size d (Sort.insertionSort lt dk a d.size):=by
 obtain⟨hp,hs⟩:=insertionSort_holds hO dk a d.size ha (by rw[h.sz];exact Nat.le_refl _)
 refine⟨⟨fun c h1=>?_,fun c h1=>?_⟩,permIn_trans _ _ _ _ _ h.p (K0 (Nat.zero_le _) (Nat.le_refl _) (by rw[h.sz];exact Nat.le_refl _) hp)⟩
 ·rcases Nat.lt_or_ge c a with h3 | h3
  ·have:=Y6 h1 h.al h3
   rw[show min (c+B) d.size=c+B by omega]
   exact L0 (h.lo c h1 h3) fun i k1 k2=>hp.2.1 i (by omega)
  ·rcases Nat.lt_or_ge a c with h5 | h5
   ·have:=Y6 h.al h1 h5
    intro i j k1 k2 k3;omega
   ·have h4:c=a:=by omega
    rw[h4,show min (a+B) d.size=d.size by omega];exact hs
 ·rcases Nat.lt_or_ge a c with h5 | h5
  ·intro p q k1 k2 k3
   have:=Y6 h.al h1 h5
   omega
  ·exact OB.keep hp (by rw[h.sz];exact Nat.le_refl _) (Or.inl h5) (h.o c h1) (Nat.le_refl _)
end
set_option maxHeartbeats 8000000 in
theorem Am0 (hk:∀ x,(enc x).length=k) (lt0 lt:α→α→Bool) (hO:SWO lt) (g:Nat) (lb:Array Value) (sf:Nat) (sb:Array Value) (hg:E4 Tryz.prog g) (w0:World) (d:Array α) (hless:A24 g lb enc k lt0 blk off d.size w0) (hswap:A21 sf sb enc k blk off d.size) (hH:HoldsK enc k w0 blk off d) (hb:blk < w0.heap.size)
  (hsz:d.size < 1152921504606846976) (hord:∀ p q,p < q→q < d.size→lt0 d[q]! d[p]! = lt d[q]! d[p]!) :
  Calls Tryz.prog 194 #[.agg #[.func (.func g) #[] lb,.func (.func sf) #[] sb],.int .i64 d.size] w0 fun e w' =>
   e=.returned (.tuple #[])∧∃ d',Fam enc k blk off w0 d' w'∧d'.size=d.size∧PermIn 0 d.size d d'∧SortedIn lt 0 d.size d':=by
 have HF:=Box.mk (A23 hH g lb sf sb)
 have hb1:blk <(A1a w0 g lb sf sb).heap.size:=by rw[R0];omega
 have HH:=Box.mk (HF.out.holds hb hH rfl)
 have HS:=Box.mk hswap
 have HL:=Box.mk (hless.on hb HF.out rfl)
 have HO:=Box.mk hord
 clear hswap hless hord
 generalize hn:d.size=n at hsz
 have HN:=Box.mk hn
 clear hn
 go_enter Tryz.func194,Tryz.ntmps194
 go_wp2
 go_loopw [5,6] (fun v5 v6 wr=>∃(a:Nat) (dk:Array α),v5=.int .i64 a∧v6=.int .i64 ((a:Int)+20)∧a≤n∧Box (Fam enc k blk off (A1a w0 g lb sf sb) dk wr)∧Box (First lt0 lt 20 a d dk)) (fun v5 _ _=>n-(intOf v5).toNat)
 case atStart=>exact⟨0,d,rfl,rfl,by omega,⟨Fam.start HH.out⟩,⟨First.start HO.out⟩⟩
 case round =>
  obtain⟨a,dk,rfl,rfl,han,HW,HI⟩:=hrel
  have c:=H0 hb g lb sf sb HW.out
  have c0:=c.1
  have c1:=c.2
  clear c
  by_cases hfit:a+20≤n
  ·have hc:=A0t hk lt0 g lb sf sb wr dk hg (by rw[HI.out.sz];exact HL.out.on hb1 HW.out HI.out.sz) (by rw[HI.out.sz];exact HS.out) (HW.out.holds hb1 HH.out HI.out.sz) (by have:=HW.out.size;omega) a (a+20) (by omega) (by rw[HI.out.sz,HN.out];exact hfit) (by rw[HI.out.sz,HN.out];omega)
   rw[show((a+20:Nat):Int)=(a:Int)+20 by omega,HI.out.agree HO.out (by rw[HN.out];exact hfit)]at hc
   have HQ:=Box.mk hc
   have HI2:=Box.mk (HI.out.step hO (by omega) (by rw[HN.out];exact hfit))
   clear hc
   go_wp2_with (go_at_call 220;refine HQ.out.mono ?_;rintro e w1 ⟨rfl,f1⟩;have FA:=Box.mk (HW.out.trans hb1 f1 (HI2.out.sz.trans HI.out.sz.symm));clear f1)
   go_roundw
   case rel=>exact⟨a+20,_,by go_num,by go_num,hfit,FA,HI2⟩
   case measure=>simp [intOf];omega
  ·have hc:=A0t hk lt0 g lb sf sb wr dk hg (by rw[HI.out.sz];exact HL.out.on hb1 HW.out HI.out.sz) (by rw[HI.out.sz];exact HS.out) (HW.out.holds hb1 HH.out HI.out.sz) (by have:=HW.out.size;omega) a n han (by rw[HI.out.sz,HN.out];exact Nat.le_refl _) (by rw[HI.out.sz,HN.out];omega)
   rw[HI.out.agree HO.out (by rw[HN.out];exact Nat.le_refl _)]at hc
   have HQ:=Box.mk hc
   have HI2:=HI.out.last hO (by omega) (by rw[HN.out];exact han) (by rw[HN.out];omega)
   rw[HN.out]at HI2
   have HI3:=Box.mk HI2
   clear hc HI2
   go_wp2_with (go_at_call 220;refine HQ.out.mono ?_;rintro e w1 ⟨rfl,f1⟩;have FA:=Box.mk (HW.out.trans hb1 f1 (by rw[HI3.out.2.1,HI.out.sz]));clear f1)
   go_loopw [4] (fun v4 wr=>∃(B:Nat) (dj:Array α),v4=.int .i64 B∧0 < B∧(B≤20∨B < 2*n)∧Box (Fam enc k blk off (A1a w0 g lb sf sb) dj wr)∧Box (dj.size=d.size)∧Box (Blocks lt0 lt B n dj∧PermIn 0 n d dj)) (fun v4 _=>n-(intOf v4).toNat)
   case atStart=>exact⟨20,_,rfl,by omega,by omega,FA,⟨HI3.out.2.1⟩,HI3⟩
   case round =>
    obtain⟨B,dj,rfl,hB0,hBn,FJ,SJ,HJ⟩:=hrel
    clear c0 c1
    by_cases hbn:B < n
    ·go_wp2
     go_loopw [5,6] (fun v5 v6 wr=>∃(a:Nat) (dl:Array α),v5=.int .i64 a∧v6=.int .i64 ((a:Int)+2*B)∧a≤n∧Box (Fam enc k blk off (A1a w0 g lb sf sb) dl wr)∧Box (dl.size=d.size)∧Box (Pass lt0 lt B n a dl∧PermIn 0 n d dl)) (fun v5 _ _=>n-(intOf v5).toNat)
     case atStart=>exact⟨0,dj,rfl,by go_num,by omega,FJ,SJ,⟨HJ.out.1.start,HJ.out.2⟩⟩
     case round =>
      obtain⟨a,dl,rfl,rfl,han,FL,SL,HP⟩:=hrel
      have c:=H0 hb g lb sf sb FL.out
      have c0:=c.1
      have c1:=c.2
      clear c
      by_cases hfit:a+2*B≤n
      ·have PG:=HP.out.1.args (b:=a+2*B) hfit (by omega) (Or.inl rfl)
       have hc:=A25 hk lt0 lt hO g lb sf sb hg (2*B) wr dl (by rw[SL.out];exact HL.out.on hb1 FL.out SL.out) (by rw[SL.out];exact HS.out) (FL.out.holds hb1 HH.out SL.out) (by have:=FL.out.size;omega) a (a+B) (a+2*B) (by omega) (by omega) (by rw[SL.out,HN.out];omega) (by rw[SL.out,HN.out];omega) (by omega) PG.1 PG.2.1 PG.2.2
       rw[show((a+B:Nat):Int)=(a:Int)+B by omega,show((a+2*B:Nat):Int)=(a:Int)+2*B by omega]at hc
       have HQ:=Box.mk hc
       clear hc PG
       go_wp2_with (go_at_call 221;refine HQ.out.mono ?_;rintro e w1 ⟨rfl,dM,f1,f2,f3,f4⟩;have FA:=Box.mk (FL.out.trans hb1 f1 f2);have SA:=Box.mk (f2.trans SL.out);have PA:=Box.mk f3;have RA:=Box.mk f4;clear f1 f2 f3 f4)
       go_roundw
       case rel =>
        exact⟨a+2*B,dM,by go_num,by go_num,hfit,FA,SA,⟨HP.out.1.step hB0 (by rw[SL.out,HN.out]) hfit PA.out RA.out,permIn_trans d dl dM _ _ HP.out.2 (K0 (by omega) hfit (by rw[SL.out,HN.out];exact Nat.le_refl _) PA.out)⟩⟩
       case measure=>simp [intOf];omega
      ·by_cases hmn:a+B < n
       ·have PG:=HP.out.1.args (b:=n) (Nat.le_refl _) hmn (Or.inr ⟨rfl,by omega⟩)
        have hc:=A25 hk lt0 lt hO g lb sf sb hg n wr dl (by rw[SL.out];exact HL.out.on hb1 FL.out SL.out) (by rw[SL.out];exact HS.out) (FL.out.holds hb1 HH.out SL.out) (by have:=FL.out.size;omega) a (a+B) n (by omega) (by omega) (by rw[SL.out,HN.out];omega) (by rw[SL.out,HN.out];omega) (by omega) PG.1 PG.2.1 PG.2.2
        rw[show((a+B:Nat):Int)=(a:Int)+B by omega]at hc
        have HQ:=Box.mk hc
        clear hc PG
        go_wp2_with (go_at_call 221;refine HQ.out.mono ?_;rintro e w1 ⟨rfl,dM,f1,f2,f3,f4⟩;have FA:=Box.mk (FL.out.trans hb1 f1 f2);have SA:=Box.mk (f2.trans SL.out);have PA:=Box.mk f3;have RA:=Box.mk f4;clear f1 f2 f3 f4)
        go_roundw
        case rel =>
         exact⟨2*B,dM,by go_num,by omega,by omega,FA,SA,⟨HP.out.1.last hB0 (by rw[SL.out,HN.out]) han (by omega) PA.out RA.out,permIn_trans d dl dM _ _ HP.out.2 (K0 (by omega) (Nat.le_refl _) (by rw[SL.out,HN.out];exact Nat.le_refl _) PA.out)⟩⟩
        case measure=>simp [intOf];omega
       ·go_wp2
        go_roundw
        case rel =>
         exact⟨2*B,dl,by go_num,by omega,by omega,FL,SL,⟨HP.out.1.last hB0 (by rw[SL.out,HN.out]) han (by omega) (permIn_refl dl _ _) (HP.out.1.skip (by omega)),HP.out.2⟩⟩
        case measure=>simp [intOf];omega
    ·go_wp2
     go_end0
     exact⟨rfl,dj,HF.out.trans hb FJ.out SJ.out,SJ.out.trans HN.out,HJ.out.2,HJ.out.1.all (by omega)⟩
end
end Go.Proofs.YtaiepnaokhpmcaaGreat
namespace Go.Proofs.YtaiepnaokhpmcaaGreat
open Go.E
set_option maxRecDepth 100000
set_option maxHeartbeats 4000000
open Go Go.Sort Go.RowKit Go.Lib Go.Shelf Go.Proofs
section
variable {α : Type} [Inhabited α] {enc : α → List Value} {k blk off : Nat}
def stS(lt:α→α→Bool)(d:Array α):Array α:=(d.toList.mergeSort (fun x y=>!lt y x)).toArray
theorem At3(lt:α→α→Bool)(d:Array α):(stS lt d).size=d.size:=by simp [stS]
def ltT(lt:α→α→Bool)(x y:α×Nat):Bool:=lt x.1 y.1 || (!lt y.1 x.1 && decide (x.2 < y.2))
theorem B7f{lt:α→α→Bool}{x y:α×Nat}:ltT lt x y=true↔lt x.1 y.1=true∨(lt y.1 x.1=false∧x.2 < y.2):=by simp [ltT]
theorem A4z{lt:α→α→Bool}{x y:α×Nat}:ltT lt x y=false↔lt x.1 y.1=false∧(lt y.1 x.1=true∨y.2≤x.2):=by
 simp only [ltT,Bool.or_eq_false_iff,Bool.and_eq_false_iff,Bool.not_eq_false',decide_eq_false_iff_not,Nat.not_lt]
theorem At4{lt:α→α→Bool}(hO:SWO lt){x y z:α}(h1:lt x y=true)(h2:lt z y=false):lt x z=true:=by
 cases h:lt x z with
 | true=>rfl
 | false=>rw[hO.ntrans _ _ _ h h2]at h1;cases h1
theorem Ae0{lt:α→α→Bool}(hO:SWO lt){x y z:α}(h1:lt y x=false)(h2:lt y z=true):lt x z=true:=by
 cases h:lt x z with
 | true=>rfl
 | false=>rw[hO.ntrans _ _ _ h1 h]at h2;cases h2
theorem B3q{lt:α→α→Bool}(hO:SWO lt):SWO (ltT lt):=by
 refine⟨fun x=>A4z.2 ⟨hO.irrefl _,Or.inr (Nat.le_refl _)⟩,fun x y z h1 h2=>?_,fun x y z h1 h2=>?_⟩
 ·rw[B7f]at h1 h2 ⊢
  rcases h1 with h1 | ⟨h1,t1⟩ <;> rcases h2 with h2 | ⟨h2,t2⟩
  ·exact Or.inl (hO.trans _ _ _ h1 h2)
  ·exact Or.inl (At4 hO h1 h2)
  ·exact Or.inl (Ae0 hO h1 h2)
  ·exact Or.inr ⟨hO.ntrans _ _ _ h2 h1,by omega⟩
 ·rw[A4z]at h1 h2 ⊢
  obtain⟨h1,g1⟩:=h1
  obtain⟨h2,g2⟩:=h2
  refine⟨hO.ntrans _ _ _ h1 h2,?_⟩
  rcases g1 with g1 | g1
  ·exact Or.inl (Ae0 hO h2 g1)
  ·rcases g2 with g2 | g2
   ·exact Or.inl (At4 hO g2 h1)
   ·exact Or.inr (by omega)
theorem ltT_le{lt:α→α→Bool}(hO:SWO lt):(fun x y=>!ltT lt y x)=List.zipIdxLE (fun x y=>!lt y x):=by
 funext x y
 simp only [List.zipIdxLE,ltT]
 by_cases h1:lt y.1 x.1=true <;> by_cases h2:lt x.1 y.1=true <;> simp [h1,h2]
 rw[Bool.eq_iff_iff];simp
def L7(d:Array α):Array (α×Nat):=d.toList.zipIdx.toArray
theorem J6(d:Array α):(L7 d).size=d.size:=by simp [L7]
theorem A70(d:Array α){i:Nat}(h:i < d.size):(L7 d)[i]! =(d[i]!,i):=by
 rw[getElem!_pos (L7 d) i (by rw[J6];exact h),getElem!_pos d i h]
 simp [L7]
theorem Ae1(lt:α→α→Bool)(d:Array α):∀ p q,p < q→q <(L7 d).size→(fun x y:α×Nat=>lt x.1 y.1) (L7 d)[q]! (L7 d)[p]! = ltT lt (L7 d)[q]! (L7 d)[p]!:=by
 intro p q h1 h2
 rw[J6]at h2
 rw[A70 d h2,A70 d (show p < d.size by omega)]
 simp only [ltT]
 rw[decide_eq_false (by omega)];simp
theorem A27(d:Array (α×Nat))(i:Nat):(d.map (·.1))[i]! = d[i]!.1:=by
 by_cases h:i < d.size
 ·rw[getElem!_pos (d.map (·.1)) i (by simpa using h),getElem!_pos d i h];simp
 ·rw[getElem!_neg (d.map (·.1)) i (by simpa using h),getElem!_neg d i h];rfl
theorem Am1(d:Array α):(L7 d).map (·.1)=d:=by
 simp [L7]
theorem A50(d:Array (α×Nat)):flatK (fun x=>enc x.1) k d=flatK enc k (d.map (·.1)):=by
 unfold flatK
 rw[Array.size_map]
 congr 1
 funext t
 rw[A27]
theorem Am2(lt:α→α→Bool)(hO:SWO lt)(d:Array α)(d':Array (α×Nat))(hp:PermIn 0 (L7 d).size (L7 d) d')(hs:SortedIn (ltT lt) 0 (L7 d).size d'):d'.map (·.1)=stS lt d:=by
 have hperm:d'.toList.Perm (L7 d).toList:=by
  obtain⟨hsz,_,hperm⟩:=hp
  have e1:d'.extract 0 (L7 d).size=d':=by rw[← hsz];exact Array.extract_size
  rw[e1,Array.extract_size]at hperm
  exact hperm
 have hT:=B3q hO
 have e:d'.toList=(d.toList.zipIdx).mergeSort (List.zipIdxLE (fun x y=>!lt y x)):=by
  rw[← ltT_le hO]
  refine List.Perm.eq_of_pairwise (le:=fun x y=>(!ltT lt y x)=true) ?_ ?_ ?_ (hperm.trans (by simpa [L7]using(List.mergeSort_perm d.toList.zipIdx _).symm))
  ·rintro⟨a,i⟩ ⟨b,j⟩ ha hb h1 h2
   have ha':(a,i)∈d.toList.zipIdx:=by have:=hperm.subset ha;simpa [L7]using this
   have hb':(b,j)∈d.toList.zipIdx:=List.mem_mergeSort.1 hb
   simp only [Bool.not_eq_true']at h1 h2
   rw[A4z]at h1 h2
   simp only at h1 h2
   have hij:i=j:=by
    obtain⟨k1,k2⟩:=h1
    obtain⟨k3,k4⟩:=h2
    rw[k3]at k2
    rw[k1]at k4
    simp at k2 k4
    omega
   subst hij
   have m1:=List.mem_zipIdx ha'
   have m2:=List.mem_zipIdx hb'
   simp_all
  ·rw[List.pairwise_iff_getElem]
   intro i j hi hj hij
   have hi':i < d'.size:=by simpa using hi
   have hj':j < d'.size:=by simpa using hj
   have:=hs i j (Nat.zero_le _) hij (by rw[← hp.1];exact hj')
   rw[getElem!_pos d' j hj',getElem!_pos d' i hi']at this
   simpa using this
  ·refine List.pairwise_mergeSort ?_ ?_ _
   ·intro a b c h1 h2
    simp only [Bool.not_eq_true']at h1 h2 ⊢
    exact hT.ntrans _ _ _ h2 h1
   ·intro a b
    cases h:ltT lt b a with
    | false=>rfl
    | true=>simp [hT.asymmA h]
 unfold stS
 rw[← List.mergeSort_zipIdx,← e]
 exact(Array.toList_inj).1 (by simp)
theorem A51(hk:∀ x,(enc x).length=k)(lt:α→α→Bool)(hO:SWO lt)(g:Nat)(lb:Array Value)(sf:Nat)(sb:Array Value)(hg:E4 Tryz.prog g)(w0:World)(d:Array α)(hless:A24 g lb enc k lt blk off d.size w0)(hswap:A21 sf sb enc k blk off d.size)(hH:HoldsK enc k w0 blk off d)(hb:blk < w0.heap.size)
  (hsz:d.size < 1152921504606846976) :
  Calls Tryz.prog 194 #[.agg #[.func (.func g) #[] lb,.func (.func sf) #[] sb],.int .i64 d.size] w0 fun e w' =>
   e=.returned (.tuple #[])∧Fam enc k blk off w0 (stS lt d) w':=by
 have fam:∀ dk W,Fam (fun x:α×Nat=>enc x.1) k blk off w0 dk W→Fam enc k blk off w0 (dk.map (·.1)) W:=by
  rintro dk W ⟨q,os,rfl⟩
  exact⟨q,os,by unfold putRowK;rw[A50]⟩
 have hold:∀ dk W,HoldsK (fun x:α×Nat=>enc x.1) k W blk off dk→HoldsK enc k W blk off (dk.map (·.1)):=by
  intro dk W h
  unfold HoldsK at h ⊢
  rw[← A50];exact h
 have h:=Am0 (enc:=fun x:α×Nat=>enc x.1) (fun x=>hk x.1) (fun x y=>lt x.1 y.1) (ltT lt) (B3q hO) g lb sf sb hg w0 (L7 d) (blk:=blk) (off:=off)
  (fun W dk hF hs i j hi hj=>by
   rw[J6]at hs hi hj
   have:=hless W _ (fam dk W hF) (by simpa using hs) i j hi hj
   rw[A27,A27]at this
   exact this)
  (fun W dk hF hs i j hi hj hij=>by
   rw[J6]at hs hi hj
   have:=hswap W _ (hold dk W hF) (by simpa using hs) i j hi hj hij
   rw[A27,A27]at this
   exact this)
  (by unfold HoldsK at hH ⊢;rw[A50,Am1];exact hH) hb (by rw[J6];exact hsz) (Ae1 lt d)
 rw[J6]at h
 refine h.mono ?_
 rintro e w' ⟨rfl,d',f1,f2,f3,f4⟩
 refine⟨rfl,?_⟩
 rw[← Am2 lt hO d d' (by rw[J6];exact f3) (by rw[J6];exact f4)]
 exact fam d' w' f1
end
end Go.Proofs.YtaiepnaokhpmcaaGreat
namespace Go.Proofs.YtaiepnaokhpmcaaGreat
open Go.E
set_option maxRecDepth 100000
set_option maxHeartbeats 4000000
open Go Go.Sort Go.RowKit Go.Lib Go.Shelf Go.Proofs
section
variable {α : Type} [Inhabited α] {enc : α → List Value} {k blk off : Nat}
noncomputable def B3r(e:TypeId)(ie:TypeInfo)(ke:Nat)(p:Option Addr)(n c:Nat):Array Value :=
 if swapperK n ie ke≤2 then #[]else #[.slice p n c,typeHandle Tryz.prog e]
noncomputable def A28(t:TypeId)(p:Option Addr)(n c:Nat)(w:World):World :=
 (w.alloc (.cells #[.slice p n c] t)).alloc (.cells #[.pointer (some ⟨Tryz.prog.globals.size,t,none⟩),.pointer (some ⟨w.heap.size,0,none⟩),.int .u64 151] 198)
set_option maxHeartbeats 4000000 in
theorem A0w (t e:TypeId) (i ie:TypeInfo) (hi:Tryz.prog.info? t=some i) (hd:i.desc=.slice e) (hpk:Tryz.prog.packed t=false) (hie:Tryz.prog.info? e=some ie) (ke:Nat) (hke:∀ w,(Extern.Rtype.kind e).run Tryz.prog w=.ok ke w)
  (p:Option Addr) (n c:Nat) (hn:n < 1152921504606846976) (f:Nat) (hf:Tryz.prog.funcs.findIdx? (·.name == "internal/reflectlite"++".Swapper$"++toString (swapperK n ie ke))=some f) (lf:Fn) (la lb:Array Value) (w:World) (R:World→Prop)
  (hp:Calls Tryz.prog 194 #[.agg #[.func lf la lb,.func (.func f) #[] (B3r e ie ke p n c)],.int .i64 n] (A28 t p n c w) fun e w'=>e=.returned (.tuple #[])∧R w') :
  Calls Tryz.prog 160 #[.iface t (.slice p n c),.func lf la lb] w fun e w'=>e=.returned (.tuple #[])∧R w':=by
 have hv:=run_valueOf_slice (P:=Tryz.prog) t e i hi hd p n c w
 have hs:=fun w=>run_swapper_slice (P:=Tryz.prog) t e i ie hi hd hie ke hke p n c f hf w
 have hl:=fun a w ha=>run_valueLen_slice (P:=Tryz.prog) t e i hi hd hpk a p n c w ha
 unfold B3r A28 at hp
 generalize (if swapperK n ie ke≤2 then(#[]:Array Value)else #[.slice p n c,typeHandle Tryz.prog e])=B at hs hp
 have hz:Tryz.prog.globals.size=1:=by kernel_rfl
 simp only [typeHandle,hz]at hv hl hp
 have HP:=Box.mk hp
 have HV:=Box.mk hv
 have HS:=Box.mk hs
 have HL:=Box.mk hl
 clear hp hv hs hl
 go_enter Tryz.func160,Tryz.ntmps160
 go_wp2
 rw[run_callFunc_extern Tryz.func192 (by kernel_rfl) (by kernel_rfl) (by kernel_rfl) (e:=fun args=>Extern.ReflectliteValue.unpack (args.getD 0 (.tuple #[]))) (by kernel_rfl),
  show Sem.run Tryz.prog ((fun args:Array Value=>Extern.ReflectliteValue.unpack (args.getD 0 (.tuple #[]))) #[.iface t (.slice p n c)]) w=_ from HV.out]
 simp only [Result.andThen]
 rw[Oper.upon_value]
 go_wp2
 rw[run_callFunc_extern Tryz.func193 (by kernel_rfl) (by kernel_rfl) (by kernel_rfl) (e:=Extern.ReflectliteSwapper.swapper "internal/reflectlite" (Extern.ReflectliteValue.valueError "Swapper")) (by kernel_rfl),HS.out]
 simp only [Result.andThen]
 rw[Oper.upon_value]
 go_wp2
 rw[run_callFunc_extern Tryz.func195 (by kernel_rfl) (by kernel_rfl) (by kernel_rfl) (e:=Extern.ReflectliteValue.method (Extern.ReflectliteValue.valueError "reflectlite.Value.Len" 0) Extern.ReflectliteValue.len) (by kernel_rfl),
  HL.out _ _ (by simp)]
 simp only [Result.andThen]
 rw[Oper.upon_value]
 go_wp2_with (go_at_call 194;refine HP.out.mono ?_;rintro e w' ⟨rfl,hR⟩;have HR:=Box.mk hR;clear hR)
 go_end0
 exact⟨rfl,HR.out⟩
theorem A66(gS:Bool)(sf:Nat)(hx:∀ args W,(callFunc sf args).run Tryz.prog W=((Extern.ReflectliteSwapper.swap gS args).run Tryz.prog W).andThen fun v w'=>.ok (.value v) w')
  (e:TypeId) (ie:TypeInfo) (hie:Tryz.prog.info? e=some ie) (hk:∀ x,(enc x).length=k) (hs:ie.size=k) (hagg:∀ w,(isAgg e).run Tryz.prog w=.ok true w) (h1:∀ x,∀ v∈enc x,v.oneCell'=true) (n c:Nat) :
  A21 sf #[.slice (some ⟨blk,off,none⟩) n c,typeHandle Tryz.prog e] enc k blk off n:=by
 intro W dk hH hsz i j hi hj _
 subst hs
 have cc:∀ x,x < dk.size→∀ u v,(enc dk[x]!)[u]?=some v→W.cell? ⟨blk,off+x*ie.size+u,none⟩=some v:=fun x hx u v h=>by
  have hu:u < ie.size:=by rw[← hk dk[x]!];exact(List.getElem?_eq_some_iff.mp h).1
  rw[(hH.cell hx hu).1];simp [h]
 have:=run_swap_cells (P:=Tryz.prog) gS e ie hie hagg blk off n c i j hi hj (enc dk[i]!) (enc dk[j]!) (hk _) (hk _) (h1 _) (h1 _) W (cc i (by omega)) (cc j (by omega))
  (fun u hu=>(hH.cell (by omega) hu).2) (fun u hu=>(hH.cell (by omega) hu).2)
 rw[hx,show(#[Value.int .i64 (i:Int),Value.int .i64 (j:Int)]++#[Value.slice (some ⟨blk,off,none⟩) n c,typeHandle Tryz.prog e])=#[.int .i64 i,.int .i64 j,.slice (some ⟨blk,off,none⟩) n c,typeHandle Tryz.prog e]from rfl,this]
 rfl
end
open Go Go.Sort Go.RowKit Go.Lib Go.Shelf Go.Proofs
section
variable {α : Type} [Inhabited α] {enc : α → List Value} {k blk off : Nat}
theorem swK_gt(n:Nat)(ie:TypeInfo)(ke:Nat)(h2:2≤n):¬ swapperK n ie ke≤2:=by
 have c:(n == 0)=false:=by simp;omega
 have d:(n == 1)=false:=by simp;omega
 unfold swapperK
 simp only [c,d,Bool.false_eq_true,if_false]
 repeat' split
 all_goals omega
structure SortTy (t e k:Nat) (fN:Nat→Nat):Prop where
 ex:∃ i ie ke gS,Tryz.prog.info? t=some i∧i.desc=.slice e∧Tryz.prog.packed t=false∧Tryz.prog.info? e=some ie∧(∀ w,(Extern.Rtype.kind e).run Tryz.prog w=.ok ke w) ∧
  (∀ n,Tryz.prog.funcs.findIdx? (·.name == "internal/reflectlite"++".Swapper$"++toString (swapperK n ie ke))=some (fN n))∧ie.size=k∧(∀ w,(isAgg e).run Tryz.prog w=.ok true w) ∧
  (∀ n,2≤n→∀ args W,(callFunc (fN n) args).run Tryz.prog W=((Extern.ReflectliteSwapper.swap gS args).run Tryz.prog W).andThen fun v w'=>.ok (.value v) w')
theorem A3i{t e:Nat}{fN:Nat→Nat}(hT:SortTy t e k fN)(hk:∀ x,(enc x).length=k)(h1:∀ x,∀ v∈enc x,v.oneCell'=true)(lt:α→α→Bool)(hO:SWO lt)(g:Nat)(lb:Array Value)(hg:E4 Tryz.prog g)(c:Nat)(d:Array α)
  (hsz:d.size < 1152921504606846976) (w:World) (hless:A24 g lb enc k lt blk off d.size w) (hH:HoldsK enc k w blk off d) (hb:blk < w.heap.size) :
  Calls Tryz.prog 160 #[.iface t (.slice (some ⟨blk,off,none⟩) d.size c),.func (.func g) #[] lb] w fun e w'=>e=.returned (.tuple #[])∧Fam enc k blk off w (stS lt d) w':=by
 obtain⟨i,ie,ke,gS,a1,a2,a3,a4,a5,a6,a7,a8,a9⟩:=hT.ex
 refine A0w t e i ie a1 a2 a3 a4 ke a5 _ d.size c hsz (fN d.size) (a6 _) (.func g) #[] lb w _ ?_
 have F0:Fam enc k blk off w d (A28 t (some ⟨blk,off,none⟩) d.size c w):=((Fam.start hH).alloc _).alloc _
 have hb0:blk <(A28 t (some ⟨blk,off,none⟩) d.size c w).heap.size:=Nat.lt_of_lt_of_le hb F0.size
 refine(A51 hk lt hO g lb (fN d.size) _ hg _ d (hless.on hb F0 rfl) ?_ (F0.holds hb hH rfl) hb0 hsz).mono ?_
 ·by_cases h2:2≤d.size
  ·unfold B3r
   rw[if_neg (swK_gt _ _ _ h2)]
   exact A66 gS (fN d.size) (a9 _ h2) e ie a4 hk a7 a8 h1 d.size c
  ·intro W dk _ _ i j hi hj hij
   omega
 ·rintro e' w' ⟨rfl,hF⟩
  exact⟨rfl,F0.trans hb hF (At3 lt d)⟩
theorem A52{t e:Nat}{fN:Nat→Nat}(hT:SortTy t e k fN)(lt:α→α→Bool)(hO:SWO lt)(hk:∀ x,(enc x).length=k)(g:Nat)(lb:Array Value)(hg:E4 Tryz.prog g)(w:World) :
  Calls Tryz.prog 160 #[.iface t (.slice none 0 0),.func (.func g) #[] lb] w fun e w'=>e=.returned (.tuple #[])∧Below w.heap.size w w':=by
 obtain⟨i,ie,ke,gS,a1,a2,a3,a4,a5,a6,a7,a8,a9⟩:=hT.ex
 refine A0w t e i ie a1 a2 a3 a4 ke a5 none 0 0 (by omega) (fN 0) (a6 _) (.func g) #[] lb w _ ?_
 have hsize:(A28 t none 0 0 w).heap.size=w.heap.size+2:=by simp [A28]
 have hB0:Below w.heap.size w (A28 t none 0 0 w):=by
  unfold A28
  exact((Below.refl _ w).alloc (Nat.le_refl _) _).alloc (by simp) _
 refine(A51 (blk:=w.heap.size) (off:=0) (enc:=enc) hk lt hO g lb (fN 0) _ hg (A28 t none 0 0 w) (#[]:Array α) (fun W dk _ _ i j hi hj=>by simp at hi) (fun W dk _ _ i j hi hj=>by simp at hi) (fun j hj=>by simp at hj) (by rw[hsize];omega) (by simp)).mono ?_
 rintro e' w' ⟨rfl,hF⟩
 have f:=hF.facts
 refine⟨rfl,hB0.trans ⟨f.1,f.2.1,f.2.2.1,hF.size,fun j hj=>f.2.2.2 j (by rw[hsize];omega) (by omega)⟩⟩
end
end Go.Proofs.YtaiepnaokhpmcaaGreat
namespace Go.Proofs.YtaiepnaokhpmcaaGreat
open Go.E
set_option maxRecDepth 100000
set_option maxHeartbeats 4000000
open Go Go.Sort Go.RowKit Go.Lib Go.Shelf Go.Proofs
section
variable {α : Type} [Inhabited α] {encA : α → List AV} {k blk : Nat}
def Ah4(encA:α→List AV)(x:α):List Value:=(encA x).map valA
theorem A53(d:List α):(d.map (Ah4 encA)).flatten=((d.map encA).flatten).map valA:=by
 induction d with
 | nil=>rfl
 | cons x d ih=>simp only [List.map_cons,List.flatten_cons,List.map_append,ih,Ah4]
theorem B04(hk:∀ x,(encA x).length=k)(hp:∀ x,∀ a∈encA x,R9 a=true)(lt:α→α→Bool)(g:Nat)
  (hcon:∀(d:List α) (i j:Nat),i < d.length→j < d.length→Con Tryz.prog g [.i .i64 i,.i .i64 j,.eptr [.sl (d.map encA)]] (.b (lt d[i]! d[j]!)))
  {w:World} {gv n cap:Nat} (hgv:gv < w.heap.size) (hne:gv≠blk) (hb:blk < w.heap.size) (hc:w.cell? ⟨gv,0,none⟩=some (.slice (some ⟨blk,0,none⟩) n cap)) (hn:n≤cap) (hm:n≤maxLen) (d0:Array α) (hs0:d0.size=n) (hH:HoldsK (Ah4 encA) k w blk 0 d0) :
  A24 g #[.pointer (some ⟨gv,0,none⟩)] (Ah4 encA) k lt blk 0 n w:=by
 intro W dk hF hs i j hi hj
 have hkV:∀ x,(Ah4 encA x).length=k:=fun x=>by simp [Ah4,hk]
 have hHW:HoldsK (Ah4 encA) k W blk 0 dk:=hF.holds hb hH (by omega)
 have hsize:=hF.size
 have hcW:W.cell? ⟨gv,0,none⟩=some (.slice (some ⟨blk,0,none⟩) n cap):=by rw[hF.cell hgv hne];exact hc
 have hlen:dk.toList.length=n:=by simpa using hs
 have hrel:RelV0 (fun b=>b < W.heap.size) W (.sl (dk.toList.map encA)) (.slice (some ⟨blk,0,none⟩) n cap):=by
  have hl:(dk.toList.map encA).length=n:=by simpa using hs
  have hel:∀ j q,j < n→q < k→∃ a,(encA dk[j]!)[q]?=some a∧R9 a=true∧(Ah4 encA dk[j]!)[q]! = valA a:=by
   intro j q hj hq
   have hq':q <(encA dk[j]!).length:=by rw[hk];exact hq
   refine⟨(encA dk[j]!)[q],List.getElem?_eq_getElem hq',hp _ _ (List.getElem_mem hq'),?_⟩
   rw[getElem!_pos _ q (by rw[hkV];exact hq)]
   simp [Ah4]
  have:=RelV0.sl (S:=fun b=>b < W.heap.size) (w:=W) (dk.toList.map encA) (some ⟨blk,0,none⟩) cap k (fun j q=>if j < n∧q < k then(Ah4 encA dk[j]!)[q]! else .bool false) (by omega) (by omega) (fun h=>by cases h)
   (fun r hr=>by obtain⟨x,_,rfl⟩:=List.mem_map.1 hr;exact hk x)
   (fun _=>⟨⟨blk,0,none⟩,rfl,by show blk < W.heap.size;omega,fun j q hj hq=>by
    have:=(hHW.cell (i:=j) (c:=q) (by omega) hq).1
    rw[if_pos ⟨by omega,hq⟩,← this]
    congr 1
    simp [Addr.add]
    try (intros;omega)⟩)
   (fun j q=>by
    split
    ·rename_i h
     obtain⟨a,_,h2,h3⟩:=hel j q h.1 h.2
     rw[h3]
     exact Z0 h2
    ·rfl)
   (fun j q r a hr ha=>by
    have hj:j < n:=by have:=lt_of_getElem? hr;omega
    rw[List.getElem?_map]at hr
    have e1:dk.toList[j]?=some dk[j]!:=by rw[Array.getElem?_toList,getElem?_pos dk j (by omega),getElem!_pos dk j (by omega)]
    rw[e1,Option.map_some,Option.some.injEq]at hr
    subst hr
    have hq:q < k:=by have:=lt_of_getElem? ha;rw[hk]at this;exact this
    rw[if_pos ⟨hj,hq⟩]
    obtain⟨a',h1,h2,h3⟩:=hel j q hj hq
    rw[ha,Option.some.injEq]at h1
    subst h1
    rw[h3]
    exact A47 h2)
  rw[hl]at this
  exact this
 have hC:=(hcon dk.toList i j (by omega) (by omega)).2 W (fun b=>b < W.heap.size) [.int .i64 i,.int .i64 j,.pointer (some ⟨gv,0,none⟩)] (fun _ h=>h) rfl (fun q a u ha hu=>by
  match q with
  | 0=>simp only [List.getElem?_cons_zero,Option.some.injEq]at ha hu;subst ha;subst hu;exact .i _ _
  | 1=>simp only [List.getElem?_cons_succ,List.getElem?_cons_zero,Option.some.injEq]at ha hu;subst ha;subst hu;exact .i _ _
  | 2 =>
   simp only [List.getElem?_cons_succ,List.getElem?_cons_zero,Option.some.injEq]at ha hu
   subst ha;subst hu
   refine .eptr _ ⟨gv,0,none⟩ (fun _=>.slice (some ⟨blk,0,none⟩) n cap) (by show gv < W.heap.size;omega) (fun q hq=>?_) (fun _=>rfl) (fun q a ha=>?_)
   ·have:q=0:=by simpa using hq
    subst this
    exact hcW
   ·have:q=0:=by have:=lt_of_getElem? ha;simpa using this
    subst this
    simp only [List.getElem?_cons_zero,Option.some.injEq]at ha
    subst ha
    exact hrel
  | q+3=>simp at ha)
 refine hC.mono ?_
 rintro e w' ⟨v,rfl,hr,hB⟩
 cases hr
 refine⟨?_,hB⟩
 rw[← Array.getElem!_toList,← Array.getElem!_toList]
theorem B7g{t e:Nat}{fN:Nat→Nat}(hT:SortTy t e k fN)(hk:∀ x,(encA x).length=k)(hp:∀ x,∀ a∈encA x,R9 a=true)(lt:α→α→Bool)(hO:SWO lt)(g:Nat)(hg:E4 Tryz.prog g)(hS:E4 Tryz.prog 160)
  (hcon:∀(d:List α) (i j:Nat),i < d.length→j < d.length→Con Tryz.prog g [.i .i64 i,.i .i64 j,.eptr [.sl (d.map encA)]] (.b (lt d[i]! d[j]!))) (d:List α) (hlen:d.length < 1152921504606846976) :
  B54 Tryz.prog 160 g t true e k (d.map encA) ((d.mergeSort (fun x y=>!lt y x)).map encA):=by
 have hkV:∀ x,(Ah4 encA x).length=k:=fun x=>by simp [Ah4,hk]
 have hone:∀ x,∀ v∈Ah4 encA x,v.oneCell'=true:=by
  intro x v hv
  obtain⟨a,ha,rfl⟩:=List.mem_map.1 hv
  exact Z0 (hp x a ha)
 have hpl:∀ l:List α,∀ a∈(l.map encA).flatten,R9 a=true:=by
  intro l a ha
  obtain⟨r,hr,har⟩:=List.mem_flatten.1 ha
  obtain⟨x,_,rfl⟩:=List.mem_map.1 hr
  exact hp x a har
 refine⟨hS,by simp,fun r hr=>?_,hpl _,hpl _,fun w base v cv ho hcap=>?_⟩
 ·obtain⟨x,_,rfl⟩:=List.mem_map.1 hr;exact hk x
 ·obtain⟨gv,rfl,q1,q2,q3⟩:=hcap rfl
  simp only [if_true]
  rw[List.length_map]at ho ⊢
  rcases ho.2 with⟨rfl,h0⟩ | ⟨b,cap,cur,rfl,hb,hh,h1,h2,h3,h4⟩
  ·have:d=[]:=List.eq_nil_of_length_eq_zero h0
   subst this
   refine(A52 (enc:=Ah4 encA) hT lt hO hkV g #[.pointer (some ⟨gv,0,none⟩)] hg w).mono ?_
   rintro e' w' ⟨rfl,hB⟩
   refine⟨rfl,⟨by simp,.inl ⟨rfl,rfl⟩⟩,fun j hj _=>hB.block j hj,hB.os,hB.tape,hB.output,hB.size⟩
  ·have hbl:b < w.heap.size:=(Array.getElem?_eq_some_iff.1 hh).1
   have hne:gv≠b:=fun e=>q3 (by rw[e];rfl)
   have hHd:HoldsK (Ah4 encA) k w b 0 d.toArray:=P5 hkV ho (by simp) (by rw[← A53])
   have hl:=B04 (blk:=b) hk hp lt g hcon q1 hne hbl q2 h1 (by omega) d.toArray (by simp) hHd
   have hw:=A3i (blk:=b) (off:=0) (enc:=Ah4 encA) hT hkV hone lt hO g #[.pointer (some ⟨gv,0,none⟩)] hg cap d.toArray (by simp;omega) w (by simpa using hl) hHd hbl
   rw[show d.toArray.size=d.length by simp]at hw
   refine hw.mono ?_
   rintro e' w' ⟨rfl,hF⟩
   have f:=hF.facts
   have ow:=hF.owns hkV (At3 lt d.toArray) (by rw[← A53]) (by simp) ho
   refine⟨rfl,?_,fun j hj hjb=>f.2.2.2 j hj (fun e=>hjb (by rw[e];rfl)),f.1,f.2.1,f.2.2.1,hF.size⟩
   rw[← A53]
   exact ow
end
end Go.Proofs.YtaiepnaokhpmcaaGreat
namespace Go.Proofs.YtaiepnaokhpmcaaGreat
open Go.E
set_option maxRecDepth 100000
set_option maxHeartbeats 4000000
open Go Go.Sort Go.RowKit Go.Lib Go.Shelf Go.Proofs
def renClE:Go.Shelf.Ren:=⟨fun | 41=>159 | n=>n,fun | 4=>4 | 22=>22 | 23=>45 | n=>n,fun n=>n⟩
theorem Bi2:Go.Proofs.SlLaysE0.n41 Tryz.prog renClE:={ mixed:=by kernel_rfl,f41:=⟨Tryz.f159.name,by decide,Tryz.func159.trans (congrArg some (by kernel_rfl))⟩,t4:=Tryz.underlying4,a4:=Tryz.isAgg4,z4:=Tryz.sizeOf4,v4:=Tryz.zeroValue4,t22:=Tryz.underlying22,a22:=Tryz.isAgg22,z22:=Tryz.sizeOf22,v22:=Tryz.zeroValue22 }
theorem con159(es:List Entry)(hl:es.length*40≤140737488355328):A3l Tryz.prog 159 [.sl (es.map c45)] 45 (.row 4 (es.map c45)) :=
 A2r (T:=tab) Bi2 B1 (te:=_) rfl ⟨_,Tryz.func159,by kernel_rfl,by kernel_rfl⟩ (by kernel_rfl) (by decide +kernel) (fun r hr=>by obtain⟨x,_,rfl⟩:=List.mem_map.1 hr;kernel_rfl) (by rw[List.length_map];exact hl)
noncomputable def tiRowE:TypeInfo:=(Tryz.prog.info? 22).get!
noncomputable def tiE:TypeInfo:=(Tryz.prog.info? 45).get!
def swE(n:Nat):Nat:=if n=0 then 211 else if n=1 then 212 else 219
theorem swKE(n:Nat)(h2:2≤n):swapperK n tiE 25=9:=by
 have b:tiE.bytes=40:=by kernel_rfl
 have c:(n == 0)=false:=by simp;omega
 have d:(n == 1)=false:=by simp;omega
 simp [swapperK,b,c,d]
theorem Bi3:SortTy 22 45 4 swE:=by
 refine⟨tiRowE,tiE,25,false,by kernel_rfl,by kernel_rfl,by kernel_rfl,by kernel_rfl,fun _=>by kernel_rfl,fun n=>?_,by kernel_rfl,fun _=>by kernel_rfl,fun n h2=>?_⟩
 ·match n with
  | 0=>show _=some 211;kernel_rfl
  | 1=>show _=some 212;kernel_rfl
  | n+2 =>
   rw[swKE _ (by omega)]
   simp only [swE]
   rw[if_neg (by omega),if_neg (by omega)]
   show _=some 219
   kernel_rfl
 ·have e:swE n=219:=by simp only [swE];rw[if_neg (by omega),if_neg (by omega)]
  rw[e]
  exact fun args W=>run_callFunc_extern Tryz.func219 (by kernel_rfl) (by kernel_rfl) (by kernel_rfl) (e:=Extern.ReflectliteSwapper.swap false) (by kernel_rfl) args W
def ltE(a b:Entry):Bool:=dLt a.dot b.dot
theorem Am3:SWO ltE:=by
 refine⟨fun x=>?_,fun x y z h1 h2=>?_,fun x y z h1 h2=>?_⟩ <;> simp only [ltE,dLt,decide_eq_true_eq,decide_eq_false_iff_not]at*<;> omega
theorem con161(d:List Entry)(i j:Int)(hi0:0≤i)(hj0:0≤j)(hi:i < d.length)(hj:j < d.length):Con Tryz.prog 161 [.i .i64 i,.i .i64 j,.eptr [.sl (d.map c45)]] (.b (ltE d[i.toNat]! d[j.toNat]!)) :=
 by
 refine sC B1 [.tmp 5] 17 Tryz.func161 ?_
 intro e0 cx
 refine sq<|rG cx [0,1,2] [] z0<|sn<|sq<|rA cx [5] [] (fA (0≤i) (fG c45 d i.toNat (fR 4 (fN 2 4 (fA (0≤j) (fG c45 d j.toNat (fR 4 (fN 2 4 (fT (B9t (d[i.toNat]!.dot) (d[j.toNat]!.dot)) (oR 2 (c45 d[i.toNat]!) (oR 7 (c45 d[j.toNat]!) (oA 10 (.b (dLt d[i.toNat]!.dot d[j.toNat]!.dot)) z0))))))))))))<|sn<|rT<|qR (.b (dLt d[i.toNat]!.dot d[j.toNat]!.dot)) (.eq ?g0);rotate_left
 case g0=>exact rfl
theorem io160(d:List Entry)(hlen:d.length < 1152921504606846976) :
  Y4 Tryz.prog 160 161 (some 22) true 45 4 (d.map c45) ((d.mergeSort (fun x y=>!ltE y x)).map c45):=by
 refine B54.toG (fun r hr=>by obtain⟨x,_,rfl⟩:=List.mem_map.1 hr;rfl) ?_
 exact B7g (α:=Entry) (encA:=c45) (k:=4) Bi3 (fun x=>rfl)
  (fun x a ha=>by
   simp only [c45,List.mem_cons,List.not_mem_nil,or_false]at ha
   rcases ha with rfl | rfl | rfl | rfl <;> rfl)
  ltE Am3 161 ⟨_,Tryz.func161,by kernel_rfl,by kernel_rfl⟩ ⟨_,Tryz.func160,by kernel_rfl,by kernel_rfl⟩
  (fun d i j hi hj=>by
   have:=con161 d (i:Int) (j:Int) (by omega) (by omega) (by omega) (by omega)
   rw[Int.toNat_natCast,Int.toNat_natCast]at this
   exact this) d hlen
def A54(es:List Entry):List Entry:=es.mergeSort (fun x y=>!ltE y x)
theorem A55(es:List Entry):(A54 es).length=es.length:=by simp [A54]
def Bi4(es:List Entry):Int:=match es.find? (fun e=>decide (R8 e≠0))with | some e=>R8 e | none=>0
def P8(s:List Entry):Nat→Option (List Entry)
 | 0=>some []
 | n+1=>match P8 s n with
  | none=>none
  | some l=>if n=0∨s[n-1]!.dot≠s[n]!.dot then some (l++[s[n]!])else if s[n-1]! = s[n]! then some l else none
def A29(s:List Entry):List Entry×Int:=match P8 s s.length with | some l=>(l,0) | none=>([],10)
def U3(es:List Entry):List Entry×Int:=if Bi4 es=0 then A29 (A54 es)else([],Bi4 es)
theorem Bi5{es:List Entry}(h:∀ j:Nat,j < es.length→R8 es[j]! = 0):Bi4 es=0:=by
 unfold Bi4
 have:es.find? (fun e=>decide (R8 e≠0))=none:=by
  rw[List.find?_eq_none]
  intro x hx
  obtain⟨j,hj,rfl⟩:=List.mem_iff_getElem.1 hx
  have:=h j hj
  rw[getElem!_pos es j hj]at this
  simp [this]
 rw[this]
theorem B7h{es:List Entry}:∀ {i:Nat},i < es.length→¬ R8 es[i]! = 0→(∀ j:Nat,j < i→R8 es[j]! = 0)→Bi4 es=R8 es[i]!:=by
 induction es with
 | nil=>intro i hi;simp at hi
 | cons e es ih =>
  intro i hi hb hok
  cases i with
  | zero =>
   have hb':¬ R8 e=0:=by simpa using hb
   unfold Bi4
   simp [List.find?_cons,hb']
  | succ i =>
   have h0:R8 e=0:=by simpa using hok 0 (by omega)
   have:=ih (i:=i) (by simpa using hi) (by simpa using hb) (fun j hj=>by simpa using hok (j+1) (by omega))
   unfold Bi4 at this ⊢
   simpa [List.find?_cons,h0]using this
theorem A71{s:List Entry}{n:Nat}(h:P8 s n=none):∀ m,P8 s (n+m)=none
 | 0=>h
 | m+1=>by rw[← Nat.add_assoc,P8,A71 h m]
def B3s(s:List Entry):Prop:=s.Pairwise (fun x y=>(!ltE y x)=true)
theorem B05(es:List Entry):B3s (A54 es):=by
 refine List.pairwise_mergeSort (le:=fun x y=>!ltE y x) ?_ ?_ es
 ·intro a b c h1 h2
  simp only [Bool.not_eq_true']at *
  exact Am3.ntrans _ _ _ h2 h1
 ·intro a b
  cases h:ltE b a with
  | false=>rfl
  | true=>simp [Am3.asymmA h]
theorem B3t(s:List Entry):(A29 s).1.length≤s.length:=by
 have:∀ n l,P8 s n=some l→l.length≤n:=by
  intro n
  induction n with
  | zero=>intro l h;simp [P8]at h;simp [← h]
  | succ n ih =>
   intro l h
   rw[P8]at h
   split at h
   ·cases h
   ·rename_i l0 h0
    have:=ih l0 h0
    split at h
    ·simp only [Option.some.injEq]at h;rw[← h];simp;omega
    ·split at h
     ·simp only [Option.some.injEq]at h;rw[← h];omega
     ·cases h
 unfold A29
 split
 ·rename_i l h;exact this _ _ h
 ·simp
theorem B3u(es:List Entry):(U3 es).1.length≤es.length:=by
 unfold U3
 split
 ·have:=B3t (A54 es)
  rwa [A55]at this
 ·simp
def B3v(es:List Entry)(i:Int):Prop:=0≤i∧i≤es.length∧∀ j:Nat,(j:Int) < i→R8 es[j]! = 0
end Go.Proofs.YtaiepnaokhpmcaaGreat
