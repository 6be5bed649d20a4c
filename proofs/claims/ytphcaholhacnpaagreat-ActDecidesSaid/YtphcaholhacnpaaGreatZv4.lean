/- Rd: the document's turns. Conditions: sizes. Re: the document's Mean. Conditions: sizes. Rf: the document's Form. Conditions: the runs are in form. Rg: the document's Norm, Of, IsNorm. Conditions: sizes. Rm: the document's combine, Minus, Join, Size, Empty. Conditions: sizes. Rn: the document's Compare, Next, Within. Conditions: sizes. La: lines: entries in form. Conditions: none. Kr: records in the documents. Conditions: sizes. Ta: the act layer's document: entries, records, facts in form. Conditions: sizes. Tb: act: Check, Next, Empty, Event; the laws of Check and of Event. Conditions: sizes. Lt: sort.Slice at lines: a row of one's own is put into the order of the SKUs. Conditions: sizes. Lu: lines in plain words: sums of entries, SKU by SKU. Conditions: none. Lc: walks, written by a program of this claim's own, and what each function hands back. Conditions: none. Lq: entries in form: how many there are. Conditions: none. EY: a map gone through: the next entry is any that has not been. Conditions: none. -/
import Derived.Below
import Derived.OwnWalk
import Derived.WalkKit
import Derived.KernelRfl
import Derived.Laws.MakeOwn
import Derived.Laws.OwnMore
import Derived.Laws.Slices
import Derived.Laws.CopyOwn
import Derived.Laws.AppendOwnNone
import Derived.Laws.Rows
import Derived.Orders
import Derived.Test.YtphcaholhacnpaaGreatProg
import Derived.DataReads
import Derived.ChangeOld
import Derived.DataElems
import Derived.SizedLaws
import Derived.ChangeKeysEq
import Derived.Sort.LotA
import Derived.Shelf.SlSortFuncK.RowK2
import Derived.Shelf.SlSortCmp.NoneTotal
import Derived.Lib.Walk
import Derived.Shelf.SlLaysE0
import Derived.Shelf.RegionOpenPlain
import Derived.Deep.LoopGhost
import Derived.Lib.SliceRun
import Derived.Lib.Bytealg
import Derived.BigQuiet
import Derived.Shelf.SlSortFuncK.WholeK
import Derived.Shelf.GgSortFunc.Tiny
import Derived.Maps.RangeRun
import Derived.Test.YtphcaholhacnpaaGreatZv3
set_option linter.unusedVariables false
set_option linter.unusedSimpArgs false
set_option linter.unusedSectionVars false
set_option linter.unnecessarySimpa false
namespace Go.Proofs.YtphcaholhacnpaaGreat
open Go.E
set_option maxRecDepth 100000
set_option maxHeartbeats 4000000
def A41(lo hi:List Int):List Run:=List.zipWith (fun a b=>⟨a,b⟩) lo hi
def A3e(lo hi:List Int)(i:Int)(l:List Int):Prop:=l=B3p ((A41 lo hi).take i.toNat)
def V8(lo hi:List Int)(i:Int)(l:List Int):Prop:=l=A8a ((A41 lo hi).take i.toNat)
def B1t(lo hi:List Int)(i:Int)(a b:List Int):Prop:=0≤i∧i≤lo.length∧(a.length:Int)≤i∧(b.length:Int)=a.length∧A3e lo hi i a∧V8 lo hi i b
def decTa(lo:List Int)(i:Int)(a b:List Int):Nat:=(lo.length-i).toNat
def B1u(A B:List Int)(i j:Int)(t:List Int):Prop:=VW (A.drop i.toNat) (B.drop j.toNat) (i-j).toNat∧j≤i∧t++sw (A.drop i.toNat) (B.drop j.toNat) (i-j).toNat=sw A B 0
def Ak3(A B:List Int)(d j i:Int)(t:List Int):Prop:=0≤i∧i≤A.length∧0≤j∧j≤B.length∧d=i-j∧(t.length:Int)≤i+j∧B1u A B i j t
def decTb(A B:List Int)(d j i:Int)(t:List Int):Nat:=(A.length+B.length-i-j).toNat
theorem A6k{A B:List Int}{i j:Int}{t:List Int}(h0:0≤i)(hi:i≤A.length)(j0:0≤j)(jl:j≤B.length)(h:B1u A B i j t):A.length=B.length:=by
 have:=h.1.len
 have:=h.2.1
 simp only [List.length_drop]at *
 omega
theorem At3{A B:List Int}{i j:Int}{t:List Int}(h0:0≤i)(hi:i < A.length)(j0:0≤j)(jl:j≤B.length)(hle:A[i.toNat]!≤B[j.toNat]!)(h:B1u A B i j t) :
  B1u A B (i+1) j (if i-j=0 then t++[A[i.toNat]!]else t):=by
 have hl:=A6k h0 (by omega) j0 jl h
 obtain⟨v,hji,e⟩:=h
 have hj:j < B.length:=by omega
 rw[L6 h0 hi,L6 j0 hj]at v e
 rw[sw,if_pos hle]at e
 refine⟨?_,by omega,?_⟩
 ·rw[L6 j0 hj,show(i+1-j).toNat=(i-j).toNat+1 by omega];exact v.in_ hle
 ·rw[← e,L6 j0 hj,show(i+1-j).toNat=(i-j).toNat+1 by omega]
  by_cases z:i-j=0
  ·rw[if_pos z,if_pos (show(i-j).toNat=0 by omega),List.append_assoc]
  ·rw[if_neg z,if_neg (show ¬(i-j).toNat=0 by omega)];rfl
theorem A6l{A B:List Int}{i j:Int}{t:List Int}(h0:0≤i)(hi:i≤A.length)(j0:0≤j)(jl:j≤B.length)(ho:i < A.length∨j < B.length)(hn:¬(i < A.length∧A[i.toNat]!≤B[j.toNat]!))(h:B1u A B i j t) :
  j < B.length∧j < i∧B1u A B i (j+1) (if i-j-1=0 then t++[B[j.toNat]!]else t):=by
 have hl:=A6k h0 hi j0 jl h
 obtain⟨v,hji,e⟩:=h
 have hj:j < B.length:=by omega
 rw[L6 j0 hj]at v e
 by_cases hA:i < A.length
 ·have hba:B[j.toNat]! < A[i.toNat]!:=by have:¬ A[i.toNat]!≤B[j.toNat]!:=fun k=>hn ⟨hA,k⟩;omega
  rw[L6 h0 hA]at v e
  have hp:=v.pos hba
  rw[sw,if_neg (by omega)]at e
  refine⟨hj,by omega,?_,by omega,?_⟩
  ·rw[L6 h0 hA,show(i-(j+1)).toNat=(i-j).toNat-1 by omega];exact v.out hba
  ·rw[← e,L6 h0 hA,show(i-(j+1)).toNat=(i-j).toNat-1 by omega]
   by_cases z:i-j-1=0
   ·rw[if_pos z,if_pos (show(i-j).toNat=1 by omega),List.append_assoc]
   ·rw[if_neg z,if_neg (show ¬(i-j).toNat=1 by omega)];rfl
 ·rw[List.drop_of_length_le (l:=A) (by omega)]at v e
  have hp:=v.end_
  rw[sw]at e
  refine⟨hj,by omega,?_,by omega,?_⟩
  ·rw[List.drop_of_length_le (l:=A) (by omega),show(i-(j+1)).toNat=(i-j).toNat-1 by omega];exact hp.2
  ·rw[← e,List.drop_of_length_le (l:=A) (by omega),show(i-(j+1)).toNat=(i-j).toNat-1 by omega]
   by_cases z:i-j-1=0
   ·rw[if_pos z,if_pos (show(i-j).toNat=1 by omega),List.append_assoc]
   ·rw[if_neg z,if_neg (show ¬(i-j).toNat=1 by omega)];rfl
theorem B1v{A B:List Int}{i j:Int}{t:List Int}(ho:¬(i < A.length∨j < B.length))(h:B1u A B i j t):t=sw A B 0:=by
 have e:=h.2.2
 rw[List.drop_of_length_le (by omega),List.drop_of_length_le (by omega),sw,List.append_nil]at e
 exact e
theorem Aa4{lo hi:List Int}(h:lo.length=hi.length):(A41 lo hi).length=lo.length:=by
 unfold A41;rw[List.length_zipWith];omega
theorem Ag5{lo hi:List Int}{i:Int}(h:lo.length=hi.length)(h0:0≤i)(hi':i < lo.length):(A41 lo hi).take (i+1).toNat=(A41 lo hi).take i.toNat++[⟨lo[i.toNat]!,hi[i.toNat]!⟩]:=by
 rw[← D6 h0 (by rw[Aa4 h];exact hi')]
 congr 2
 have:=Aa4 h
 rw[getElem!_pos (A41 lo hi) i.toNat (by omega),getElem!_pos lo i.toNat (by omega),getElem!_pos hi i.toNat (by omega)]
 simp [A41]
theorem At4(a:List Run)(r:Run):B3p (a++[r])=B3p a++if(D2 r).lo≤(D2 r).hi then[(D2 r).lo]else[]:=by
 unfold B3p
 rw[A2u,A0d,List.map_append]
 split <;> rfl
theorem Ag6(a:List Run)(r:Run):A8a (a++[r])=A8a a++if(D2 r).lo≤(D2 r).hi then[(D2 r).hi+1]else[]:=by
 unfold A8a
 rw[A2u,A0d,List.map_append]
 split <;> rfl
theorem B1w{lo hi:List Int}{i:Int}{a b:List Int}(h:lo.length=hi.length)(h0:0≤i)(hl:i < lo.length)(hc:max lo[i.toNat]! 1≤min hi[i.toNat]! 1000000000)(ha:A3e lo hi i a)(hb:V8 lo hi i b) :
  A3e lo hi (i+1) (a++[max lo[i.toNat]! 1])∧V8 lo hi (i+1) (b++[min hi[i.toNat]! 1000000000+1]):=by
 unfold A3e V8 at *
 have hc':(D2 ⟨lo[i.toNat]!,hi[i.toNat]!⟩).lo≤(D2 ⟨lo[i.toNat]!,hi[i.toNat]!⟩).hi:=hc
 rw[Ag5 h h0 hl,At4,Ag6,← ha,← hb,if_pos hc',if_pos hc']
 exact⟨rfl,rfl⟩
theorem At5{lo hi:List Int}{i:Int}{a b:List Int}(h:lo.length=hi.length)(h0:0≤i)(hl:i < lo.length)(hc:¬ max lo[i.toNat]! 1≤min hi[i.toNat]! 1000000000)(ha:A3e lo hi i a)(hb:V8 lo hi i b) :
  A3e lo hi (i+1) a∧V8 lo hi (i+1) b:=by
 unfold A3e V8 at *
 have hc':¬(D2 ⟨lo[i.toNat]!,hi[i.toNat]!⟩).lo≤(D2 ⟨lo[i.toNat]!,hi[i.toNat]!⟩).hi:=hc
 rw[Ag5 h h0 hl,At4,Ag6,← ha,← hb,if_neg hc',if_neg hc',List.append_nil,List.append_nil]
 exact⟨rfl,rfl⟩
theorem A8e{lo hi:List Int}{i:Int}{a b:List Int}(h:lo.length=hi.length)(hl:¬ i < lo.length)(ha:A3e lo hi i a)(hb:V8 lo hi i b):a.mergeSort leI=B5r (A41 lo hi)∧b.mergeSort leI=Aa3 (A41 lo hi):=by
 unfold A3e V8 at *
 have:=Aa4 h
 rw[ha,hb,List.take_of_length_le (by omega)]
 exact⟨rfl,rfl⟩
theorem Ak4(l:List Run):B1u (B5r l) (Aa3 l) 0 0 []:=⟨Ag3 l,by omega,by simp⟩
theorem con206(lo hi:List Int)(h:lo.length=hi.length)(hb:lo.length*16≤140737488351232):Con Tryz.prog 206 [.sl (lo.map c3),.sl (hi.map c3)] (.sl ((D4 (nrm (A41 lo hi))).map c3)) :=
 by
 refine lN 0 c3 (lo) Tryz.func206 fun hl_0=>lN 1 c3 (hi) Tryz.func206 fun hl_1=>sC B3 [.tmp 4] 98 Tryz.func206 ?_
 intro e0 cx
 refine sq<|rG cx [0,1] [] z0<|sn<|sq<|rG cx [0,1,5,6] [] z0<|sn<|sq<|sq<|rG cx [0,1,5,6,7] [] z0<|sn<|bL 0<|I7 5 1005 3 1 (σ':=⟨[(0,.sl (List.map c3 lo)),(1,.sl (List.map c3 hi)),(5,.own 1005 0),(6,.nl),(7,.i .i64 ((0:Int)))],[(1005,⟨0,3,.row 1 (List.map c3 [])⟩)]⟩) (by kernel_rfl)<|I7 6 1006 3 1 (σ':=⟨[(0,.sl (List.map c3 lo)),(1,.sl (List.map c3 hi)),(5,.own 1005 0),(6,.own 1006 0),(7,.i .i64 ((0:Int)))],[(1005,⟨0,3,.row 1 (List.map c3 [])⟩),(1006,⟨0,3,.row 1 (List.map c3 [])⟩)]⟩) (by kernel_rfl)<|sL (X:=Int×List Int×List Int) (fun x=>⟨[(0,.sl (List.map c3 lo)),(1,.sl (List.map c3 hi)),(5,.own 1005 0),(6,.own 1006 0),(7,.i .i64 (x.1))],[(1005,⟨0,3,.row 1 (List.map c3 x.2.1)⟩),(1006,⟨0,3,.row 1 (List.map c3 x.2.2)⟩)]⟩) (fun x ↦ decTa lo x.1 x.2.1 x.2.2) (fun x ↦ B1t lo hi x.1 x.2.1 x.2.2) [0,1,5,6,7] [1005,1006] (((0:Int),[],[])) (show B1t lo hi (0:Int) [] []from ?g0) ?_;rotate_left
 rintro⟨i0,a1,b2⟩ h_3
 obtain⟨hh4,hh5,hh6,hh7,h8,h9⟩:0≤i0∧i0≤(↑lo.length:Int)∧(↑a1.length:Int)≤i0∧(↑b2.length:Int)=(↑a1.length:Int)∧A3e lo hi i0 a1∧V8 lo hi i0 b2:=h_3
 refine sq<|rD cx [0,1,5,6,7,17] [1005,1006] (tL 2 c3 lo (zB 3 (i0 <(↑lo.length:Int)))) (fun h10=>?_) fun h10=>?_
 refine sK<|sn<|sq<|bL 1<|sq<|rA cx [0,1,5,6,7,8,9] [1005,1006] (fA (0≤i0) (fG c3 lo i0.toNat (fR 1 (tT 4 (A20:AV.i .i64 (if(1:Int) > lo[i0.toNat]! then(1:Int)else lo[i0.toNat]!)=AV.i .i64 (max lo[i0.toNat]! (1:Int))) (fA (0≤i0) (fG c3 hi i0.toNat (fR 1 (tT 9 (A21:AV.i .i64 (if(1000000000:Int) < hi[i0.toNat]! then(1000000000:Int)else hi[i0.toNat]!)=AV.i .i64 (min hi[i0.toNat]! (1000000000:Int))) (oR 2 (c3 lo[i0.toNat]!) (oR 7 (c3 hi[i0.toNat]!) z0))))))))))<|sn<|rD cx [0,1,5,6,7,8,9,32] [1005,1006] (zB 2 (max lo[i0.toNat]! 1≤min hi[i0.toNat]! (1000000000:Int))) (fun h11=>?_) fun h11=>?_
 refine sq<|rG cx [0,1,5,6,7,9] [1005,1006] (fR 3 (fR 1 (fR 1 (fX c3 [max lo[i0.toNat]! (1:Int)] 1 (fS c3 a1 c3 [max lo[i0.toNat]! (1:Int)] (fP (((List.map c3 a1).length+(List.map c3 [max lo[i0.toNat]! (1:Int)]).length)*(8:Nat)≤(140737488355328:Nat)) (by(simp only [Go.maxLen,List.length_map,List.length_append,List.length_cons,List.length_nil];omega)) (fM c3 a1 [max lo[i0.toNat]! (1:Int)] (oV 3 { rows:=some (List.map c3 (a1++[max lo[i0.toNat]! (1:Int)])) } z0))))))))<|sn<|rG cx [0,1,5,6,7] [1005,1006] (tW 2 (min hi[i0.toNat]! (1000000000:Int)+(1:Int)) (fR 3 (fR 1 (fR 1 (fX c3 [min hi[i0.toNat]! (1000000000:Int)+(1:Int)] 1 (fS c3 b2 c3 [min hi[i0.toNat]! (1000000000:Int)+(1:Int)] (fP (((List.map c3 b2).length+(List.map c3 [min hi[i0.toNat]! (1000000000:Int)+(1:Int)]).length)*(8:Nat)≤(140737488355328:Nat)) (by(simp only [Go.maxLen,List.length_map,List.length_append,List.length_cons,List.length_nil];omega)) (fM c3 b2 [min hi[i0.toNat]! (1000000000:Int)+(1:Int)] (oV 4 { rows:=some (List.map c3 (b2++[min hi[i0.toNat]! (1000000000:Int)+(1:Int)])) } z0)))))))))<|bN<|sn<|rG cx [0,1,5,6,7] [1005,1006] (tW 1 (i0+1) z0)<|sn<|nX ((i0+1,a1++[max lo[i0.toNat]! (1:Int)],b2++[min hi[i0.toNat]! (1000000000:Int)+(1:Int)])) (show((↑lo.length:Int)-(i0+1)).toNat <((↑lo.length:Int)-i0).toNat from(by omega)) (show B1t lo hi (i0+1) (a1++[max lo[i0.toNat]! (1:Int)]) (b2++[min hi[i0.toNat]! (1000000000:Int)+(1:Int)])from ?g1);rotate_left
 refine sK<|bN<|sn<|rG cx [0,1,5,6,7] [1005,1006] (tW 1 (i0+1) z0)<|sn<|nX ((i0+1,a1,b2)) (show((↑lo.length:Int)-(i0+1)).toNat <((↑lo.length:Int)-i0).toNat from(by omega)) (show B1t lo hi (i0+1) a1 b2 from ?g2);rotate_left
 refine eX 0<|nE<|nE<|bH<|sn<|sq<|rG cx [5,6] [1006] (fT (B3o (a1) (by omega)) (oA 1 (.sl (List.map c3 (a1.mergeSort leI))) z0))<|sn<|sq<|rG cx [5,6] [] (fT (B3o (b2) (by omega)) (oA 1 (.sl (List.map c3 (b2.mergeSort leI))) z0))<|sn<|sq<|rG cx [5,6,10] [] z0<|sn<|sq<|rG cx [5,6,10,11,12] [] z0<|sn<|sq<|sq<|rG cx [5,6,10,11,12,13] [] z0<|sn<|bL 2<|I7 10 1010 3 1 (σ':=⟨[(5,.sl (List.map c3 (a1.mergeSort leI))),(6,.sl (List.map c3 (b2.mergeSort leI))),(10,.own 1010 0),(11,.i .i64 ((0:Int))),(12,.i .i64 ((0:Int))),(13,.i .i64 ((0:Int)))],[(1010,⟨0,3,.row 1 (List.map c3 [])⟩)]⟩) (by kernel_rfl)<|sL (X:=Int×Int×Int×List Int) (fun x=>⟨[(5,.sl (List.map c3 (a1.mergeSort leI))),(6,.sl (List.map c3 (b2.mergeSort leI))),(10,.own 1010 0),(11,.i .i64 (x.1)),(12,.i .i64 (x.2.1)),(13,.i .i64 (x.2.2.1))],[(1010,⟨0,3,.row 1 (List.map c3 x.2.2.2)⟩)]⟩) (fun x ↦ decTb (a1.mergeSort leI) (b2.mergeSort leI) x.1 x.2.1 x.2.2.1 x.2.2.2) (fun x ↦ Ak3 (a1.mergeSort leI) (b2.mergeSort leI) x.1 x.2.1 x.2.2.1 x.2.2.2) [5,6,10,11,12,13] [1010] (((0:Int),(0:Int),(0:Int),[])) (show Ak3 (a1.mergeSort leI) (b2.mergeSort leI) (0:Int) (0:Int) (0:Int) []from ?g3) ?_;rotate_left
 rintro⟨d12,j13,i14,t15⟩ h_16
 obtain⟨h17,h18,h19,h20,h21,h22,h23⟩:0≤i14∧i14≤(↑(a1.mergeSort leI).length:Int)∧0≤j13∧j13≤(↑(b2.mergeSort leI).length:Int)∧d12=i14-j13∧(↑t15.length:Int)≤i14+j13∧B1u (a1.mergeSort leI) (b2.mergeSort leI) i14 j13 t15:=h_16
 refine sq<|sq<|A9 (σ':=⟨[(5,.sl (List.map c3 (a1.mergeSort leI))),(6,.sl (List.map c3 (b2.mergeSort leI))),(10,.own 1010 0),(11,.i .i64 (d12)),(12,.i .i64 (j13)),(13,.i .i64 (i14)),(55,.b (decide (i14 <(↑(a1.mergeSort leI).length:Int)∨j13 <(↑(b2.mergeSort leI).length:Int))))],[(1010,⟨0,3,.row 1 (List.map c3 t15)⟩)]⟩) ?_ ?_
 refine A4 (i14 <(↑(a1.mergeSort leI).length:Int)) (fun h_25=>?_) (fun h_25=>?_)
 refine rG cx [5,6,10,11,12,13,55] [1010] (tL 2 c3 (a1.mergeSort leI) (tT 3 (A3 h_25) (tD 9 true (i14 <(↑(a1.mergeSort leI).length:Int)∨j13 <(↑(b2.mergeSort leI).length:Int)) (by simp only [eq_true h_25,tsl]) z0))) ?_
 exact⟨rfl,by kernel_rfl⟩
 refine rG cx [5,6,10,11,12,13,55] [1010] (tL 2 c3 (a1.mergeSort leI) (tT 3 (A0 h_25) (tL 7 c3 (b2.mergeSort leI) (tB 8 (j13 <(↑(b2.mergeSort leI).length:Int)) (tD 9 (decide (j13 <(↑(b2.mergeSort leI).length:Int))) (i14 <(↑(a1.mergeSort leI).length:Int)∨j13 <(↑(b2.mergeSort leI).length:Int)) (by simp only [eq_false h_25,tsl]) z0))))) ?_
 exact⟨rfl,by kernel_rfl⟩
 refine sn<|dC (i14 <(↑(a1.mergeSort leI).length:Int)∨j13 <(↑(b2.mergeSort leI).length:Int)) (fun h26=>?_) fun h26=>?_
 refine sK<|sn<|bL 3<|sq<|A9 (σ':=⟨[(5,.sl (List.map c3 (a1.mergeSort leI))),(6,.sl (List.map c3 (b2.mergeSort leI))),(10,.own 1010 0),(11,.i .i64 (d12)),(12,.i .i64 (j13)),(13,.i .i64 (i14)),(70,.b (decide (i14 <(↑(a1.mergeSort leI).length:Int)∧(a1.mergeSort leI)[i14.toNat]!≤(b2.mergeSort leI)[j13.toNat]!)))],[(1010,⟨0,3,.row 1 (List.map c3 t15)⟩)]⟩) ?_ ?_
 refine A4 (i14 <(↑(a1.mergeSort leI).length:Int)) (fun h28=>?_) (fun h28=>?_)
 refine rA cx [5,6,10,11,12,13,70] [1010] (tL 2 c3 (a1.mergeSort leI) (tT 3 (A3 h28) (fA (0≤i14) (fG c3 (a1.mergeSort leI) i14.toNat (fR 1 (fA (0≤j13) (fP ((List.map c3 (b2.mergeSort leI))[j13.toNat]?=some (c3 (b2.mergeSort leI)[j13.toNat]!)) ?g4 (fR 1 (tB 13 ((a1.mergeSort leI)[i14.toNat]!≤(b2.mergeSort leI)[j13.toNat]!) (tD 14 (decide ((a1.mergeSort leI)[i14.toNat]!≤(b2.mergeSort leI)[j13.toNat]!)) (i14 <(↑(a1.mergeSort leI).length:Int)∧(a1.mergeSort leI)[i14.toNat]!≤(b2.mergeSort leI)[j13.toNat]!) (by simp only [eq_true h28,tsl]) (oR 7 (c3 (a1.mergeSort leI)[i14.toNat]!) (oR 11 (c3 (b2.mergeSort leI)[j13.toNat]!) z0)))))))))))) ?_;rotate_left
 exact⟨rfl,by kernel_rfl⟩
 refine rA cx [5,6,10,11,12,13,70] [1010] (tL 2 c3 (a1.mergeSort leI) (tT 3 (A0 h28) (tD 14 false (i14 <(↑(a1.mergeSort leI).length:Int)∧(a1.mergeSort leI)[i14.toNat]!≤(b2.mergeSort leI)[j13.toNat]!) (by simp only [eq_false h28,tsl]) z0))) ?_
 exact⟨rfl,by kernel_rfl⟩
 refine sn<|dC (i14 <(↑(a1.mergeSort leI).length:Int)∧(a1.mergeSort leI)[i14.toNat]!≤(b2.mergeSort leI)[j13.toNat]!) (fun h29=>?_) fun h29=>?_
 refine sq<|rD cx [5,6,10,11,12,13,72] [1010] (zB 1 (d12=0)) (fun h30=>?_) fun h30=>?_
 refine rG cx [5,6,10,11,12,13] [1010] (fA (0≤i14) (fG c3 (a1.mergeSort leI) i14.toNat (fR 1 (fR 3 (fR 1 (fR 1 (fX c3 [(a1.mergeSort leI)[i14.toNat]!] 1 (fP ((List.map c3 t15).length+(List.map c3 [(a1.mergeSort leI)[i14.toNat]!]).length≤maxLen) ?g5 (fP (((List.map c3 t15).length+(List.map c3 [(a1.mergeSort leI)[i14.toNat]!]).length)*(8:Nat)≤(140737488355328:Nat)) ?g6 (fM c3 t15 [(a1.mergeSort leI)[i14.toNat]!] (oR 3 (c3 (a1.mergeSort leI)[i14.toNat]!) (oV 6 { rows:=some (List.map c3 (t15++[(a1.mergeSort leI)[i14.toNat]!])) } z0)))))))))))) ?_;rotate_left 2
 refine sn<|sq<|rG cx [5,6,10,11,12,13] [1010] (tW 1 (d12+1) z0)<|sn<|rG cx [5,6,10,11,12,13] [1010] (tT 1 (B6 (by omega) ?g7:AV.i .i64 (IntKind.i64.wrap (i14+1))=AV.i .i64 (i14+1)) z0) ?_;rotate_left
 refine bN<|sn<|nX ((d12+1,j13,i14+1,t15++[(a1.mergeSort leI)[i14.toNat]!])) (show((↑(a1.mergeSort leI).length:Int)+(↑(b2.mergeSort leI).length:Int)-(i14+1)-j13).toNat <((↑(a1.mergeSort leI).length:Int)+(↑(b2.mergeSort leI).length:Int)-i14-j13).toNat from(by omega)) (show Ak3 (a1.mergeSort leI) (b2.mergeSort leI) (d12+1) j13 (i14+1) (t15++[(a1.mergeSort leI)[i14.toNat]!])from ?g8);rotate_left
 refine sK<|sn<|sq<|rG cx [5,6,10,11,12,13] [1010] (tT 1 (B6 ?g9 ?g10:AV.i .i64 (IntKind.i64.wrap (d12+1))=AV.i .i64 (d12+1)) z0) ?_;rotate_left 2
 refine sn<|rG cx [5,6,10,11,12,13] [1010] (tT 1 (B6 (by omega) ?g11:AV.i .i64 (IntKind.i64.wrap (i14+1))=AV.i .i64 (i14+1)) z0) ?_;rotate_left
 refine bN<|sn<|nX ((d12+1,j13,i14+1,t15)) (show((↑(a1.mergeSort leI).length:Int)+(↑(b2.mergeSort leI).length:Int)-(i14+1)-j13).toNat <((↑(a1.mergeSort leI).length:Int)+(↑(b2.mergeSort leI).length:Int)-i14-j13).toNat from(by omega)) (show Ak3 (a1.mergeSort leI) (b2.mergeSort leI) (d12+1) j13 (i14+1) t15 from ?g12);rotate_left
 refine sq<|rG cx [5,6,10,11,12,13] [1010] (tT 1 (B6 ?g13 ?g14:AV.i .i64 (IntKind.i64.wrap (d12-1))=AV.i .i64 (d12-1)) z0) ?_;rotate_left 2
 refine sn<|sq<|rD cx [5,6,10,11,12,13,87] [1010] (zB 1 (d12-1=(0:Int))) (fun h31=>?_) fun h31=>?_
 refine rG cx [5,6,10,11,12,13] [1010] (fA (0≤j13) (fP ((List.map c3 (b2.mergeSort leI))[j13.toNat]?=some (c3 (b2.mergeSort leI)[j13.toNat]!)) ?g15 (fR 1 (fR 3 (fR 1 (fR 1 (fX c3 [(b2.mergeSort leI)[j13.toNat]!] 1 (fP ((List.map c3 t15).length+(List.map c3 [(b2.mergeSort leI)[j13.toNat]!]).length≤maxLen) ?g16 (fP (((List.map c3 t15).length+(List.map c3 [(b2.mergeSort leI)[j13.toNat]!]).length)*(8:Nat)≤(140737488355328:Nat)) ?g17 (fM c3 t15 [(b2.mergeSort leI)[j13.toNat]!] (oR 3 (c3 (b2.mergeSort leI)[j13.toNat]!) (oV 6 { rows:=some (List.map c3 (t15++[(b2.mergeSort leI)[j13.toNat]!])) } z0)))))))))))) ?_;rotate_left 3
 refine sn<|rG cx [5,6,10,11,12,13] [1010] (tT 1 (B6 (by omega) ?g18:AV.i .i64 (IntKind.i64.wrap (j13+1))=AV.i .i64 (j13+1)) z0) ?_;rotate_left
 refine bN<|sn<|nX ((d12-1,j13+1,i14,t15++[(b2.mergeSort leI)[j13.toNat]!])) (show((↑(a1.mergeSort leI).length:Int)+(↑(b2.mergeSort leI).length:Int)-i14-(j13+1)).toNat <((↑(a1.mergeSort leI).length:Int)+(↑(b2.mergeSort leI).length:Int)-i14-j13).toNat from(by omega)) (show Ak3 (a1.mergeSort leI) (b2.mergeSort leI) (d12-1) (j13+1) i14 (t15++[(b2.mergeSort leI)[j13.toNat]!])from ?g19);rotate_left
 refine sK<|sn<|rG cx [5,6,10,11,12,13] [1010] (tT 1 (B6 (by omega) ?g20:AV.i .i64 (IntKind.i64.wrap (j13+1))=AV.i .i64 (j13+1)) z0) ?_;rotate_left
 refine bN<|sn<|nX ((d12-1,j13+1,i14,t15)) (show((↑(a1.mergeSort leI).length:Int)+(↑(b2.mergeSort leI).length:Int)-i14-(j13+1)).toNat <((↑(a1.mergeSort leI).length:Int)+(↑(b2.mergeSort leI).length:Int)-i14-j13).toNat from(by omega)) (show Ak3 (a1.mergeSort leI) (b2.mergeSort leI) (d12-1) (j13+1) i14 t15 from ?g21);rotate_left
 refine eX 2<|nE<|nE<|bH<|sn<|sq<|rG cx [4] [1010] z0<|sn<|rT<|qR (.sl (List.map c3 t15)) (.eq ?g22);rotate_left
 rotate_left
 revert i0 a1 b2 hh4 hh5 hh6 hh7 h8 h9 h10 h11;rotate_left
 revert i0 a1 b2 hh4 hh5 hh6 hh7 h8 h9 h10 h11;rotate_left
 revert i0 a1 b2 hh4 hh5 hh6 hh7 h8 h9 h10;rotate_left
 revert i0 a1 b2 hh4 hh5 hh6 hh7 h8 h9 h10 d12 j13 i14 t15 h17 h18 h19 h20 h21 h22 h23 h26 h28;rotate_left
 revert i0 a1 b2 hh4 hh5 hh6 hh7 h8 h9 h10 d12 j13 i14 t15 h17 h18 h19 h20 h21 h22 h23 h26 h29 h30;rotate_left
 revert i0 a1 b2 hh4 hh5 hh6 hh7 h8 h9 h10 d12 j13 i14 t15 h17 h18 h19 h20 h21 h22 h23 h26 h29 h30;rotate_left
 revert i0 a1 b2 hh4 hh5 hh6 hh7 h8 h9 h10 d12 j13 i14 t15 h17 h18 h19 h20 h21 h22 h23 h26 h29 h30;rotate_left
 revert i0 a1 b2 hh4 hh5 hh6 hh7 h8 h9 h10 d12 j13 i14 t15 h17 h18 h19 h20 h21 h22 h23 h26 h29 h30;rotate_left
 revert i0 a1 b2 hh4 hh5 hh6 hh7 h8 h9 h10 d12 j13 i14 t15 h17 h18 h19 h20 h21 h22 h23 h26 h29 h30;rotate_left
 revert i0 a1 b2 hh4 hh5 hh6 hh7 h8 h9 h10 d12 j13 i14 t15 h17 h18 h19 h20 h21 h22 h23 h26 h29 h30;rotate_left
 revert i0 a1 b2 hh4 hh5 hh6 hh7 h8 h9 h10 d12 j13 i14 t15 h17 h18 h19 h20 h21 h22 h23 h26 h29 h30;rotate_left
 revert i0 a1 b2 hh4 hh5 hh6 hh7 h8 h9 h10 d12 j13 i14 t15 h17 h18 h19 h20 h21 h22 h23 h26 h29 h30;rotate_left
 revert i0 a1 b2 hh4 hh5 hh6 hh7 h8 h9 h10 d12 j13 i14 t15 h17 h18 h19 h20 h21 h22 h23 h26 h29;rotate_left
 revert i0 a1 b2 hh4 hh5 hh6 hh7 h8 h9 h10 d12 j13 i14 t15 h17 h18 h19 h20 h21 h22 h23 h26 h29;rotate_left
 revert i0 a1 b2 hh4 hh5 hh6 hh7 h8 h9 h10 d12 j13 i14 t15 h17 h18 h19 h20 h21 h22 h23 h26 h29 h31;rotate_left
 revert i0 a1 b2 hh4 hh5 hh6 hh7 h8 h9 h10 d12 j13 i14 t15 h17 h18 h19 h20 h21 h22 h23 h26 h29 h31;rotate_left
 revert i0 a1 b2 hh4 hh5 hh6 hh7 h8 h9 h10 d12 j13 i14 t15 h17 h18 h19 h20 h21 h22 h23 h26 h29 h31;rotate_left
 revert i0 a1 b2 hh4 hh5 hh6 hh7 h8 h9 h10 d12 j13 i14 t15 h17 h18 h19 h20 h21 h22 h23 h26 h29 h31;rotate_left
 revert i0 a1 b2 hh4 hh5 hh6 hh7 h8 h9 h10 d12 j13 i14 t15 h17 h18 h19 h20 h21 h22 h23 h26 h29 h31;rotate_left
 revert i0 a1 b2 hh4 hh5 hh6 hh7 h8 h9 h10 d12 j13 i14 t15 h17 h18 h19 h20 h21 h22 h23 h26 h29 h31;rotate_left
 revert i0 a1 b2 hh4 hh5 hh6 hh7 h8 h9 h10 d12 j13 i14 t15 h17 h18 h19 h20 h21 h22 h23 h26 h29 h31;rotate_left
 revert i0 a1 b2 hh4 hh5 hh6 hh7 h8 h9 h10 d12 j13 i14 t15 h17 h18 h19 h20 h21 h22 h23 h26;rotate_left
 case g0=>exact⟨by omega,by omega,by simp,by simp,by simp [A3e,B3p,J8],by simp [V8,A8a,J8]⟩
 case g1=>intro i a b h0 h1 h2 h3 h4 h5 h6 h7;have:=B1w h h0 h6 h7 h4 h5;exact⟨by omega,by omega,by simp only [List.length_append,List.length_cons,List.length_nil];omega,by simp only [List.length_append,List.length_cons,List.length_nil];omega,this.1,this.2⟩
 case g2=>intro i a b h0 h1 h2 h3 h4 h5 h6 h7;have:=At5 h h0 h6 h7 h4 h5;exact⟨by omega,by omega,by omega,by omega,this.1,this.2⟩
 case g3=>intro i a b h0 h1 h2 h3 h4 h5 h6;obtain⟨e1,e2⟩:=A8e h h6 h4 h5;rw[e1,e2];exact⟨by omega,by omega,by omega,by omega,by omega,by simp,Ak4 _⟩
 case g4=>intro i a b h0 h1 h2 h3 h4 h5 h6 d j k t k0 k1 k2 k3 k4 k5 k6 k7 k8;have:=A6k k0 k1 k2 k3 k6;have:=k6.2.1;exact G5 (by omega)
 case g8 =>
  intro i a b h0 h1 h2 h3 h4 h5 h6 d j k t k0 k1 k2 k3 k4 k5 k6 k7 k8 k9
  have:=At3 k0 k8.1 k2 k3 k8.2 k6
  rw[if_pos (by omega)]at this
  exact⟨by omega,by omega,by omega,by omega,by omega,by simp only [List.length_append,List.length_cons,List.length_nil];omega,this⟩
 case g12 =>
  intro i a b h0 h1 h2 h3 h4 h5 h6 d j k t k0 k1 k2 k3 k4 k5 k6 k7 k8 k9
  have:=At3 k0 k8.1 k2 k3 k8.2 k6
  rw[if_neg (by omega)]at this
  exact⟨by omega,by omega,by omega,by omega,by omega,by omega,this⟩
 case g15=>intro i a b h0 h1 h2 h3 h4 h5 h6 d j k t k0 k1 k2 k3 k4 k5 k6 k7 k8 k9;have:=A6l k0 k1 k2 k3 k7 k8 k6;exact G5 (by omega)
 case g19 =>
  intro i a b h0 h1 h2 h3 h4 h5 h6 d j k t k0 k1 k2 k3 k4 k5 k6 k7 k8 k9
  obtain⟨q1,q2,this⟩:=A6l k0 k1 k2 k3 k7 k8 k6
  rw[if_pos (by omega)]at this
  exact⟨by omega,by omega,by omega,by omega,by omega,by simp only [List.length_append,List.length_cons,List.length_nil];omega,this⟩
 case g21 =>
  intro i a b h0 h1 h2 h3 h4 h5 h6 d j k t k0 k1 k2 k3 k4 k5 k6 k7 k8 k9
  obtain⟨q1,q2,this⟩:=A6l k0 k1 k2 k3 k7 k8 k6
  rw[if_neg (by omega)]at this
  exact⟨by omega,by omega,by omega,by omega,by omega,by omega,this⟩
 case g22 =>
  intro i a b h0 h1 h2 h3 h4 h5 h6 d j k t k0 k1 k2 k3 k4 k5 k6 k7
  obtain⟨e1,e2⟩:=A8e h h6 h4 h5
  rw[e1,e2]at k6 k7
  rw[B1v k7 k6,As9]
 all_goals
  intros
  simp only [List.length_mergeSort,List.length_map,List.length_cons,List.length_nil,Go.maxLen]at *
  omega
end Go.Proofs.YtphcaholhacnpaaGreat
namespace Go.Proofs.YtphcaholhacnpaaGreat
open Go.E
set_option maxRecDepth 100000
set_option maxHeartbeats 4000000
def B6t(s:Nat→List Int):List AV:=E9 c3 16 s
def tnS(U:Nat→List Run)(r:Nat):List Int:=D4 (U r)
def zT(A B:Nat→List Int)(r:Nat):List Run:=A41 (A r) (B r)
def A6m(A B:Nat→List Int):Prop:=∀ r:Nat,r < 16→(A r).length=(B r).length
def B5t(ps:List Past)(i:Int)(A B:Nat→List Int):Prop:=0≤i∧i≤ps.length∧A6m A B∧A4r ps i (zT A B)
def decMa(ps:List Past)(i:Int)(A B:Nat→List Int):Nat:=(ps.length-i).toNat
def B5u(ps:List Past)(i j:Int)(A B:Nat→List Int):Prop:=0≤j∧j≤(ps[i.toNat]!).vec.length∧j≤16∧A6m A B∧T4 ps i j (zT A B)
def decMb(ps:List Past)(i j:Int)(A B:Nat→List Int):Nat:=((ps[i.toNat]!).vec.length-j).toNat
def B1x(ps:List Past)(i j:Int)(A B:Nat→List Int):Prop:=0≤j∧j≤(ps[i.toNat]!).cloud.length∧A6m A B∧N8 ps i j (zT A B)
def decMc(ps:List Past)(i j:Int)(A B:Nat→List Int):Nat:=((ps[i.toNat]!).cloud.length-j).toNat
def Ag7(U:Nat→List Run)(r:Int)(S:Nat→List Int):Prop:=∀ k:Nat,(k:Int) < r→S k=tnS (B9 U) k
def B5v(A2 B2:Nat→List Int)(r:Int)(A B S:Nat→List Int):Prop:=A=A2∧B=B2∧0≤r∧r≤16∧Ag7 (zT A2 B2) r S
def decMd(r:Int)(A B S:Nat→List Int):Nat:=(16-r).toNat
theorem B3q{A B:Nat→List Int}{k:Nat}{x y:Int}(h:(A k).length=(B k).length)(r:Nat):zT (K7 A k (A k++[x])) (K7 B k (B k++[y])) r=K7 (zT A B) k (zT A B k++[⟨x,y⟩]) r:=by
 unfold zT K7
 by_cases e:r=k
 ·rw[if_pos e,if_pos e,if_pos e]
  unfold A41
  rw[List.zipWith_append h]
  rfl
 ·rw[if_neg e,if_neg e,if_neg e]
theorem A8f{A B:Nat→List Int}{k:Nat}{x y:Int}(h:A6m A B):A6m (K7 A k (A k++[x])) (K7 B k (B k++[y])):=by
 intro r hr
 have:=h r hr
 unfold K7
 by_cases e:r=k
 ·rw[if_pos e,if_pos e,List.length_append,List.length_append];subst e;simp only [List.length_cons,List.length_nil];omega
 ·rw[if_neg e,if_neg e];exact this
theorem At6{A B:Nat→List Int}(h:A6m A B){r:Nat}(hr:r < 16):(A r).length=(zT A B r).length∧(B r).length=(zT A B r).length:=by
 have:=h r hr
 unfold zT A41
 rw[List.length_zipWith]
 omega
theorem Aa5{U:Nat→List Run}{r:Int}{S:Nat→List Int}(h0:0≤r)(h:Ag7 U r S):Ag7 U (r+1) (K7 S r.toNat (tnS (B9 U) r.toNat)):=by
 intro k hk
 unfold K7
 by_cases e:k=r.toNat
 ·rw[if_pos e,e]
 ·rw[if_neg e];exact h k (by omega)
theorem con162 (ps : List Past) (hb : A4s ps * 16 ≤ 140737488351232) : Con Tryz.prog 162 [.sl (ps.map c26)] (.agg (B6t (tnS (B9 (A7 ps))))) :=
  by
  refine lN 0 c26 (ps) Tryz.func162 fun hl_0=>sC B3 [.cell 2 144] 116 Tryz.func162 ?_
  intro e0 cx
  refine sq<|rG cx [0,2] [2] z0<|sn<|sq<|rG cx [0,2,3,4] [2,3,4] z0<|sn<|sq<|sq<|rG cx [0,2,3,4,5] [2,3,4] z0<|sn<|bL 0<|A0a 3 3 1 100300 16 (σ':=⟨[(0,.sl (List.map c26 ps)),(2,.ptr (2) (0) (0) (0)),(3,.ptr (3) (0) (0) (0)),(4,.ptr (4) (0) (0) (0)),(5,.i .i64 ((0:Int)))],[(2,⟨0,144,.var [.nl,.nl,.nl,.nl,.nl,.nl,.nl,.nl,.nl,.nl,.nl,.nl,.nl,.nl,.nl,.nl]⟩),(3,⟨0,142,.var (F6 100300 16)⟩),(4,⟨0,142,.arr [.nl,.nl,.nl,.nl,.nl,.nl,.nl,.nl,.nl,.nl,.nl,.nl,.nl,.nl,.nl,.nl]⟩)]++C4 100300 3 1 16 (c3) (fun x ↦ [])⟩) (by kernel_rfl)<|A0a 4 3 1 100400 16 (σ':=⟨[(0,.sl (List.map c26 ps)),(2,.ptr (2) (0) (0) (0)),(3,.ptr (3) (0) (0) (0)),(4,.ptr (4) (0) (0) (0)),(5,.i .i64 ((0:Int)))],[(2,⟨0,144,.var [.nl,.nl,.nl,.nl,.nl,.nl,.nl,.nl,.nl,.nl,.nl,.nl,.nl,.nl,.nl,.nl]⟩),(3,⟨0,142,.var (F6 100300 16)⟩),(4,⟨0,142,.var (F6 100400 16)⟩)]++C4 100300 3 1 16 (c3) (fun x ↦ [])++C4 100400 3 1 16 (c3) (fun x ↦ [])⟩) (by kernel_rfl)<|sL (X:=Int×(Nat→List Int)×(Nat→List Int)) (fun x=>⟨[(0,.sl (List.map c26 ps)),(2,.ptr (2) (0) (0) (0)),(3,.ptr (3) (0) (0) (0)),(4,.ptr (4) (0) (0) (0)),(5,.i .i64 (x.1))],[(2,⟨0,144,.var [.nl,.nl,.nl,.nl,.nl,.nl,.nl,.nl,.nl,.nl,.nl,.nl,.nl,.nl,.nl,.nl]⟩),(3,⟨0,142,.var (F6 100300 16)⟩),(4,⟨0,142,.var (F6 100400 16)⟩)]++C4 100300 3 1 16 (c3) (x.2.1)++C4 100400 3 1 16 (c3) (x.2.2)⟩) (fun x ↦ decMa ps x.1 x.2.1 x.2.2) (fun x ↦ B5t ps x.1 x.2.1 x.2.2) [0,2,3,4,5] ([2,3,4]++List.range' 100300 16++List.range' 100400 16) (((0:Int),fun x ↦ [],fun x ↦ [])) (show B5t ps (0:Int) (fun x ↦ []) fun x ↦ []from ?g0) ?_;rotate_left
  rintro⟨i0,A1,B2⟩ h_3
  obtain⟨hh4,hh5,h6,h7⟩:0≤i0∧i0≤(↑ps.length:Int)∧A6m A1 B2∧A4r ps i0 (zT A1 B2):=h_3
  refine sq<|rD cx [0,2,3,4,5,14] ([2,3,4]++List.range' 100300 16++List.range' 100400 16) (tL 2 c26 ps (zB 3 (i0 <(↑ps.length:Int)))) (fun h8=>?_) fun h8=>?_
  refine sK<|sn<|sq<|bL 1<|sq<|sq<|rG cx [0,2,3,4,5,6] ([2,3,4]++List.range' 100300 16++List.range' 100400 16) z0<|sn<|bL 2<|sL (X:=Int×(Nat→List Int)×(Nat→List Int)) (fun x=>⟨[(0,.sl (List.map c26 ps)),(2,.ptr (2) (0) (0) (0)),(3,.ptr (3) (0) (0) (0)),(4,.ptr (4) (0) (0) (0)),(5,.i .i64 (i0)),(6,.i .i64 (x.1))],[(2,⟨0,144,.var [.nl,.nl,.nl,.nl,.nl,.nl,.nl,.nl,.nl,.nl,.nl,.nl,.nl,.nl,.nl,.nl]⟩),(3,⟨0,142,.var (F6 100300 16)⟩),(4,⟨0,142,.var (F6 100400 16)⟩)]++C4 100300 3 1 16 (c3) (x.2.1)++C4 100400 3 1 16 (c3) (x.2.2)⟩) (fun x ↦ decMb ps i0 x.1 x.2.1 x.2.2) (fun x ↦ B5u ps i0 x.1 x.2.1 x.2.2) [0,2,3,4,5,6] ([2,3,4]++List.range' 100300 16++List.range' 100400 16) (((0:Int),A1,B2)) (show B5u ps i0 (0:Int) A1 B2 from ?g1) ?_;rotate_left
  rintro⟨j9,A10,B11⟩ h_12
  obtain⟨h13,h14,h15,h16,h17⟩:0≤j9∧j9≤(↑ps[i0.toNat]!.vec.length:Int)∧j9≤16∧A6m A10 B11∧T4 ps i0 j9 (zT A10 B11):=h_12
  refine sq<|sq<|A9 (σ':=⟨[(0,.sl (List.map c26 ps)),(2,.ptr (2) (0) (0) (0)),(3,.ptr (3) (0) (0) (0)),(4,.ptr (4) (0) (0) (0)),(5,.i .i64 (i0)),(6,.i .i64 (j9)),(28,.b (decide (j9 <(↑ps[i0.toNat]!.vec.length:Int)∧j9 <(16:Int))))],[(2,⟨0,144,.var [.nl,.nl,.nl,.nl,.nl,.nl,.nl,.nl,.nl,.nl,.nl,.nl,.nl,.nl,.nl,.nl]⟩),(3,⟨0,142,.var (F6 100300 16)⟩),(4,⟨0,142,.var (F6 100400 16)⟩)]++C4 100300 3 1 16 (c3) (A10)++C4 100400 3 1 16 (c3) (B11)⟩) ?_ ?_
  refine A4 (j9 <(↑ps[i0.toNat]!.vec.length:Int)) (fun h_19=>?_) (fun h_19=>?_)
  refine rG cx [0,2,3,4,5,6,28] ([2,3,4]++List.range' 100300 16++List.range' 100400 16) (fA (0≤i0) (fG c26 ps i0.toNat (fR 2 (tL 6 c3 ps[i0.toNat]!.vec (tT 7 (A3 h_19) (tB 10 (j9 <(16:Int)) (tD 11 (decide (j9 <(16:Int))) (j9 <(↑ps[i0.toNat]!.vec.length:Int)∧j9 <(16:Int)) (by simp only [eq_true h_19,tsl]) (oR 3 (c26 ps[i0.toNat]!) z0)))))))) ?_
  exact⟨rfl,by kernel_rfl⟩
  refine rG cx [0,2,3,4,5,6,28] ([2,3,4]++List.range' 100300 16++List.range' 100400 16) (fA (0≤i0) (fG c26 ps i0.toNat (fR 2 (tL 6 c3 ps[i0.toNat]!.vec (tT 7 (A0 h_19) (tD 11 false (j9 <(↑ps[i0.toNat]!.vec.length:Int)∧j9 <(16:Int)) (by simp only [eq_false h_19,tsl]) (oR 3 (c26 ps[i0.toNat]!) z0))))))) ?_
  exact⟨rfl,by kernel_rfl⟩
  refine sn<|dC (j9 <(↑ps[i0.toNat]!.vec.length:Int)∧j9 <(16:Int)) (fun h20=>?_) fun h20=>?_
  refine sK<|sn<|sq<|bL 3<|sq<|A5y (F:=fun kx=>⟨[(0,.sl (List.map c26 ps)),(2,.ptr (2) (0) (0) (0)),(3,.ptr (3) (0) (0) (0)),(4,.ptr (4) (0) (0) (0)),(5,.i .i64 (i0)),(6,.i .i64 (kx)),(28,.b (decide (kx <(↑ps[i0.toNat]!.vec.length:Int)∧kx <(16:Int))))],[(2,⟨0,144,.var [.nl,.nl,.nl,.nl,.nl,.nl,.nl,.nl,.nl,.nl,.nl,.nl,.nl,.nl,.nl,.nl]⟩),(3,⟨0,142,.var (F6 100300 16)⟩),(4,⟨0,142,.var (F6 100400 16)⟩)]++C4 100300 3 1 16 (c3) (A10)++C4 100400 3 1 16 (c3) (B11)⟩) (G:=fun kx=>⟨[(0,.sl (List.map c26 ps)),(2,.ptr (2) (0) (0) (0)),(3,.ptr (3) (0) (0) (0)),(4,.ptr (4) (0) (0) (0)),(5,.i .i64 (i0)),(6,.i .i64 (kx))],[(2,⟨0,144,.var [.nl,.nl,.nl,.nl,.nl,.nl,.nl,.nl,.nl,.nl,.nl,.nl,.nl,.nl,.nl,.nl]⟩),(3,⟨0,142,.var (F6 100300 16)⟩),(4,⟨0,142,.var (F6 100400 16)⟩)]++C4 100300 3 1 16 (c3) (K7 A10 kx.toNat (A10 kx.toNat++[(1:Int)]))++C4 100400 3 1 16 (c3) (B11)⟩) (A:=fun kx=>(0≤kx)∧(kx <(↑(16:Nat):Int))∧(3=(3:Nat))∧((1:Nat)=1)∧([AV.i .i64 (0:Int)].length=(1:Nat))∧(∀(r:List AV),r∈List.map c3 [(1:Int)]→r.length=1)∧((List.map c3 (A10 kx.toNat)).length+(List.map c3 [(1:Int)]).length≤maxLen)∧(((List.map c3 (A10 kx.toNat)).length+(List.map c3 [(1:Int)]).length)*(8:Nat)≤(140737488355328:Nat))∧(List.map c3 (A10 kx.toNat)++List.map c3 [(1:Int)]=List.map c3 (A10 kx.toNat++[(1:Int)]))∧(0≤kx)∧(kx <(↑(16:Nat):Int))) cx (fun kx=>[(5,{ rows:=some (List.map c3 (A10 kx.toNat++[(1:Int)])) })]) [0,2,3,4,5,6] ([2,3,4]++List.range' 100300 16++List.range' 100400 16) (j9) (by(with_reducible assumption)) (by omega) (by kernel_rfl) (by kernel_rfl) ⟨(by show _=_;kernel_rfl),(by show _=_;kernel_rfl),(by show _=_;kernel_rfl),(by show _=_;kernel_rfl),(by show _=_;kernel_rfl),(by show _=_;kernel_rfl),(by show _=_;kernel_rfl),(by show _=_;kernel_rfl),(by show _=_;kernel_rfl),(by show _=_;kernel_rfl),(by show _=_;kernel_rfl),(by show _=_;kernel_rfl),(by show _=_;kernel_rfl),(by show _=_;kernel_rfl),(by show _=_;kernel_rfl),(by show _=_;kernel_rfl)⟩ ⟨(by(with_reducible assumption)),(by omega),(by kernel_rfl),(by kernel_rfl),(by kernel_rfl),(by(with_reducible refine P4 (fun _=>?_) _;kernel_rfl)),?g2,?g3,(by(with_reducible refine V2 ?_;kernel_rfl)),(by(with_reducible assumption)),(by omega)⟩ ?_;rotate_left 2
  refine sn<|W6 (F:=fun kx=>⟨[(0,.sl (List.map c26 ps)),(2,.ptr (2) (0) (0) (0)),(3,.ptr (3) (0) (0) (0)),(4,.ptr (4) (0) (0) (0)),(5,.i .i64 (i0)),(6,.i .i64 (kx))],[(2,⟨0,144,.var [.nl,.nl,.nl,.nl,.nl,.nl,.nl,.nl,.nl,.nl,.nl,.nl,.nl,.nl,.nl,.nl]⟩),(3,⟨0,142,.var (F6 100300 16)⟩),(4,⟨0,142,.var (F6 100400 16)⟩)]++C4 100300 3 1 16 (c3) (K7 A10 kx.toNat (A10 kx.toNat++[(1:Int)]))++C4 100400 3 1 16 (c3) (B11)⟩) (G:=fun kx=>⟨[(0,.sl (List.map c26 ps)),(2,.ptr (2) (0) (0) (0)),(3,.ptr (3) (0) (0) (0)),(4,.ptr (4) (0) (0) (0)),(5,.i .i64 (i0)),(6,.i .i64 (kx))],[(2,⟨0,144,.var [.nl,.nl,.nl,.nl,.nl,.nl,.nl,.nl,.nl,.nl,.nl,.nl,.nl,.nl,.nl,.nl]⟩),(3,⟨0,142,.var (F6 100300 16)⟩),(4,⟨0,142,.var (F6 100400 16)⟩)]++C4 100300 3 1 16 (c3) (K7 A10 kx.toNat (A10 kx.toNat++[(1:Int)]))++C4 100400 3 1 16 (c3) (K7 B11 kx.toNat (B11 kx.toNat++[ps[i0.toNat]!.vec[kx.toNat]!]))⟩) (A:=fun kx=>(0≤kx)∧(kx <(↑(16:Nat):Int))∧(0≤i0)∧((List.map c26 ps)[i0.toNat]?=some (c26 ps[i0.toNat]!))∧((c26 ps[i0.toNat]!).length=(2:Nat))∧(0≤kx)∧((List.map c3 ps[i0.toNat]!.vec)[kx.toNat]?=some (c3 ps[i0.toNat]!.vec[kx.toNat]!))∧((c3 ps[i0.toNat]!.vec[kx.toNat]!).length=(1:Nat))∧(3=(3:Nat))∧((1:Nat)=1)∧([AV.i .i64 (0:Int)].length=(1:Nat))∧(∀(r:List AV),r∈List.map c3 [ps[i0.toNat]!.vec[kx.toNat]!]→r.length=1)∧((List.map c3 (B11 kx.toNat)).length+(List.map c3 [ps[i0.toNat]!.vec[kx.toNat]!]).length≤maxLen)∧(((List.map c3 (B11 kx.toNat)).length+(List.map c3 [ps[i0.toNat]!.vec[kx.toNat]!]).length)*(8:Nat)≤(140737488355328:Nat))∧(List.map c3 (B11 kx.toNat)++List.map c3 [ps[i0.toNat]!.vec[kx.toNat]!]=List.map c3 (B11 kx.toNat++[ps[i0.toNat]!.vec[kx.toNat]!]))∧(0≤kx)∧(kx <(↑(16:Nat):Int))) cx (fun kx=>[(6,{ row:=(c26 ps[i0.toNat]!) }),(10,{ row:=(c3 ps[i0.toNat]!.vec[kx.toNat]!) }),(13,{ rows:=some (List.map c3 (B11 kx.toNat++[ps[i0.toNat]!.vec[kx.toNat]!])) })]) [0,2,3,4,5,6] ([2,3,4]++List.range' 100300 16++List.range' 100400 16) (j9) (by(with_reducible assumption)) (by omega) (by kernel_rfl) (by kernel_rfl) ⟨(by show _=_;kernel_rfl),(by show _=_;kernel_rfl),(by show _=_;kernel_rfl),(by show _=_;kernel_rfl),(by show _=_;kernel_rfl),(by show _=_;kernel_rfl),(by show _=_;kernel_rfl),(by show _=_;kernel_rfl),(by show _=_;kernel_rfl),(by show _=_;kernel_rfl),(by show _=_;kernel_rfl),(by show _=_;kernel_rfl),(by show _=_;kernel_rfl),(by show _=_;kernel_rfl),(by show _=_;kernel_rfl),(by show _=_;kernel_rfl)⟩ ⟨(by(with_reducible assumption)),(by omega),(by(with_reducible assumption)),(by(with_reducible refine G5 ?_;omega)),(by kernel_rfl),(by(with_reducible assumption)),(by(with_reducible refine G5 ?_;omega)),(by kernel_rfl),(by kernel_rfl),(by kernel_rfl),(by kernel_rfl),(by(with_reducible refine P4 (fun _=>?_) _;kernel_rfl)),?g4,?g5,(by(with_reducible refine V2 ?_;kernel_rfl)),(by(with_reducible assumption)),(by omega)⟩ ?_;rotate_left 2
  refine bN<|sn<|rG cx [0,2,3,4,5,6] ([2,3,4]++List.range' 100300 16++List.range' 100400 16) (tW 1 (j9+1) z0)<|sn<|nX ((j9+1,K7 A10 j9.toNat (A10 j9.toNat++[(1:Int)]),K7 B11 j9.toNat (B11 j9.toNat++[ps[i0.toNat]!.vec[j9.toNat]!]))) (show((↑ps[i0.toNat]!.vec.length:Int)-(j9+1)).toNat <((↑ps[i0.toNat]!.vec.length:Int)-j9).toNat from(by omega)) (show B5u ps i0 (j9+1) (K7 A10 j9.toNat (A10 j9.toNat++[(1:Int)])) (K7 B11 j9.toNat (B11 j9.toNat++[ps[i0.toNat]!.vec[j9.toNat]!]))from ?g6);rotate_left
  refine eX 2<|nE<|nE<|bH<|sn<|sq<|rG cx [0,2,3,4,5,7] ([2,3,4]++List.range' 100300 16++List.range' 100400 16) z0<|sn<|bL 4<|sL (X:=Int×(Nat→List Int)×(Nat→List Int)) (fun x=>⟨[(0,.sl (List.map c26 ps)),(2,.ptr (2) (0) (0) (0)),(3,.ptr (3) (0) (0) (0)),(4,.ptr (4) (0) (0) (0)),(5,.i .i64 (i0)),(7,.i .i64 (x.1))],[(2,⟨0,144,.var [.nl,.nl,.nl,.nl,.nl,.nl,.nl,.nl,.nl,.nl,.nl,.nl,.nl,.nl,.nl,.nl]⟩),(3,⟨0,142,.var (F6 100300 16)⟩),(4,⟨0,142,.var (F6 100400 16)⟩)]++C4 100300 3 1 16 (c3) (x.2.1)++C4 100400 3 1 16 (c3) (x.2.2)⟩) (fun x ↦ decMc ps i0 x.1 x.2.1 x.2.2) (fun x ↦ B1x ps i0 x.1 x.2.1 x.2.2) [0,2,3,4,5,7] ([2,3,4]++List.range' 100300 16++List.range' 100400 16) (((0:Int),A10,B11)) (show B1x ps i0 (0:Int) A10 B11 from ?g7) ?_;rotate_left
  rintro⟨j21,A22,B23⟩ h_24
  obtain⟨h25,h26,h27,h28⟩:0≤j21∧j21≤(↑ps[i0.toNat]!.cloud.length:Int)∧A6m A22 B23∧N8 ps i0 j21 (zT A22 B23):=h_24
  refine sq<|rD cx [0,2,3,4,5,7,60] ([2,3,4]++List.range' 100300 16++List.range' 100400 16) (fA (0≤i0) (fG c26 ps i0.toNat (fR 2 (tL 6 B1 ps[i0.toNat]!.cloud (oR 3 (c26 ps[i0.toNat]!) (zB 7 (j21 <(↑ps[i0.toNat]!.cloud.length:Int)))))))) (fun h29=>?_) fun h29=>?_
  refine sK<|sn<|sq<|bL 5<|sq<|rG cx [0,2,3,4,5,7,8] ([2,3,4]++List.range' 100300 16++List.range' 100400 16++[8]) (fA (0≤i0) (fG c26 ps i0.toNat (fR 2 (fA (0≤j21) (fG B1 ps[i0.toNat]!.cloud j21.toNat (fR 3 (fN 3 3 (oR 2 (c26 ps[i0.toNat]!) (oR 6 (B1 ps[i0.toNat]!.cloud[j21.toNat]!) z0)))))))))<|sn<|sq<|A9 (σ':=⟨[(0,.sl (List.map c26 ps)),(2,.ptr (2) (0) (0) (0)),(3,.ptr (3) (0) (0) (0)),(4,.ptr (4) (0) (0) (0)),(5,.i .i64 (i0)),(7,.i .i64 (j21)),(8,.ptr (8) (0) (0) (0)),(78,.b (decide (0≤ps[i0.toNat]!.cloud[j21.toNat]!.rep∧ps[i0.toNat]!.cloud[j21.toNat]!.rep <(16:Int))))],[(2,⟨0,144,.var [.nl,.nl,.nl,.nl,.nl,.nl,.nl,.nl,.nl,.nl,.nl,.nl,.nl,.nl,.nl,.nl]⟩),(3,⟨0,142,.var (F6 100300 16)⟩),(4,⟨0,142,.var (F6 100400 16)⟩)]++C4 100300 3 1 16 (c3) (A22)++C4 100400 3 1 16 (c3) (B23)++[(8,⟨0,141,.var [.i .i64 (ps[i0.toNat]!.cloud[j21.toNat]!.rep),.i .i64 (ps[i0.toNat]!.cloud[j21.toNat]!.lo),.i .i64 (ps[i0.toNat]!.cloud[j21.toNat]!.hi)]⟩)]⟩) ?_ ?_
  refine A4 (0≤ps[i0.toNat]!.cloud[j21.toNat]!.rep) (fun h_31=>?_) (fun h_31=>?_)
  refine rG cx [0,2,3,4,5,7,8,78] ([2,3,4]++List.range' 100300 16++List.range' 100400 16++[8]) (tT 2 (A3 h_31) (tB 6 (ps[i0.toNat]!.cloud[j21.toNat]!.rep <(16:Int)) (tD 7 (decide (ps[i0.toNat]!.cloud[j21.toNat]!.rep <(16:Int))) (0≤ps[i0.toNat]!.cloud[j21.toNat]!.rep∧ps[i0.toNat]!.cloud[j21.toNat]!.rep <(16:Int)) (by simp only [eq_true h_31,tsl]) z0))) ?_
  exact⟨rfl,by kernel_rfl⟩
  refine rG cx [0,2,3,4,5,7,8,78] ([2,3,4]++List.range' 100300 16++List.range' 100400 16++[8]) (tT 2 (A0 h_31) (tD 7 false (0≤ps[i0.toNat]!.cloud[j21.toNat]!.rep∧ps[i0.toNat]!.cloud[j21.toNat]!.rep <(16:Int)) (by simp only [eq_false h_31,tsl]) z0)) ?_
  exact⟨rfl,by kernel_rfl⟩
  refine sn<|dC (0≤ps[i0.toNat]!.cloud[j21.toNat]!.rep∧ps[i0.toNat]!.cloud[j21.toNat]!.rep <(16:Int)) (fun h32=>?_) fun h32=>?_
  refine sq<|W6 (F:=fun kx=>⟨[(0,.sl (List.map c26 ps)),(2,.ptr (2) (0) (0) (0)),(3,.ptr (3) (0) (0) (0)),(4,.ptr (4) (0) (0) (0)),(5,.i .i64 (i0)),(7,.i .i64 (j21)),(8,.ptr (8) (0) (0) (0)),(78,.b (decide (0≤kx∧kx <(16:Int))))],[(2,⟨0,144,.var [.nl,.nl,.nl,.nl,.nl,.nl,.nl,.nl,.nl,.nl,.nl,.nl,.nl,.nl,.nl,.nl]⟩),(3,⟨0,142,.var (F6 100300 16)⟩),(4,⟨0,142,.var (F6 100400 16)⟩)]++C4 100300 3 1 16 (c3) (A22)++C4 100400 3 1 16 (c3) (B23)++[(8,⟨0,141,.var [.i .i64 (kx),.i .i64 (ps[i0.toNat]!.cloud[j21.toNat]!.lo),.i .i64 (ps[i0.toNat]!.cloud[j21.toNat]!.hi)]⟩)]⟩) (G:=fun kx=>⟨[(0,.sl (List.map c26 ps)),(2,.ptr (2) (0) (0) (0)),(3,.ptr (3) (0) (0) (0)),(4,.ptr (4) (0) (0) (0)),(5,.i .i64 (i0)),(7,.i .i64 (j21)),(8,.ptr (8) (0) (0) (0))],[(2,⟨0,144,.var [.nl,.nl,.nl,.nl,.nl,.nl,.nl,.nl,.nl,.nl,.nl,.nl,.nl,.nl,.nl,.nl]⟩),(3,⟨0,142,.var (F6 100300 16)⟩),(4,⟨0,142,.var (F6 100400 16)⟩)]++C4 100300 3 1 16 (c3) (K7 A22 kx.toNat (A22 kx.toNat++[ps[i0.toNat]!.cloud[j21.toNat]!.lo]))++C4 100400 3 1 16 (c3) (B23)++[(8,⟨0,141,.var [.i .i64 (kx),.i .i64 (ps[i0.toNat]!.cloud[j21.toNat]!.lo),.i .i64 (ps[i0.toNat]!.cloud[j21.toNat]!.hi)]⟩)]⟩) (A:=fun kx=>(0≤kx)∧(kx <(↑(16:Nat):Int))∧(3=(3:Nat))∧((1:Nat)=1)∧([AV.i .i64 (0:Int)].length=(1:Nat))∧(∀(r:List AV),r∈List.map c3 [ps[i0.toNat]!.cloud[j21.toNat]!.lo]→r.length=1)∧((List.map c3 (A22 kx.toNat)).length+(List.map c3 [ps[i0.toNat]!.cloud[j21.toNat]!.lo]).length≤maxLen)∧(((List.map c3 (A22 kx.toNat)).length+(List.map c3 [ps[i0.toNat]!.cloud[j21.toNat]!.lo]).length)*(8:Nat)≤(140737488355328:Nat))∧(List.map c3 (A22 kx.toNat)++List.map c3 [ps[i0.toNat]!.cloud[j21.toNat]!.lo]=List.map c3 (A22 kx.toNat++[ps[i0.toNat]!.cloud[j21.toNat]!.lo]))∧(0≤kx)∧(kx <(↑(16:Nat):Int))) cx (fun kx=>[(9,{ rows:=some (List.map c3 (A22 kx.toNat++[ps[i0.toNat]!.cloud[j21.toNat]!.lo])) })]) [0,2,3,4,5,7,8] ([2,3,4]++List.range' 100300 16++List.range' 100400 16++[8]) (ps[i0.toNat]!.cloud[j21.toNat]!.rep) (by omega) (by omega) (by kernel_rfl) (by kernel_rfl) ⟨(by show _=_;kernel_rfl),(by show _=_;kernel_rfl),(by show _=_;kernel_rfl),(by show _=_;kernel_rfl),(by show _=_;kernel_rfl),(by show _=_;kernel_rfl),(by show _=_;kernel_rfl),(by show _=_;kernel_rfl),(by show _=_;kernel_rfl),(by show _=_;kernel_rfl),(by show _=_;kernel_rfl),(by show _=_;kernel_rfl),(by show _=_;kernel_rfl),(by show _=_;kernel_rfl),(by show _=_;kernel_rfl),(by show _=_;kernel_rfl)⟩ ⟨(by omega),(by omega),(by kernel_rfl),(by kernel_rfl),(by kernel_rfl),(by(with_reducible refine P4 (fun _=>?_) _;kernel_rfl)),?g8,?g9,(by(with_reducible refine V2 ?_;kernel_rfl)),(by omega),(by omega)⟩ ?_;rotate_left 2
  refine sn<|W6 (F:=fun kx=>⟨[(0,.sl (List.map c26 ps)),(2,.ptr (2) (0) (0) (0)),(3,.ptr (3) (0) (0) (0)),(4,.ptr (4) (0) (0) (0)),(5,.i .i64 (i0)),(7,.i .i64 (j21)),(8,.ptr (8) (0) (0) (0))],[(2,⟨0,144,.var [.nl,.nl,.nl,.nl,.nl,.nl,.nl,.nl,.nl,.nl,.nl,.nl,.nl,.nl,.nl,.nl]⟩),(3,⟨0,142,.var (F6 100300 16)⟩),(4,⟨0,142,.var (F6 100400 16)⟩)]++C4 100300 3 1 16 (c3) (K7 A22 kx.toNat (A22 kx.toNat++[ps[i0.toNat]!.cloud[j21.toNat]!.lo]))++C4 100400 3 1 16 (c3) (B23)++[(8,⟨0,141,.var [.i .i64 (kx),.i .i64 (ps[i0.toNat]!.cloud[j21.toNat]!.lo),.i .i64 (ps[i0.toNat]!.cloud[j21.toNat]!.hi)]⟩)]⟩) (G:=fun kx=>⟨[(0,.sl (List.map c26 ps)),(2,.ptr (2) (0) (0) (0)),(3,.ptr (3) (0) (0) (0)),(4,.ptr (4) (0) (0) (0)),(5,.i .i64 (i0)),(7,.i .i64 (j21))],[(2,⟨0,144,.var [.nl,.nl,.nl,.nl,.nl,.nl,.nl,.nl,.nl,.nl,.nl,.nl,.nl,.nl,.nl,.nl]⟩),(3,⟨0,142,.var (F6 100300 16)⟩),(4,⟨0,142,.var (F6 100400 16)⟩)]++C4 100300 3 1 16 (c3) (K7 A22 kx.toNat (A22 kx.toNat++[ps[i0.toNat]!.cloud[j21.toNat]!.lo]))++C4 100400 3 1 16 (c3) (K7 B23 kx.toNat (B23 kx.toNat++[ps[i0.toNat]!.cloud[j21.toNat]!.hi]))⟩) (A:=fun kx=>(0≤kx)∧(kx <(↑(16:Nat):Int))∧(3=(3:Nat))∧((1:Nat)=1)∧([AV.i .i64 (0:Int)].length=(1:Nat))∧(∀(r:List AV),r∈List.map c3 [ps[i0.toNat]!.cloud[j21.toNat]!.hi]→r.length=1)∧((List.map c3 (B23 kx.toNat)).length+(List.map c3 [ps[i0.toNat]!.cloud[j21.toNat]!.hi]).length≤maxLen)∧(((List.map c3 (B23 kx.toNat)).length+(List.map c3 [ps[i0.toNat]!.cloud[j21.toNat]!.hi]).length)*(8:Nat)≤(140737488355328:Nat))∧(List.map c3 (B23 kx.toNat)++List.map c3 [ps[i0.toNat]!.cloud[j21.toNat]!.hi]=List.map c3 (B23 kx.toNat++[ps[i0.toNat]!.cloud[j21.toNat]!.hi]))∧(0≤kx)∧(kx <(↑(16:Nat):Int))) cx (fun kx=>[(9,{ rows:=some (List.map c3 (B23 kx.toNat++[ps[i0.toNat]!.cloud[j21.toNat]!.hi])) })]) [0,2,3,4,5,7] ([2,3,4]++List.range' 100300 16++List.range' 100400 16) (ps[i0.toNat]!.cloud[j21.toNat]!.rep) (by omega) (by omega) (by kernel_rfl) (by kernel_rfl) ⟨(by show _=_;kernel_rfl),(by show _=_;kernel_rfl),(by show _=_;kernel_rfl),(by show _=_;kernel_rfl),(by show _=_;kernel_rfl),(by show _=_;kernel_rfl),(by show _=_;kernel_rfl),(by show _=_;kernel_rfl),(by show _=_;kernel_rfl),(by show _=_;kernel_rfl),(by show _=_;kernel_rfl),(by show _=_;kernel_rfl),(by show _=_;kernel_rfl),(by show _=_;kernel_rfl),(by show _=_;kernel_rfl),(by show _=_;kernel_rfl)⟩ ⟨(by omega),(by omega),(by kernel_rfl),(by kernel_rfl),(by kernel_rfl),(by(with_reducible refine P4 (fun _=>?_) _;kernel_rfl)),?g10,?g11,(by(with_reducible refine V2 ?_;kernel_rfl)),(by omega),(by omega)⟩ ?_;rotate_left 2
  refine bN<|sn<|rG cx [0,2,3,4,5,7] ([2,3,4]++List.range' 100300 16++List.range' 100400 16) (tT 1 (B6 (by omega) ?g12:AV.i .i64 (IntKind.i64.wrap (j21+1))=AV.i .i64 (j21+1)) z0) ?_;rotate_left
  refine sn<|nX ((j21+1,K7 A22 ps[i0.toNat]!.cloud[j21.toNat]!.rep.toNat (A22 ps[i0.toNat]!.cloud[j21.toNat]!.rep.toNat++[ps[i0.toNat]!.cloud[j21.toNat]!.lo]),K7 B23 ps[i0.toNat]!.cloud[j21.toNat]!.rep.toNat (B23 ps[i0.toNat]!.cloud[j21.toNat]!.rep.toNat++[ps[i0.toNat]!.cloud[j21.toNat]!.hi]))) (show((↑ps[i0.toNat]!.cloud.length:Int)-(j21+1)).toNat <((↑ps[i0.toNat]!.cloud.length:Int)-j21).toNat from(by omega)) (show B1x ps i0 (j21+1) (K7 A22 ps[i0.toNat]!.cloud[j21.toNat]!.rep.toNat (A22 ps[i0.toNat]!.cloud[j21.toNat]!.rep.toNat++[ps[i0.toNat]!.cloud[j21.toNat]!.lo])) (K7 B23 ps[i0.toNat]!.cloud[j21.toNat]!.rep.toNat (B23 ps[i0.toNat]!.cloud[j21.toNat]!.rep.toNat++[ps[i0.toNat]!.cloud[j21.toNat]!.hi]))from ?g13);rotate_left
  refine sK<|bN<|sn<|rG cx [0,2,3,4,5,7] ([2,3,4]++List.range' 100300 16++List.range' 100400 16) (tT 1 (B6 (by omega) ?g14:AV.i .i64 (IntKind.i64.wrap (j21+1))=AV.i .i64 (j21+1)) z0) ?_;rotate_left
  refine sn<|nX ((j21+1,A22,B23)) (show((↑ps[i0.toNat]!.cloud.length:Int)-(j21+1)).toNat <((↑ps[i0.toNat]!.cloud.length:Int)-j21).toNat from(by omega)) (show B1x ps i0 (j21+1) A22 B23 from ?g15);rotate_left
  refine eX 4<|nE<|nE<|bH<|bN<|sn<|rG cx [0,2,3,4,5] ([2,3,4]++List.range' 100300 16++List.range' 100400 16) (tW 1 (i0+1) z0)<|sn<|nX ((i0+1,A22,B23)) (show((↑ps.length:Int)-(i0+1)).toNat <((↑ps.length:Int)-i0).toNat from(by omega)) (show B5t ps (i0+1) A22 B23 from ?g16);rotate_left
  refine eX 0<|nE<|nE<|bH<|sn<|sq<|H6 (List.range' 100300 16) [0,2,3,4,5,14] ([2,3,4]++List.range' 100400 16) (σ':=⟨[(0,.sl (List.map c26 ps)),(2,.ptr (2) (0) (0) (0)),(3,.ptr (3) (0) (0) (0)),(4,.ptr (4) (0) (0) (0)),(5,.i .i64 (i0)),(14,.b (decide (i0 <(↑ps.length:Int))))],[(2,⟨0,144,.var [.nl,.nl,.nl,.nl,.nl,.nl,.nl,.nl,.nl,.nl,.nl,.nl,.nl,.nl,.nl,.nl]⟩),(3,⟨0,142,.var [.sl (List.map c3 (A1 (0))),.sl (List.map c3 (A1 (1))),.sl (List.map c3 (A1 (2))),.sl (List.map c3 (A1 (3))),.sl (List.map c3 (A1 (4))),.sl (List.map c3 (A1 (5))),.sl (List.map c3 (A1 (6))),.sl (List.map c3 (A1 (7))),.sl (List.map c3 (A1 (8))),.sl (List.map c3 (A1 (9))),.sl (List.map c3 (A1 (10))),.sl (List.map c3 (A1 (11))),.sl (List.map c3 (A1 (12))),.sl (List.map c3 (A1 (13))),.sl (List.map c3 (A1 (14))),.sl (List.map c3 (A1 (15)))]⟩),(4,⟨0,142,.var (F6 100400 16)⟩)]++C4 100400 3 1 16 (c3) (B2)⟩) (by kernel_rfl)<|H3 3 ⟨0,142,.var [.sl (List.map c3 (A1 (0))),.sl (List.map c3 (A1 (1))),.sl (List.map c3 (A1 (2))),.sl (List.map c3 (A1 (3))),.sl (List.map c3 (A1 (4))),.sl (List.map c3 (A1 (5))),.sl (List.map c3 (A1 (6))),.sl (List.map c3 (A1 (7))),.sl (List.map c3 (A1 (8))),.sl (List.map c3 (A1 (9))),.sl (List.map c3 (A1 (10))),.sl (List.map c3 (A1 (11))),.sl (List.map c3 (A1 (12))),.sl (List.map c3 (A1 (13))),.sl (List.map c3 (A1 (14))),.sl (List.map c3 (A1 (15)))]⟩ [.sl (List.map c3 (A1 (0))),.sl (List.map c3 (A1 (1))),.sl (List.map c3 (A1 (2))),.sl (List.map c3 (A1 (3))),.sl (List.map c3 (A1 (4))),.sl (List.map c3 (A1 (5))),.sl (List.map c3 (A1 (6))),.sl (List.map c3 (A1 (7))),.sl (List.map c3 (A1 (8))),.sl (List.map c3 (A1 (9))),.sl (List.map c3 (A1 (10))),.sl (List.map c3 (A1 (11))),.sl (List.map c3 (A1 (12))),.sl (List.map c3 (A1 (13))),.sl (List.map c3 (A1 (14))),.sl (List.map c3 (A1 (15)))] (E9 c3 16 A1) (σ':=⟨[(0,.sl (List.map c26 ps)),(2,.ptr (2) (0) (0) (0)),(3,.ptr (3) (0) (0) (0)),(4,.ptr (4) (0) (0) (0)),(5,.i .i64 (i0)),(14,.b (decide (i0 <(↑ps.length:Int))))],[(2,⟨0,144,.var [.nl,.nl,.nl,.nl,.nl,.nl,.nl,.nl,.nl,.nl,.nl,.nl,.nl,.nl,.nl,.nl]⟩),(3,⟨0,142,.arr (E9 c3 16 A1)⟩),(4,⟨0,142,.var (F6 100400 16)⟩)]++C4 100400 3 1 16 (c3) (B2)⟩) (by kernel_rfl) (by kernel_rfl) (by kernel_rfl) (by kernel_rfl) (ZLe.of_eq (by kernel_rfl)) (by kernel_rfl)<|H6 (List.range' 100400 16) [0,2,3,4,5,14] [2,3,4] (σ':=⟨[(0,.sl (List.map c26 ps)),(2,.ptr (2) (0) (0) (0)),(3,.ptr (3) (0) (0) (0)),(4,.ptr (4) (0) (0) (0)),(5,.i .i64 (i0)),(14,.b (decide (i0 <(↑ps.length:Int))))],[(2,⟨0,144,.var [.nl,.nl,.nl,.nl,.nl,.nl,.nl,.nl,.nl,.nl,.nl,.nl,.nl,.nl,.nl,.nl]⟩),(3,⟨0,142,.arr (E9 c3 16 A1)⟩),(4,⟨0,142,.var [.sl (List.map c3 (B2 (0))),.sl (List.map c3 (B2 (1))),.sl (List.map c3 (B2 (2))),.sl (List.map c3 (B2 (3))),.sl (List.map c3 (B2 (4))),.sl (List.map c3 (B2 (5))),.sl (List.map c3 (B2 (6))),.sl (List.map c3 (B2 (7))),.sl (List.map c3 (B2 (8))),.sl (List.map c3 (B2 (9))),.sl (List.map c3 (B2 (10))),.sl (List.map c3 (B2 (11))),.sl (List.map c3 (B2 (12))),.sl (List.map c3 (B2 (13))),.sl (List.map c3 (B2 (14))),.sl (List.map c3 (B2 (15)))]⟩)]⟩) (by kernel_rfl) ?_
  refine H3 4 ⟨0,142,.var [.sl (List.map c3 (B2 (0))),.sl (List.map c3 (B2 (1))),.sl (List.map c3 (B2 (2))),.sl (List.map c3 (B2 (3))),.sl (List.map c3 (B2 (4))),.sl (List.map c3 (B2 (5))),.sl (List.map c3 (B2 (6))),.sl (List.map c3 (B2 (7))),.sl (List.map c3 (B2 (8))),.sl (List.map c3 (B2 (9))),.sl (List.map c3 (B2 (10))),.sl (List.map c3 (B2 (11))),.sl (List.map c3 (B2 (12))),.sl (List.map c3 (B2 (13))),.sl (List.map c3 (B2 (14))),.sl (List.map c3 (B2 (15)))]⟩ [.sl (List.map c3 (B2 (0))),.sl (List.map c3 (B2 (1))),.sl (List.map c3 (B2 (2))),.sl (List.map c3 (B2 (3))),.sl (List.map c3 (B2 (4))),.sl (List.map c3 (B2 (5))),.sl (List.map c3 (B2 (6))),.sl (List.map c3 (B2 (7))),.sl (List.map c3 (B2 (8))),.sl (List.map c3 (B2 (9))),.sl (List.map c3 (B2 (10))),.sl (List.map c3 (B2 (11))),.sl (List.map c3 (B2 (12))),.sl (List.map c3 (B2 (13))),.sl (List.map c3 (B2 (14))),.sl (List.map c3 (B2 (15)))] (E9 c3 16 B2) (σ':=⟨[(0,.sl (List.map c26 ps)),(2,.ptr (2) (0) (0) (0)),(3,.ptr (3) (0) (0) (0)),(4,.ptr (4) (0) (0) (0)),(5,.i .i64 (i0)),(14,.b (decide (i0 <(↑ps.length:Int))))],[(2,⟨0,144,.var [.nl,.nl,.nl,.nl,.nl,.nl,.nl,.nl,.nl,.nl,.nl,.nl,.nl,.nl,.nl,.nl]⟩),(3,⟨0,142,.arr (E9 c3 16 A1)⟩),(4,⟨0,142,.arr (E9 c3 16 B2)⟩)]⟩) (by kernel_rfl) (by kernel_rfl) (by kernel_rfl) (by kernel_rfl) (ZLe.of_eq (by kernel_rfl)) (by kernel_rfl)<|rG cx [2,3,4,9] [2,3,4,9] z0<|sn<|sq<|sq<|rG cx [2,3,4,9,10] [2,3,4,9] z0<|sn<|bL 6<|H3 9 ⟨0,144,.var [.nl,.nl,.nl,.nl,.nl,.nl,.nl,.nl,.nl,.nl,.nl,.nl,.nl,.nl,.nl,.nl]⟩ [.nl,.nl,.nl,.nl,.nl,.nl,.nl,.nl,.nl,.nl,.nl,.nl,.nl,.nl,.nl,.nl] (E9 c3 16 fun x ↦ []) (σ':=⟨[(2,.ptr (2) (0) (0) (0)),(3,.ptr (3) (0) (0) (0)),(4,.ptr (4) (0) (0) (0)),(9,.ptr (9) (0) (0) (0)),(10,.i .i64 ((0:Int)))],[(2,⟨0,144,.var [.nl,.nl,.nl,.nl,.nl,.nl,.nl,.nl,.nl,.nl,.nl,.nl,.nl,.nl,.nl,.nl]⟩),(3,⟨0,142,.arr (E9 c3 16 A1)⟩),(4,⟨0,142,.arr (E9 c3 16 B2)⟩),(9,⟨0,144,.arr (E9 c3 16 fun x ↦ [])⟩)]⟩) (by kernel_rfl) (by kernel_rfl) (by kernel_rfl) (by kernel_rfl) (Ap2 c3 16) (by kernel_rfl)<|sL (X:=Int×(Nat→List Int)×(Nat→List Int)×(Nat→List Int)) (fun x=>⟨[(2,.ptr (2) (0) (0) (0)),(3,.ptr (3) (0) (0) (0)),(4,.ptr (4) (0) (0) (0)),(9,.ptr (9) (0) (0) (0)),(10,.i .i64 (x.1))],[(2,⟨0,144,.var [.nl,.nl,.nl,.nl,.nl,.nl,.nl,.nl,.nl,.nl,.nl,.nl,.nl,.nl,.nl,.nl]⟩),(3,⟨0,142,.arr (E9 c3 16 x.2.1)⟩),(4,⟨0,142,.arr (E9 c3 16 x.2.2.1)⟩),(9,⟨0,144,.arr (E9 c3 16 x.2.2.2)⟩)]⟩) (fun x ↦ decMd x.1 x.2.1 x.2.2.1 x.2.2.2) (fun x ↦ B5v A1 B2 x.1 x.2.1 x.2.2.1 x.2.2.2) [2,3,4,9,10] [2,3,4,9] (((0:Int),A1,B2,fun x ↦ [])) (show B5v A1 B2 (0:Int) A1 B2 fun x ↦ []from ?g17) ?_;rotate_left
  rintro⟨r33,A34,B35,S36⟩ h_37
  obtain⟨h38,h39,h40,h41,h42⟩:A34=A1∧B35=B2∧0≤r33∧r33≤16∧Ag7 (zT A1 B2) r33 S36:=h_37
  refine sq<|rD cx [2,3,4,9,10,102] [2,3,4,9] (zB 1 (r33 <(16:Int))) (fun h43=>?_) fun h43=>?_
  refine sK<|sn<|sq<|bL 7 ?_
  have hl_44:=(A19 (A41 (A34 r33.toNat) (B35 r33.toNat)))
  refine rA cx [2,3,4,9,10] [2,3,4,9] (fA (0≤r33) (fO (r33 <(↑(16:Nat):Int)) (fP ((E9 c3 16 A34)[r33.toNat*(1:Nat)+0]?=some (AV.sl (List.map c3 (A34 r33.toNat)))) (by((try simp only [Nat.mul_one,Nat.add_zero,Nat.zero_add]);with_reducible refine E8 ?_;omega)) (fA (0≤r33) (fO (r33 <(↑(16:Nat):Int)) (fP ((E9 c3 16 B35)[r33.toNat*(1:Nat)+0]?=some (AV.sl (List.map c3 (B35 r33.toNat)))) (by((try simp only [Nat.mul_one,Nat.add_zero,Nat.zero_add]);with_reducible refine E8 ?_;omega)) (fT (con206 (A34 r33.toNat) (B35 r33.toNat) ?g18 ?g19) (fA (0≤r33) (fO (r33 <(↑(16:Nat):Int)) (fP (r33.toNat*(1:Nat)+0 <(E9 c3 16 S36).length) ?g20 (fR [(E0 (AV.sl (List.map c3 (D4 (nrm (A41 (A34 r33.toNat) (B35 r33.toNat))))))).headD AV.dead] (fP ((E9 c3 16 S36).set (r33.toNat*(1:Nat)+0) ((E0 (AV.sl (List.map c3 (D4 (nrm (A41 (A34 r33.toNat) (B35 r33.toNat))))))).headD AV.dead)=E9 c3 16 (K7 S36 r33.toNat (D4 (nrm (A41 (A34 r33.toNat) (B35 r33.toNat)))))) (by((try simp only [Nat.mul_one,Nat.add_zero,Nat.zero_add]);(with_reducible refine A7v ?_);exact Eq.refl _)) (oR 3 [.sl (List.map c3 (A34 r33.toNat))] (oR 6 [.sl (List.map c3 (B35 r33.toNat))] (oA 7 (.sl (List.map c3 (D4 (nrm (A41 (A34 r33.toNat) (B35 r33.toNat)))))) (oV 10 { rows:=some [(E9 c3 16 (K7 S36 r33.toNat (D4 (nrm (A41 (A34 r33.toNat) (B35 r33.toNat))))))] } z0)))))))))))))))) ?_;rotate_left 3
  refine bN<|sn<|rG cx [2,3,4,9,10] [2,3,4,9] (tW 1 (r33+1) z0)<|sn<|nX ((r33+1,A34,B35,K7 S36 r33.toNat (D4 (nrm (A41 (A34 r33.toNat) (B35 r33.toNat)))))) (show(16-(r33+1)).toNat <(16-r33).toNat from(by omega)) (show B5v A1 B2 (r33+1) A34 B35 (K7 S36 r33.toNat (D4 (nrm (A41 (A34 r33.toNat) (B35 r33.toNat)))))from ?g21);rotate_left
  refine eX 6<|nE<|nE<|bH<|sn<|sq<|rG cx [2] [2] (fR 16 z0)<|sn<|rT<|qR (.agg [.sl (List.map c3 (S36 (0))),.sl (List.map c3 (S36 (1))),.sl (List.map c3 (S36 (2))),.sl (List.map c3 (S36 (3))),.sl (List.map c3 (S36 (4))),.sl (List.map c3 (S36 (5))),.sl (List.map c3 (S36 (6))),.sl (List.map c3 (S36 (7))),.sl (List.map c3 (S36 (8))),.sl (List.map c3 (S36 (9))),.sl (List.map c3 (S36 (10))),.sl (List.map c3 (S36 (11))),.sl (List.map c3 (S36 (12))),.sl (List.map c3 (S36 (13))),.sl (List.map c3 (S36 (14))),.sl (List.map c3 (S36 (15)))]) (.eq ?g22);rotate_left
  rotate_left
  revert i0 A1 B2 hh4 hh5 h6 h7 h8;rotate_left
  revert i0 A1 B2 hh4 hh5 h6 h7 h8 j9 A10 B11 h13 h14 h15 h16 h17 h20;rotate_left
  revert i0 A1 B2 hh4 hh5 h6 h7 h8 j9 A10 B11 h13 h14 h15 h16 h17 h20;rotate_left
  revert i0 A1 B2 hh4 hh5 h6 h7 h8 j9 A10 B11 h13 h14 h15 h16 h17 h20;rotate_left
  revert i0 A1 B2 hh4 hh5 h6 h7 h8 j9 A10 B11 h13 h14 h15 h16 h17 h20;rotate_left
  revert i0 A1 B2 hh4 hh5 h6 h7 h8 j9 A10 B11 h13 h14 h15 h16 h17 h20;rotate_left
  revert i0 A1 B2 hh4 hh5 h6 h7 h8 j9 A10 B11 h13 h14 h15 h16 h17 h20;rotate_left
  revert i0 A1 B2 hh4 hh5 h6 h7 h8 j9 A10 B11 h13 h14 h15 h16 h17 h20 j21 A22 B23 h25 h26 h27 h28 h29 h32;rotate_left
  revert i0 A1 B2 hh4 hh5 h6 h7 h8 j9 A10 B11 h13 h14 h15 h16 h17 h20 j21 A22 B23 h25 h26 h27 h28 h29 h32;rotate_left
  revert i0 A1 B2 hh4 hh5 h6 h7 h8 j9 A10 B11 h13 h14 h15 h16 h17 h20 j21 A22 B23 h25 h26 h27 h28 h29 h32;rotate_left
  revert i0 A1 B2 hh4 hh5 h6 h7 h8 j9 A10 B11 h13 h14 h15 h16 h17 h20 j21 A22 B23 h25 h26 h27 h28 h29 h32;rotate_left
  revert i0 A1 B2 hh4 hh5 h6 h7 h8 j9 A10 B11 h13 h14 h15 h16 h17 h20 j21 A22 B23 h25 h26 h27 h28 h29 h32;rotate_left
  revert i0 A1 B2 hh4 hh5 h6 h7 h8 j9 A10 B11 h13 h14 h15 h16 h17 h20 j21 A22 B23 h25 h26 h27 h28 h29 h32;rotate_left
  revert i0 A1 B2 hh4 hh5 h6 h7 h8 j9 A10 B11 h13 h14 h15 h16 h17 h20 j21 A22 B23 h25 h26 h27 h28 h29 h32;rotate_left
  revert i0 A1 B2 hh4 hh5 h6 h7 h8 j9 A10 B11 h13 h14 h15 h16 h17 h20 j21 A22 B23 h25 h26 h27 h28 h29 h32;rotate_left
  revert i0 A1 B2 hh4 hh5 h6 h7 h8 j9 A10 B11 h13 h14 h15 h16 h17 h20 j21 A22 B23 h25 h26 h27 h28 h29;rotate_left
  revert i0 A1 B2 hh4 hh5 h6 h7 h8;rotate_left
  clear hl_44;revert i0 A1 B2 hh4 hh5 h6 h7 h8 r33 A34 B35 S36 h38 h39 h40 h41 h42 h43;rotate_left
  clear hl_44;revert i0 A1 B2 hh4 hh5 h6 h7 h8 r33 A34 B35 S36 h38 h39 h40 h41 h42 h43;rotate_left
  clear hl_44;revert i0 A1 B2 hh4 hh5 h6 h7 h8 r33 A34 B35 S36 h38 h39 h40 h41 h42 h43;rotate_left
  clear hl_44;revert i0 A1 B2 hh4 hh5 h6 h7 h8 r33 A34 B35 S36 h38 h39 h40 h41 h42 h43;rotate_left
  revert i0 A1 B2 hh4 hh5 h6 h7 h8 r33 A34 B35 S36 h38 h39 h40 h41 h42 h43;rotate_left
  case g0=>exact⟨by omega,by omega,fun r _=>rfl,fun r _=>rfl⟩
  case g1=>intro i A B h0 h1 h3 h4 h5;exact⟨by omega,by omega,by omega,h3,A2w h4⟩
  case g6 =>
    intro i A B h0 h1 h3 h4 h5 j X Y k0 k1 k2 k4 k5 k6
    exact⟨by omega,by omega,by omega,A8f k4,fun r hr=>by rw[B3q (k4 _ (by omega))];exact A4u k0 k6.1 k5 r hr⟩
  case g7=>intro i A B h0 h1 h3 h4 h5 j X Y k0 k1 k2 k4 k5 k6;exact⟨by omega,by omega,k4,A2x (by omega) (by omega) k5⟩
  case g13 =>
    intro i A B h0 h1 h3 h4 h5 j X Y k0 k1 k2 k4 k5 k6 l V W m0 m1 m3 m4 m5 m6
    exact⟨by omega,by omega,A8f m3,fun r hr=>by rw[B3q (m3 _ (by omega))];exact Ae9 m0 m5 m6 m4 r hr⟩
  case g15=>intro i A B h0 h1 h3 h4 h5 j X Y k0 k1 k2 k4 k5 k6 l V W m0 m1 m3 m4 m5 m6;exact⟨by omega,by omega,m3,A81 m0 m5 m6 m4⟩
  case g16=>intro i A B h0 h1 h3 h4 h5 j X Y k0 k1 k2 k4 k5 k6 l V W m0 m1 m3 m4 m5;exact⟨by omega,by omega,m3,A82 h0 h5 m5 m4⟩
  case g17=>intro i A B h0 h1 h3 h4 h5;exact⟨rfl,rfl,by omega,by omega,fun k hk=>by omega⟩
  case g18=>intro i A B h0 h1 h3 h4 h5 r X Y S k0 k1 k2 k3 k4 k5;subst k0 k1;exact h3 _ (by omega)
  case g19 =>
    intro i A B h0 h1 h3 h4 h5 r X Y S k0 k1 k2 k3 k4 k5
    subst k0 k1
    have:=At6 h3 (r:=r.toNat) (by omega)
    have:=Q5 r.toNat (ps.take i.toNat)
    rw[h4 _ (by omega)]at *
    rw[List.take_of_length_le (by omega)]at *
    omega
  case g20=>intro i A B h0 h1 h3 h4 h5 r X Y S k0 k1 k2 k3 k4 k5;rw[S8];omega
  case g21=>intro i A B h0 h1 h3 h4 h5 r X Y S k0 k1 k2 k3 k4 k5;subst k0 k1;exact⟨rfl,rfl,by omega,by omega,Aa5 k2 k4⟩
  case g22 =>
    intro i A B h0 h1 h3 h4 h5 r X Y S k0 k1 k2 k3 k4 k5
    congr 1
    show E9 c3 16 S=E9 c3 16 _
    unfold E9
    refine List.map_congr_left fun q hq=>?_
    have hq:q < 16:=by simpa using hq
    rw[k4 q (by omega)]
    unfold tnS B9
    rw[h4 q hq,List.take_of_length_le (by omega)]
  all_goals
    intro i A B h0 h1 h3 h4 h5 j X Y k0 k1 k2 k4 k5 k6
    first
    | (have l1 := A2y h0 h5 k5 (r := j.toNat) (by omega) (by omega)
       have l2:=At6 k4 (r:=j.toNat) (by omega)
       simp only [List.length_map,List.length_cons,List.length_nil,Go.maxLen]
       omega)
    | (intro l V W m0 m1 m3 m4 m5 m6
       have l0:=Q6 h0 h5 m0 m5 m4 (r:=0) (by omega)
       first
       | omega
       | (have l1 := Q6 h0 h5 m0 m5 m4 (r := ((ps[i.toNat]!).cloud[l.toNat]!).rep.toNat) (by omega)
          have l2:=At6 m3 (r:=((ps[i.toNat]!).cloud[l.toNat]!).rep.toNat) (by omega)
          simp only [List.length_map,List.length_cons,List.length_nil,Go.maxLen]
          omega))
end Go.Proofs.YtphcaholhacnpaaGreat
namespace Go.Proofs.YtphcaholhacnpaaGreat
open Go.E
set_option maxRecDepth 100000
set_option maxHeartbeats 4000000
def B5w(U:Nat→List Run)(n r:Int)(S:Nat→List Int)(v:List Int)(c:List Span):Prop:=S=tnS U∧0≤r∧r≤16∧0≤n∧n≤r∧v.length=16∧Aq4 U r n∧Z1 U r v∧J5 U r c
def decFa(n r:Int)(S:Nat→List Int)(v:List Int)(c:List Span):Nat:=(16-r).toNat
def Ak5(U:Nat→List Run)(r n0:Int)(v0:List Int)(c0:List Span)(k n:Int)(v:List Int)(c:List Span):Prop :=
 n=(if 0 <(B8 ((U r.toNat).take (k / 2).toNat)).1 then r+1 else n0)∧v=v0.set r.toNat (B8 ((U r.toNat).take (k / 2).toNat)).1∧c=c0++(B8 ((U r.toNat).take (k / 2).toNat)).2.map fun x=>(⟨r,x.lo,x.hi⟩:Span)
def B1y(U:Nat→List Run)(r n0:Int)(v0:List Int)(c0:List Span)(n k:Int)(S:Nat→List Int)(v:List Int)(c:List Span):Prop:=S=tnS U∧0≤k∧k≤2*(U r.toNat).length∧2*(k / 2)=k∧v.length=16∧0≤n∧n≤r+1∧Ak5 U r n0 v0 c0 k n v c
def decFb(U:Nat→List Run)(r:Int)(n k:Int)(S:Nat→List Int)(v:List Int)(c:List Span):Nat:=(2*(U r.toNat).length-k).toNat
theorem A0s(l:List Run):(D4 l).length=2*l.length:=by
 induction l with
 | nil=>rfl
 | cons r l ih =>
  have:D4 (r :: l)=r.lo ::(r.hi+1) :: D4 l:=rfl
  rw[this];simp only [List.length_cons,ih];omega
theorem A6n:∀ {l:List Run} {j:Nat},j < l.length→(D4 l)[2*j]! = l[j]!.lo∧(D4 l)[2*j+1]! = l[j]!.hi+1
 | r :: l,0,_=>⟨rfl,rfl⟩
 | r :: l,j+1,h=>by
  have e:D4 (r :: l)=r.lo ::(r.hi+1) :: D4 l:=rfl
  have ih:=A6n (l:=l) (j:=j) (by simpa using h)
  rw[e,show 2*(j+1)=2*j+1+1 by omega]
  simpa using ih
theorem B1z{x:Run}(h:x.lo=1):B8 [x]=(x.hi,[]):=by
 unfold B8
 rw[if_neg]
 ·rfl
 ·rintro(k | k)
  ·cases k
  ·exact k h
theorem At7{P:List Run}{x:Run}(h:P=[]→¬ x.lo=1):B8 (P++[x])=((B8 P).1,(B8 P).2++[x]):=by
 cases P with
 | nil =>
  show B8 [x]=_
  unfold B8
  rw[if_pos (.inr (h rfl)),if_pos (.inl rfl)]
  rfl
 | cons y P =>
  unfold B8
  by_cases hy:y.lo=1
  ·rw[if_neg,if_neg]
   ·simp
   ·simpa using hy
   ·simpa using hy
  ·rw[if_pos,if_pos]
   ·simpa using hy
   ·simpa using hy
theorem B20(P:List Run):(B8 P).2.length≤P.length:=by
 unfold B8
 split
 ·exact Nat.le_refl _
 ·simp
theorem Ak6{U:Nat→List Run}{r n0:Int}{v0:List Int}{c0:List Span}(h0:0≤r)(h1:r < 16)(hv:Z1 U r v0):Ak5 U r n0 v0 c0 0 n0 v0 c0:=by
 unfold Ak5
 refine⟨?_,?_,?_⟩
 ·show n0=if(0:Int) <(B8 []).1 then _ else _
  rw[A0g,if_neg (by omega)]
 ·show v0=v0.set r.toNat (B8 []).1
  rw[A0g]
  unfold Z1 A4o at hv
  have e:16-r.toNat=(15-r.toNat)+1:=by omega
  rw[hv,List.set_append_right _ _ (by simp),List.length_map,List.length_range,Nat.sub_self,e,List.replicate_succ,List.set_cons_zero]
 ·show c0=c0++List.map _ (B8 []).2
  rw[A0g];simp
theorem At8{l:List Run}{k:Int}(h0:0≤k)(he:2*(k / 2)=k)(hk:k+1 < 2*l.length):l.take ((k+2) / 2).toNat=l.take (k / 2).toNat++[l[(k / 2).toNat]!]:=by
 have:=D6 (a:=l) (i:=k / 2) (by omega) (by omega)
 rw[show((k+2) / 2).toNat=(k / 2+1).toNat by omega,this]
theorem B21{U:Nat→List Run}{r n0 n k:Int}{v0 v:List Int}{c0 c:List Span}(hU:L3 (U r.toNat))(h0:0≤k)(he:2*(k / 2)=k)(hk:k+1 < 2*(U r.toNat).length)(hlo:(U r.toNat)[(k / 2).toNat]!.lo=1)(h:Ak5 U r n0 v0 c0 k n v c) :
  Ak5 U r n0 v0 c0 (k+2) (r+1) (v.set r.toNat (U r.toNat)[(k / 2).toNat]!.hi) c:=by
 have h1:=A9s hU (k / 2).toNat (by omega)
 have h2:=hU.2 _ (G6 (l:=U r.toNat) (i:=(k / 2).toNat) (by omega))
 have hz:k=0:=by omega
 subst hz
 unfold Ak5 at *
 rw[At8 h0 he hk]
 obtain⟨a1,a2,a3⟩:=h
 have e:(U r.toNat).take ((0:Int) / 2).toNat=[]:=by simp
 rw[e]at a1 a2 a3 ⊢
 rw[List.nil_append,B1z hlo]
 rw[A0g]at a2 a3
 refine⟨?_,?_,?_⟩
 ·rw[if_pos (show(0:Int) <(U r.toNat)[((0:Int) / 2).toNat]!.hi by omega)]
 ·rw[a2,List.set_set]
 ·exact a3
theorem At9{U:Nat→List Run}{r n0 n k:Int}{v0 v:List Int}{c0 c:List Span}(h0:0≤k)(he:2*(k / 2)=k)(hk:k+1 < 2*(U r.toNat).length)(hlo:¬(U r.toNat)[(k / 2).toNat]!.lo=1)(h:Ak5 U r n0 v0 c0 k n v c) :
  Ak5 U r n0 v0 c0 (k+2) n v (c++[⟨r,(U r.toNat)[(k / 2).toNat]!.lo,(U r.toNat)[(k / 2).toNat]!.hi⟩]):=by
 unfold Ak5 at *
 rw[At8 h0 he hk,At7 (fun _=>hlo)]
 obtain⟨a1,a2,a3⟩:=h
 refine⟨a1,a2,?_⟩
 rw[a3,List.map_append,List.append_assoc]
 rfl
theorem B22{U:Nat→List Run}{r n0 n k:Int}{v0 v:List Int}{c0 c:List Span}(hU:L3 (U r.toNat))(r0:0≤r)(r1:r < 16)(hs:Aq4 U r n0)(hv:Z1 U r v0)(hc:J5 U r c0)(h0:0≤k)(he:2*(k / 2)=k)(hk:¬ k+1 < 2*(U r.toNat).length)(hl:k≤2*(U r.toNat).length)
  (h:Ak5 U r n0 v0 c0 k n v c):Aq4 U (r+1) n∧Z1 U (r+1) v∧J5 U (r+1) c:=by
 unfold Ak5 at h
 rw[List.take_of_length_le (by omega)]at h
 obtain⟨a1,a2,a3⟩:=h
 have g1:=A9t r0 hs
 have g2:=A64 r0 r1 hv
 rw[A4w hU]at g1 g2
 rw[a1,a2]
 refine⟨g1,g2,?_⟩
 unfold J5 at *
 rw[show(r+1).toNat=r.toNat+1 by omega,I0,T3,A4w hU,a3,hc,show((r.toNat:Nat):Int)=r by omega]
theorem A8g{U:Nat→List Run}{r k:Int}(h0:0≤k)(he:2*(k / 2)=k)(hk:k+1 < 2*(U r.toNat).length):(tnS U r.toNat)[k.toNat]! =(U r.toNat)[(k / 2).toNat]!.lo∧(tnS U r.toNat)[(k+1).toNat]! =(U r.toNat)[(k / 2).toNat]!.hi+1:=by
 have:=A6n (l:=U r.toNat) (j:=(k / 2).toNat) (by omega)
 unfold tnS
 rw[show k.toNat=2*(k / 2).toNat by omega,show(k+1).toNat=2*(k / 2).toNat+1 by omega]
 exact this
theorem B24{U:Nat→List Run}{r n0 n k:Int}{v0 v:List Int}{c0 c:List Span}(hU:L3 (U r.toNat))(r0:0≤r)(r1:r < 16)(hc:J5 U r c0)(h:Ak5 U r n0 v0 c0 k n v c):c.length≤8000000000:=by
 obtain⟨_,_,a3⟩:=h
 have h1:=A0e U r.toNat
 have h2:=B20 ((U r.toNat).take (k / 2).toNat)
 have h3:=W9 hU
 unfold J5 at hc
 rw[List.length_take]at h2
 rw[a3,List.length_append,List.length_map,hc]
 omega
theorem B3r (U : Nat → List Run) (hU : ∀ r : Nat, r < 16 → L3 (U r)) : Con Tryz.prog 124 [.agg (B6t (tnS U))] (.agg (c26 (I4 U))) :=
  by
  refine sC B3 [.cell 2 26] 73 Tryz.func124 ?_
  intro e0 cx
  refine sq<|rG cx [1,2] [1,2] z0<|sn<|sq<|rG cx [1,2,3] [1,2,3] z0<|sn<|sq<|rG cx [1,2,3,4] [1,2,3,8] (fR (↑(16:Nat):Int) (fR (↑(16:Nat):Int) (fO ((8:Nat)*(16:Nat)≤(281474976710656:Nat)) (fP ((16:Nat)≤maxLen) (by(simp only [Go.maxLen];omega)) (fR 1 (fP (ZLe [AV.i .i64 (0:Int)] [AV.i .i64 (0:Int)]) (by(with_reducible exact ZLe.refl _)) (fP (List.replicate (16:Nat) [AV.i .i64 (0:Int)]=List.map c3 (List.replicate (16:Nat) (0:Int))) (by(with_reducible refine A9l ?_;kernel_rfl)) (oV 0 { row:=[.i .i64 ((0:Int))],rows:=some (List.map c3 (List.replicate (16:Nat) (0:Int))),n:=(16:Nat) } z0)))))))) ?_
  refine sn<|sq<|rG cx [1,2,3,4,5] [1,2,3,8] z0<|sn<|sq<|sq<|rG cx [1,2,3,4,5,6] [1,2,3,8] z0<|sn<|bL 0<|A18 3 141 3 1 5301 (σ':=⟨[(1,.ptr (1) (0) (0) (0)),(2,.ptr (2) (0) (0) (0)),(3,.ptr (3) (0) (0) (0)),(4,.own 8 0),(5,.i .i64 ((0:Int))),(6,.i .i64 ((0:Int)))],[(1,⟨0,144,.var [.sl (List.map c3 (tnS U (0))),.sl (List.map c3 (tnS U (1))),.sl (List.map c3 (tnS U (2))),.sl (List.map c3 (tnS U (3))),.sl (List.map c3 (tnS U (4))),.sl (List.map c3 (tnS U (5))),.sl (List.map c3 (tnS U (6))),.sl (List.map c3 (tnS U (7))),.sl (List.map c3 (tnS U (8))),.sl (List.map c3 (tnS U (9))),.sl (List.map c3 (tnS U (10))),.sl (List.map c3 (tnS U (11))),.sl (List.map c3 (tnS U (12))),.sl (List.map c3 (tnS U (13))),.sl (List.map c3 (tnS U (14))),.sl (List.map c3 (tnS U (15)))]⟩),(2,⟨0,26,.var [.nl,.nl]⟩),(3,⟨0,26,.var [.nl,.own 5301 0]⟩),(8,⟨0,3,.row 1 (List.map c3 (List.replicate (16:Nat) (0:Int)))⟩),(5301,⟨0,141,.row 3 (List.map B1 [])⟩)]⟩) (by kernel_rfl)<|H3 1 ⟨0,144,.var [.sl (List.map c3 (tnS U (0))),.sl (List.map c3 (tnS U (1))),.sl (List.map c3 (tnS U (2))),.sl (List.map c3 (tnS U (3))),.sl (List.map c3 (tnS U (4))),.sl (List.map c3 (tnS U (5))),.sl (List.map c3 (tnS U (6))),.sl (List.map c3 (tnS U (7))),.sl (List.map c3 (tnS U (8))),.sl (List.map c3 (tnS U (9))),.sl (List.map c3 (tnS U (10))),.sl (List.map c3 (tnS U (11))),.sl (List.map c3 (tnS U (12))),.sl (List.map c3 (tnS U (13))),.sl (List.map c3 (tnS U (14))),.sl (List.map c3 (tnS U (15)))]⟩ [.sl (List.map c3 (tnS U (0))),.sl (List.map c3 (tnS U (1))),.sl (List.map c3 (tnS U (2))),.sl (List.map c3 (tnS U (3))),.sl (List.map c3 (tnS U (4))),.sl (List.map c3 (tnS U (5))),.sl (List.map c3 (tnS U (6))),.sl (List.map c3 (tnS U (7))),.sl (List.map c3 (tnS U (8))),.sl (List.map c3 (tnS U (9))),.sl (List.map c3 (tnS U (10))),.sl (List.map c3 (tnS U (11))),.sl (List.map c3 (tnS U (12))),.sl (List.map c3 (tnS U (13))),.sl (List.map c3 (tnS U (14))),.sl (List.map c3 (tnS U (15)))] (E9 c3 16 (tnS U)) (σ':=⟨[(1,.ptr (1) (0) (0) (0)),(2,.ptr (2) (0) (0) (0)),(3,.ptr (3) (0) (0) (0)),(4,.own 8 0),(5,.i .i64 ((0:Int))),(6,.i .i64 ((0:Int)))],[(1,⟨0,144,.arr (E9 c3 16 (tnS U))⟩),(2,⟨0,26,.var [.nl,.nl]⟩),(3,⟨0,26,.var [.nl,.own 5301 0]⟩),(8,⟨0,3,.row 1 (List.map c3 (List.replicate (16:Nat) (0:Int)))⟩),(5301,⟨0,141,.row 3 (List.map B1 [])⟩)]⟩) (by kernel_rfl) (by kernel_rfl) (by kernel_rfl) (by kernel_rfl) (ZLe.of_eq (by kernel_rfl)) (by kernel_rfl)<|sL (X:=Int×Int×(Nat→List Int)×List Int×List Span) (fun x=>⟨[(1,.ptr (1) (0) (0) (0)),(2,.ptr (2) (0) (0) (0)),(3,.ptr (3) (0) (0) (0)),(4,.own 8 0),(5,.i .i64 (x.1)),(6,.i .i64 (x.2.1))],[(1,⟨0,144,.arr (E9 c3 16 x.2.2.1)⟩),(2,⟨0,26,.var [.nl,.nl]⟩),(3,⟨0,26,.var [.nl,.own 5301 0]⟩),(8,⟨0,3,.row 1 (List.map c3 x.2.2.2.1)⟩),(5301,⟨0,141,.row 3 (List.map B1 x.2.2.2.2)⟩)]⟩) (fun x ↦ decFa x.1 x.2.1 x.2.2.1 x.2.2.2.1 x.2.2.2.2) (fun x ↦ B5w U x.1 x.2.1 x.2.2.1 x.2.2.2.1 x.2.2.2.2) [1,2,3,4,5,6] [1,2,3,8,5301] (((0:Int),(0:Int),tnS U,List.replicate (16:Nat) (0:Int),[])) (show B5w U (0:Int) (0:Int) (tnS U) (List.replicate (16:Nat) (0:Int)) []from ?g0) ?_;rotate_left
  rintro⟨n0,r1,S2,v3,c4⟩ h_5
  obtain⟨hh6,hh7,hh8,hh9,h10,h11,h12,h13,h14⟩:S2=tnS U∧0≤r1∧r1≤16∧0≤n0∧n0≤r1∧v3.length=(16:Nat)∧Aq4 U r1 n0∧Z1 U r1 v3∧J5 U r1 c4:=h_5
  refine sq<|rD cx [1,2,3,4,5,6,10] [1,2,3,8,5301] (zB 1 (r1 <(16:Int))) (fun h15=>?_) fun h15=>?_
  refine sK<|sn<|sq<|bL 1<|sq<|rG cx [1,2,3,4,5,6,7] [1,2,3,8,5301] z0<|sn<|bL 2<|sL (X:=Int×Int×(Nat→List Int)×List Int×List Span) (fun x=>⟨[(1,.ptr (1) (0) (0) (0)),(2,.ptr (2) (0) (0) (0)),(3,.ptr (3) (0) (0) (0)),(4,.own 8 0),(5,.i .i64 (x.1)),(6,.i .i64 (r1)),(7,.i .i64 (x.2.1))],[(1,⟨0,144,.arr (E9 c3 16 x.2.2.1)⟩),(2,⟨0,26,.var [.nl,.nl]⟩),(3,⟨0,26,.var [.nl,.own 5301 0]⟩),(8,⟨0,3,.row 1 (List.map c3 x.2.2.2.1)⟩),(5301,⟨0,141,.row 3 (List.map B1 x.2.2.2.2)⟩)]⟩) (fun x ↦ decFb U r1 x.1 x.2.1 x.2.2.1 x.2.2.2.1 x.2.2.2.2) (fun x ↦ B1y U r1 n0 v3 c4 x.1 x.2.1 x.2.2.1 x.2.2.2.1 x.2.2.2.2) [1,2,3,4,5,6,7] [1,2,3,8,5301] ((n0,(0:Int),S2,v3,c4)) (show B1y U r1 n0 v3 c4 n0 (0:Int) S2 v3 c4 from ?g1) ?_;rotate_left
  rintro⟨n16,k17,S18,v19,c20⟩ h_21
  obtain⟨h22,h23,h24,h25,h26,h27,h28,h29⟩:S18=tnS U∧0≤k17∧k17≤(2:Int)*(↑(U r1.toNat).length:Int)∧(2:Int)*(k17 / (2:Int))=k17∧v19.length=(16:Nat)∧0≤n16∧n16≤r1+1∧Ak5 U r1 n0 v3 c4 k17 n16 v19 c20:=h_21
  refine sq<|sq<|rG cx [1,2,3,4,5,6,7,20] [1,2,3,8,5301] (tT 1 (B6 (by omega) ?g2:AV.i .i64 (IntKind.i64.wrap (k17+1))=AV.i .i64 (k17+1)) (fA (0≤r1) (fO (r1 <(↑(16:Nat):Int)) (fP ((E9 c3 16 S18)[r1.toNat*(1:Nat)+0]?=some (AV.sl (List.map c3 (S18 r1.toNat)))) (by((try simp only [Nat.mul_one,Nat.add_zero,Nat.zero_add]);with_reducible refine E8 ?_;omega)) (tL 6 c3 (S18 r1.toNat) (tB 7 (k17+1 <(↑(S18 r1.toNat).length:Int)) (oR 5 [.sl (List.map c3 (S18 r1.toNat))] z0))))))) ?_;rotate_left
  refine sn<|dC (k17+1 <(↑(S18 r1.toNat).length:Int)) (fun h30=>?_) fun h30=>?_
  refine sK<|sn<|sq<|bL 3<|rD cx [1,2,3,4,5,6,7,30] [1,2,3,8,5301] (fA (0≤r1) (fO (r1 <(↑(16:Nat):Int)) (fP ((E9 c3 16 S18)[r1.toNat*(1:Nat)+0]?=some (AV.sl (List.map c3 (S18 r1.toNat)))) (by((try simp only [Nat.mul_one,Nat.add_zero,Nat.zero_add]);with_reducible refine E8 ?_;omega)) (fA (0≤k17) (fG c3 (S18 r1.toNat) k17.toNat (fR 1 (oR 3 [.sl (List.map c3 (S18 r1.toNat))] (oR 5 (c3 (S18 r1.toNat)[k17.toNat]!) (zB 7 ((S18 r1.toNat)[k17.toNat]! =(1:Int))))))))))) (fun h31=>?_) fun h31=>?_
  refine sq<|rG cx [1,2,3,4,6,7] [1,2,3,8,5301] (fA (0≤r1) (fO (r1 <(↑(16:Nat):Int)) (fP ((E9 c3 16 S18)[r1.toNat*(1:Nat)+0]?=some (AV.sl (List.map c3 (S18 r1.toNat)))) (by((try simp only [Nat.mul_one,Nat.add_zero,Nat.zero_add]);with_reducible refine E8 ?_;omega)) (tT 7 (B6 (by omega) ?g3:AV.i .i64 (IntKind.i64.wrap (k17+1))=AV.i .i64 (k17+1)) (fO (0≤k17+1) (fG c3 (S18 r1.toNat) ((k17+1).toNat) (fR 1 (tT 10 (B6 ?g4 ?g5:AV.i .i64 (IntKind.i64.wrap ((S18 r1.toNat)[(k17+1).toNat]!-1))=AV.i .i64 ((S18 r1.toNat)[(k17+1).toNat]!-1)) (fA (0≤r1) (fP (r1.toNat <(List.map c3 v19).length) (by(first | omega | (simp only [List.length_map];omega))) (fR 1 (fG c3 v19 r1.toNat (fR 1 (fP (0+(1:Nat)≤1) (by(first | omega | (simp only [List.length_map];omega))) (fP ((List.map c3 v19).set r1.toNat (List.take (0) (c3 v19[r1.toNat]!)++E0 (AV.i .i64 ((S18 r1.toNat)[(k17+1).toNat]!-1))++List.drop (0+(1:Nat)) (c3 v19[r1.toNat]!))=List.map c3 (v19.set r1.toNat ((S18 r1.toNat)[(k17+1).toNat]!-1))) (by(with_reducible refine A5v ?_;kernel_rfl)) (oR 5 [.sl (List.map c3 (S18 r1.toNat))] (oR 8 (c3 (S18 r1.toNat)[(k17+1).toNat]!) (oV 12 { row:=(c3 v19[r1.toNat]!),rows:=some (List.map c3 (v19.set r1.toNat ((S18 r1.toNat)[(k17+1).toNat]!-1))) } z0)))))))))))))))))) ?_;rotate_left 3
  refine sn<|rG cx [1,2,3,4,6,7,5] [1,2,3,8,5301] (tW 1 (r1+1) z0)<|bN<|sn<|rG cx [1,2,3,4,6,7,5] [1,2,3,8,5301] (tT 1 (B6 (by omega) ?g6:AV.i .i64 (IntKind.i64.wrap (k17+2))=AV.i .i64 (k17+2)) z0) ?_;rotate_left
  refine sn<|nX ((r1+1,k17+2,S18,v19.set r1.toNat ((S18 r1.toNat)[(k17+1).toNat]!-1),c20)) (show((2:Int)*(↑(U r1.toNat).length:Int)-(k17+2)).toNat <((2:Int)*(↑(U r1.toNat).length:Int)-k17).toNat from ?g7) (show B1y U r1 n0 v3 c4 (r1+1) (k17+2) S18 (v19.set r1.toNat ((S18 r1.toNat)[(k17+1).toNat]!-1)) c20 from ?g8);rotate_left 2
  refine rA cx [1,2,3,4,5,6,7] [1,2,3,8,5301] (fA (0≤r1) (fO (r1 <(↑(16:Nat):Int)) (fP ((E9 c3 16 S18)[r1.toNat*(1:Nat)+0]?=some (AV.sl (List.map c3 (S18 r1.toNat)))) (by((try simp only [Nat.mul_one,Nat.add_zero,Nat.zero_add]);with_reducible refine E8 ?_;omega)) (fA (0≤k17) (fG c3 (S18 r1.toNat) k17.toNat (fR 1 (fA (0≤r1) (fO (r1 <(↑(16:Nat):Int)) (fP ((E9 c3 16 S18)[r1.toNat*(1:Nat)+0]?=some (AV.sl (List.map c3 (S18 r1.toNat)))) (by((try simp only [Nat.mul_one,Nat.add_zero,Nat.zero_add]);with_reducible refine E8 ?_;omega)) (tT 15 (B6 (by omega) ?g9:AV.i .i64 (IntKind.i64.wrap (k17+1))=AV.i .i64 (k17+1)) (fO (0≤k17+1) (fG c3 (S18 r1.toNat) ((k17+1).toNat) (fR 1 (tT 18 (B6 ?g10 ?g11:AV.i .i64 (IntKind.i64.wrap ((S18 r1.toNat)[(k17+1).toNat]!-1))=AV.i .i64 ((S18 r1.toNat)[(k17+1).toNat]!-1)) (fR 141 (fR 3 (fR 3 (fX B1 [{ rep:=r1,lo:=(S18 r1.toNat)[k17.toNat]!,hi:=(S18 r1.toNat)[(k17+1).toNat]!-1:Span }] 3 (fP ((List.map B1 c20).length+(List.map B1 [{ rep:=r1,lo:=(S18 r1.toNat)[k17.toNat]!,hi:=(S18 r1.toNat)[(k17+1).toNat]!-1:Span }]).length≤maxLen) ?g12 (fP (((List.map B1 c20).length+(List.map B1 [{ rep:=r1,lo:=(S18 r1.toNat)[k17.toNat]!,hi:=(S18 r1.toNat)[(k17+1).toNat]!-1:Span }]).length)*(24:Nat)≤(140737488355328:Nat)) ?g13 (fM B1 c20 [{ rep:=r1,lo:=(S18 r1.toNat)[k17.toNat]!,hi:=(S18 r1.toNat)[(k17+1).toNat]!-1:Span }] (oR 6 [.sl (List.map c3 (S18 r1.toNat))] (oR 8 (c3 (S18 r1.toNat)[k17.toNat]!) (oR 13 [.sl (List.map c3 (S18 r1.toNat))] (oR 16 (c3 (S18 r1.toNat)[(k17+1).toNat]!) (oV 21 { rows:=some (List.map B1 (c20++[{ rep:=r1,lo:=(S18 r1.toNat)[k17.toNat]!,hi:=(S18 r1.toNat)[(k17+1).toNat]!-1:Span }])) } z0)))))))))))))))))))))))))) ?_;rotate_left 5
  refine bN<|sn<|rG cx [1,2,3,4,5,6,7] [1,2,3,8,5301] (tT 1 (B6 (by omega) ?g14:AV.i .i64 (IntKind.i64.wrap (k17+2))=AV.i .i64 (k17+2)) z0) ?_;rotate_left
  refine sn<|nX ((n16,k17+2,S18,v19,c20++[{ rep:=r1,lo:=(S18 r1.toNat)[k17.toNat]!,hi:=(S18 r1.toNat)[(k17+1).toNat]!-1:Span }])) (show((2:Int)*(↑(U r1.toNat).length:Int)-(k17+2)).toNat <((2:Int)*(↑(U r1.toNat).length:Int)-k17).toNat from ?g15) (show B1y U r1 n0 v3 c4 n16 (k17+2) S18 v19 (c20++[{ rep:=r1,lo:=(S18 r1.toNat)[k17.toNat]!,hi:=(S18 r1.toNat)[(k17+1).toNat]!-1:Span }])from ?g16);rotate_left 2
  refine eX 2<|nE<|nE<|bH<|bN<|sn<|rG cx [1,2,3,4,5,6] [1,2,3,8,5301] (tW 1 (r1+1) z0)<|sn<|nX ((n16,r1+1,S18,v19,c20)) (show(16-(r1+1)).toNat <(16-r1).toNat from(by omega)) (show B5w U n16 (r1+1) S18 v19 c20 from ?g17);rotate_left
  refine eX 0<|nE<|nE<|bH<|sn<|sq<|rG cx [2,3] [2,3,8,5301] (fO ((0:Int)≤(0:Int)) (fA (0≤n0) (fP (n0≤(↑(List.map c3 v3).length:Int)) (by(first | omega | (simp only [List.length_map];omega))) (fP ((0:Int) <(↑(List.map c3 v3).length:Int)) (by(first | omega | (simp only [List.length_map];omega))) (fR (some (1)) z0))))) ?_
  refine sn<|sq<|H6 [8,5301] [2,3] [2,3] (σ':=⟨[(2,.ptr (2) (0) (0) (0)),(3,.ptr (3) (0) (0) (0))],[(2,⟨0,26,.var [.nl,.nl]⟩),(3,⟨0,26,.var [.sl (List.take (n0-0).toNat (List.drop (0) (List.map c3 v3))),.sl (List.map B1 c4)]⟩)]⟩) (by kernel_rfl)<|rG cx [2] [2] z0<|sn<|rT<|qR (.agg [.sl (List.take (n0-0).toNat (List.drop (0) (List.map c3 v3))),.sl (List.map B1 c4)]) (.eq ?g18);rotate_left
  rotate_left
  revert n0 r1 S2 v3 c4 hh6 hh7 hh8 hh9 h10 h11 h12 h13 h14 h15;rotate_left
  revert n0 r1 S2 v3 c4 hh6 hh7 hh8 hh9 h10 h11 h12 h13 h14 h15 n16 k17 S18 v19 c20 h22 h23 h24 h25 h26 h27 h28 h29;rotate_left
  revert n0 r1 S2 v3 c4 hh6 hh7 hh8 hh9 h10 h11 h12 h13 h14 h15 n16 k17 S18 v19 c20 h22 h23 h24 h25 h26 h27 h28 h29 h30 h31;rotate_left
  revert n0 r1 S2 v3 c4 hh6 hh7 hh8 hh9 h10 h11 h12 h13 h14 h15 n16 k17 S18 v19 c20 h22 h23 h24 h25 h26 h27 h28 h29 h30 h31;rotate_left
  revert n0 r1 S2 v3 c4 hh6 hh7 hh8 hh9 h10 h11 h12 h13 h14 h15 n16 k17 S18 v19 c20 h22 h23 h24 h25 h26 h27 h28 h29 h30 h31;rotate_left
  revert n0 r1 S2 v3 c4 hh6 hh7 hh8 hh9 h10 h11 h12 h13 h14 h15 n16 k17 S18 v19 c20 h22 h23 h24 h25 h26 h27 h28 h29 h30 h31;rotate_left
  revert n0 r1 S2 v3 c4 hh6 hh7 hh8 hh9 h10 h11 h12 h13 h14 h15 n16 k17 S18 v19 c20 h22 h23 h24 h25 h26 h27 h28 h29 h30 h31;rotate_left
  revert n0 r1 S2 v3 c4 hh6 hh7 hh8 hh9 h10 h11 h12 h13 h14 h15 n16 k17 S18 v19 c20 h22 h23 h24 h25 h26 h27 h28 h29 h30 h31;rotate_left
  revert n0 r1 S2 v3 c4 hh6 hh7 hh8 hh9 h10 h11 h12 h13 h14 h15 n16 k17 S18 v19 c20 h22 h23 h24 h25 h26 h27 h28 h29 h30 h31;rotate_left
  revert n0 r1 S2 v3 c4 hh6 hh7 hh8 hh9 h10 h11 h12 h13 h14 h15 n16 k17 S18 v19 c20 h22 h23 h24 h25 h26 h27 h28 h29 h30 h31;rotate_left
  revert n0 r1 S2 v3 c4 hh6 hh7 hh8 hh9 h10 h11 h12 h13 h14 h15 n16 k17 S18 v19 c20 h22 h23 h24 h25 h26 h27 h28 h29 h30 h31;rotate_left
  revert n0 r1 S2 v3 c4 hh6 hh7 hh8 hh9 h10 h11 h12 h13 h14 h15 n16 k17 S18 v19 c20 h22 h23 h24 h25 h26 h27 h28 h29 h30 h31;rotate_left
  revert n0 r1 S2 v3 c4 hh6 hh7 hh8 hh9 h10 h11 h12 h13 h14 h15 n16 k17 S18 v19 c20 h22 h23 h24 h25 h26 h27 h28 h29 h30 h31;rotate_left
  revert n0 r1 S2 v3 c4 hh6 hh7 hh8 hh9 h10 h11 h12 h13 h14 h15 n16 k17 S18 v19 c20 h22 h23 h24 h25 h26 h27 h28 h29 h30 h31;rotate_left
  revert n0 r1 S2 v3 c4 hh6 hh7 hh8 hh9 h10 h11 h12 h13 h14 h15 n16 k17 S18 v19 c20 h22 h23 h24 h25 h26 h27 h28 h29 h30 h31;rotate_left
  revert n0 r1 S2 v3 c4 hh6 hh7 hh8 hh9 h10 h11 h12 h13 h14 h15 n16 k17 S18 v19 c20 h22 h23 h24 h25 h26 h27 h28 h29 h30 h31;rotate_left
  revert n0 r1 S2 v3 c4 hh6 hh7 hh8 hh9 h10 h11 h12 h13 h14 h15 n16 k17 S18 v19 c20 h22 h23 h24 h25 h26 h27 h28 h29 h30;rotate_left
  revert n0 r1 S2 v3 c4 hh6 hh7 hh8 hh9 h10 h11 h12 h13 h14 h15;rotate_left
  case g0=>exact⟨rfl,by omega,by omega,by omega,by omega,by simp,rfl,by simp [Z1,A4o],rfl⟩
  case g1=>intro n r S v c h0 h1 h2 h3 h4 h5 h6 h7 h8 h9;exact⟨h0,by omega,by omega,by omega,by omega,by omega,by omega,Ak6 h1 h9 h7⟩
  case g18 =>
    intro n r S v c h0 h1 h2 h3 h4 h5 h6 h7 h8 h9
    rw[A65 h2 h9 h6 h7 h8]
    show AV.agg [AV.sl (List.take (n-0).toNat (List.drop 0 (List.map c3 v))),AV.sl (List.map B1 c)]=_
    rw[List.drop_zero,Int.sub_zero,← List.map_take]
    rfl
  all_goals
    intro n r S v c h0 h1 h2 h3 h4 h5 h6 h7 h8 h9 m k X w d k0 k1 k2 k3 k4 k5 k6 k7
    have hs:=hU r.toNat (by omega)
    have hl:=W9 hs
    have hd:=B24 hs h1 h9 h8 k7
    have ht:(tnS U r.toNat).length=2*(U r.toNat).length:=A0s _
    subst k0
  case g17 =>
    intro k8
    rw[ht]at k8
    obtain⟨a,b,e⟩:=B22 hs h1 h9 h6 h7 h8 k1 k3 (by omega) k2 k7
    exact⟨rfl,by omega,by omega,by omega,by omega,k4,a,b,e⟩
  case g8 =>
    intro k8 k9
    rw[ht]at k8
    obtain⟨e1,e2⟩:=A8g (U:=U) (r:=r) k1 k3 (by omega)
    rw[e1]at k9
    rw[e2,Int.add_sub_cancel]
    exact⟨rfl,by omega,by omega,by omega,by rw[List.length_set];exact k4,by omega,by omega,B21 hs k1 k3 (by omega) k9 k7⟩
  case g16 =>
    intro k8 k9
    rw[ht]at k8
    obtain⟨e1,e2⟩:=A8g (U:=U) (r:=r) k1 k3 (by omega)
    rw[e1]at k9
    rw[e1,e2,Int.add_sub_cancel]
    exact⟨rfl,by omega,by omega,by omega,k4,by omega,by omega,At9 k1 k3 (by omega) k9 k7⟩
  all_goals
    first
    | omega
    | (intro k8 k9
       rw[ht]at k8
       obtain⟨e1,e2⟩:=A8g (U:=U) (r:=r) k1 k3 (by omega)
       have hb:=hs.2 _ (G6 (l:=U r.toNat) (i:=(k / 2).toNat) (by omega))
       simp only [e2,List.length_map,List.length_cons,List.length_nil,Go.maxLen]
       omega)
end Go.Proofs.YtphcaholhacnpaaGreat
namespace Go.Proofs.YtphcaholhacnpaaGreat
open Go.E
set_option maxRecDepth 100000
set_option maxHeartbeats 4000000
def A1d(ds:List Dot):List Span:=ds.map fun d=>⟨d.rep,d.num,d.num⟩
def A1e(ds:List Dot)(i:Int)(c:List Span):Prop:=c=A1d (ds.take i.toNat)
def B5x(ds:List Dot)(i:Int)(c:List Span):Prop:=0≤i∧i≤ds.length∧(c.length:Int)=i∧A1e ds i c
def decOf(ds:List Dot)(i:Int)(c:List Span):Nat:=(ds.length-i).toNat
theorem A8h{ds:List Dot}{i:Int}{c:List Span}(h0:0≤i)(h:i < ds.length)(hs:A1e ds i c):A1e ds (i+1) (c++[⟨ds[i.toNat]!.rep,ds[i.toNat]!.num,ds[i.toNat]!.num⟩]):=by
 unfold A1e A1d at *
 rw[← D6 h0 h,List.map_append,← hs]
 rfl
theorem B25(ds:List Dot):I4 (A7 [⟨[],A1d ds⟩])=I4 (ofT ds):=by
 rw[← A0h,← A0h (ofT ds)]
 refine Q4 fun r hr=>?_
 refine M8 (E4 _) (E4 _) fun n=>?_
 show inR (nrm _) n↔inR (nrm _) n
 rw[N7,N7]
 refine and_congr_right fun n0=>and_congr_right fun n1=>?_
 have e:A7 [⟨[],A1d ds⟩] r=L9 (A1d ds) r:=by simp [A7,Ae7]
 rw[e]
 unfold inR L9 A1d ofT
 constructor
 ·rintro⟨x,hx,h1,h2⟩
  obtain⟨s,hs,rfl⟩:=List.mem_map.1 hx
  obtain⟨hs,hq⟩:=List.mem_filter.1 hs
  obtain⟨d,hd,rfl⟩:=List.mem_map.1 hs
  simp only [decide_eq_true_eq]at hq h1 h2
  refine⟨⟨d.num,d.num⟩,List.mem_map.2 ⟨d,List.mem_filter.2 ⟨hd,?_⟩,rfl⟩,h1,h2⟩
  rw[Bool.and_eq_true,decide_eq_true_eq]
  exact⟨by unfold K3;rw[decide_eq_true_eq];omega,hq⟩
 ·rintro⟨x,hx,h1,h2⟩
  obtain⟨d,hd,rfl⟩:=List.mem_map.1 hx
  obtain⟨hd,hq⟩:=List.mem_filter.1 hd
  rw[Bool.and_eq_true,decide_eq_true_eq]at hq
  exact⟨⟨d.num,d.num⟩,List.mem_map.2 ⟨⟨d.rep,d.num,d.num⟩,List.mem_filter.2 ⟨List.mem_map.2 ⟨d,hd,rfl⟩,by simpa using hq.2⟩,rfl⟩,h1,h2⟩
theorem Au0(p:Past)(hb:p.cloud.length*16≤140737488350000):Con Tryz.prog 90 [.agg (c26 p)] (.agg (B6t (tnS (B9 (A7 [p]))))) :=
 by
 refine sC B3 [.cell 2 144] 6 Tryz.func90 ?_
 intro e0 cx
 refine sq<|rG cx [1,2] [1,2] z0<|sn<|sq<|rG cx [2] [2] (fT (con162 ([p]) ?g0) (oA 2 (.agg (E9 c3 16 (tnS (B9 (A7 [p]))))) z0)) ?_;rotate_left
 refine sn<|rT<|qR (.agg [.sl (List.map c3 (tnS (B9 (A7 [p])) (0))),.sl (List.map c3 (tnS (B9 (A7 [p])) (1))),.sl (List.map c3 (tnS (B9 (A7 [p])) (2))),.sl (List.map c3 (tnS (B9 (A7 [p])) (3))),.sl (List.map c3 (tnS (B9 (A7 [p])) (4))),.sl (List.map c3 (tnS (B9 (A7 [p])) (5))),.sl (List.map c3 (tnS (B9 (A7 [p])) (6))),.sl (List.map c3 (tnS (B9 (A7 [p])) (7))),.sl (List.map c3 (tnS (B9 (A7 [p])) (8))),.sl (List.map c3 (tnS (B9 (A7 [p])) (9))),.sl (List.map c3 (tnS (B9 (A7 [p])) (10))),.sl (List.map c3 (tnS (B9 (A7 [p])) (11))),.sl (List.map c3 (tnS (B9 (A7 [p])) (12))),.sl (List.map c3 (tnS (B9 (A7 [p])) (13))),.sl (List.map c3 (tnS (B9 (A7 [p])) (14))),.sl (List.map c3 (tnS (B9 (A7 [p])) (15)))]) (.eq ?g1);rotate_left
 case g0=>exact(by rw[A9y];omega)
 case g1=>exact rfl
theorem B26(p:Past)(hb:p.cloud.length*16≤140737488350000):Con Tryz.prog 80 [.agg (c26 p)] (.agg (c26 (A6 p))) :=
 by
 refine sC B3 [.cell 2 26] 6 Tryz.func80 ?_
 intro e0 cx
 refine sq<|rG cx [1,2] [1,2] z0<|sn<|sq<|rG cx [2] [2] (fT (Au0 (p) (by(with_reducible assumption))) (fT (B3r (B9 (A7 [p])) ?g0) (oA 1 (.agg (E9 c3 16 (tnS (B9 (A7 [p]))))) (oA 2 (.agg [.sl (List.map c3 (I4 (B9 (A7 [p]))).vec),.sl (List.map B1 (I4 (B9 (A7 [p]))).cloud)]) z0)))) ?_;rotate_left
 refine sn<|rT<|qR (.agg [.sl (List.map c3 (I4 (B9 (A7 [p]))).vec),.sl (List.map B1 (I4 (B9 (A7 [p]))).cloud)]) (.eq ?g1);rotate_left
 case g0=>exact(A67 _)
 case g1=>exact(by rw[A0h];rfl)
theorem Au1(p:Past)(hb:p.cloud.length*16≤140737488350000)(hv:p.vec.length≤9223372036854775807):Con Tryz.prog 74 [.agg (c26 p)] (.b (decide (p=A6 p))) :=
 by
 refine sC B3 [.tmp 2] 7 Tryz.func74 ?_
 intro e0 cx
 refine sq<|rG cx [1] [1] z0<|sn<|sq<|rA cx [2] [] (fT (B26 (p) (by(with_reducible assumption))) (fT (B1o (p) (A6 p) (by(with_reducible assumption)) (by omega)) (oA 2 (.agg [.sl (List.map c3 (A6 p).vec),.sl (List.map B1 (A6 p).cloud)]) (oA 3 (.b (decide (p=A6 p))) z0))))<|sn<|rT ?_
 exact X8 (r:=.b (decide (p=A6 p))) (obl:=[]) (by kernel_rfl) trivial (A5.refl _)
theorem con122(ds:List Dot)(hb:ds.length*24≤140737488350000):Con Tryz.prog 122 [.sl (ds.map c44)] (.agg (c26 (I4 (ofT ds)))) :=
 by
 refine lN 0 c44 (ds) Tryz.func122 fun hl_0=>sC B3 [.cell 2 26] 34 Tryz.func122 ?_
 intro e0 cx
 refine sq<|rG cx [0,2] [2] z0<|sn<|sq<|rG cx [0,2,3] [2,3] z0<|sn<|sq<|sq<|rG cx [0,2,3,4] [2,3] z0<|sn<|bL 0<|A18 3 141 3 1 5301 (σ':=⟨[(0,.sl (List.map c44 ds)),(2,.ptr (2) (0) (0) (0)),(3,.ptr (3) (0) (0) (0)),(4,.i .i64 ((0:Int)))],[(2,⟨0,26,.var [.nl,.nl]⟩),(3,⟨0,26,.var [.nl,.own 5301 0]⟩),(5301,⟨0,141,.row 3 (List.map B1 [])⟩)]⟩) (by kernel_rfl)<|sL (X:=Int×List Span) (fun x=>⟨[(0,.sl (List.map c44 ds)),(2,.ptr (2) (0) (0) (0)),(3,.ptr (3) (0) (0) (0)),(4,.i .i64 (x.1))],[(2,⟨0,26,.var [.nl,.nl]⟩),(3,⟨0,26,.var [.nl,.own 5301 0]⟩),(5301,⟨0,141,.row 3 (List.map B1 x.2)⟩)]⟩) (fun x ↦ decOf ds x.1 x.2) (fun x ↦ B5x ds x.1 x.2) [0,2,3,4] [2,3,5301] (((0:Int),[])) (show B5x ds (0:Int) []from(by exact⟨by omega,by omega,rfl,rfl⟩)) ?_
 rintro⟨i0,c1⟩ h_2
 obtain⟨hh3,hh4,h5,h6⟩:0≤i0∧i0≤(↑ds.length:Int)∧(↑c1.length:Int)=i0∧A1e ds i0 c1:=h_2
 refine sq<|rD cx [0,2,3,4,8] [2,3,5301] (tL 2 c44 ds (zB 3 (i0 <(↑ds.length:Int)))) (fun h7=>?_) fun h7=>?_
 refine sK<|sn<|sq<|bL 1<|rA cx [0,2,3,4] [2,3,5301] (fA (0≤i0) (fG c44 ds i0.toNat (fR 2 (fA (0≤i0) (fG c44 ds i0.toNat (fR 2 (fA (0≤i0) (fG c44 ds i0.toNat (fR 2 (fR 141 (fR 3 (fR 3 (fX B1 [{ rep:=ds[i0.toNat]!.rep,lo:=ds[i0.toNat]!.num,hi:=ds[i0.toNat]!.num:Span }] 3 (fS B1 c1 B1 [{ rep:=ds[i0.toNat]!.rep,lo:=ds[i0.toNat]!.num,hi:=ds[i0.toNat]!.num:Span }] (fP (((List.map B1 c1).length+(List.map B1 [{ rep:=ds[i0.toNat]!.rep,lo:=ds[i0.toNat]!.num,hi:=ds[i0.toNat]!.num:Span }]).length)*(24:Nat)≤(140737488355328:Nat)) (by(simp only [Go.maxLen,List.length_map,List.length_append,List.length_cons,List.length_nil];omega)) (fM B1 c1 [{ rep:=ds[i0.toNat]!.rep,lo:=ds[i0.toNat]!.num,hi:=ds[i0.toNat]!.num:Span }] (oR 4 (c44 ds[i0.toNat]!) (oR 9 (c44 ds[i0.toNat]!) (oR 14 (c44 ds[i0.toNat]!) (oV 19 { rows:=some (List.map B1 (c1++[{ rep:=ds[i0.toNat]!.rep,lo:=ds[i0.toNat]!.num,hi:=ds[i0.toNat]!.num:Span }])) } z0))))))))))))))))))))<|bN<|sn<|rG cx [0,2,3,4] [2,3,5301] (tW 1 (i0+1) z0)<|sn<|nX ((i0+1,c1++[{ rep:=ds[i0.toNat]!.rep,lo:=ds[i0.toNat]!.num,hi:=ds[i0.toNat]!.num:Span }])) (show((↑ds.length:Int)-(i0+1)).toNat <((↑ds.length:Int)-i0).toNat from(by omega)) (show B5x ds (i0+1) (c1++[{ rep:=ds[i0.toNat]!.rep,lo:=ds[i0.toNat]!.num,hi:=ds[i0.toNat]!.num:Span }])from(by exact⟨by omega,by omega,by rw[List.length_append];simp only [List.length_cons,List.length_nil];omega,A8h hh3 h7 h6⟩))
 refine eX 0<|nE<|nE<|bH<|sn<|sq<|H6 [5301] [0,2,3,4,8] [2,3] (σ':=⟨[(0,.sl (List.map c44 ds)),(2,.ptr (2) (0) (0) (0)),(3,.ptr (3) (0) (0) (0)),(4,.i .i64 (i0)),(8,.b (decide (i0 <(↑ds.length:Int))))],[(2,⟨0,26,.var [.nl,.nl]⟩),(3,⟨0,26,.var [.nl,.sl (List.map B1 c1)]⟩)]⟩) (by kernel_rfl)<|rG cx [2] [2] (fP (Con Tryz.prog (80:Nat) [AV.agg [AV.nl,AV.sl (List.map B1 c1)]] (AV.agg [AV.sl (List.map c3 (A6 { vec:=[],cloud:=c1:Past }).vec),AV.sl (List.map B1 (A6 { vec:=[],cloud:=c1:Past }).cloud)])) (Con.le (B26 ({ vec:=[],cloud:=c1:Past }) (by(first | omega | (simp only [List.length_map];omega)))) (ZLe.cons (A5.agg (ZLe.cons A5.nl (ZLe.cons (A5.refl _) ZLe.nil))) ZLe.nil)) (oA 1 (.agg [.sl (List.map c3 (A6 { vec:=[],cloud:=c1:Past }).vec),.sl (List.map B1 (A6 { vec:=[],cloud:=c1:Past }).cloud)]) z0)) ?_
 refine sn<|rT<|qR (.agg [.sl (List.map c3 (A6 { vec:=[],cloud:=c1:Past }).vec),.sl (List.map B1 (A6 { vec:=[],cloud:=c1:Past }).cloud)]) (.eq ?g2);rotate_left
 case g2 =>
  unfold A1e at h6
  rw[List.take_of_length_le (by omega)]at h6
  rw[h6]
  unfold A6
  rw[B25]
  rfl
end Go.Proofs.YtphcaholhacnpaaGreat
namespace Go.Proofs.YtphcaholhacnpaaGreat
open Go.E
set_option maxRecDepth 100000
set_option maxHeartbeats 4000000
def Az4(U V:Nat→List Run)(r:Nat):List Run:=Az2 (U r) (V r)
def sepU(U:Nat→List Run):Prop:=∀ r:Nat,r < 16→L3 (U r)
def A3f(a b:List Int)(f:Bool→Bool→Bool)(i j:Int)(w:Bool)(t:List Int):Prop:=0≤i∧i≤a.length∧0≤j∧j≤b.length∧(t.length:Int)≤i+j∧A1r f a b i j w t
def decCb(a b:List Int)(i j:Int)(w:Bool)(t:List Int):Nat:=(a.length-i+(b.length-j)).toNat
def isCo(U V:Nat→List Run)(r:Int)(S:Nat→List Int):Prop:=∀ k:Nat,(k:Int) < r→S k=tnS (Az4 U V) k
def B5y(U V:Nat→List Run)(r:Int)(A B S:Nat→List Int):Prop:=A=tnS U∧B=tnS V∧0≤r∧r≤16∧isCo U V r S
def decCo(r:Int)(A B S:Nat→List Int):Nat:=(16-r).toNat
theorem rule2(x y:Bool):L7 2 x y=(x && !y):=by unfold L7;simp
theorem Au2{A B:List Run}(hA:L3 A)(hB:L3 B):H8 (L7 2) (D4 A) (D4 B) false false false=D4 (Az2 A B):=by
 refine Ak1 _ rfl hA hB (Af4 A B) fun n=>?_
 rw[Ar5,A4w hA,A4w hB,rule2,Bool.and_eq_true,Bool.not_eq_true',A6j,← Bool.not_eq_true,A6j]
theorem Au3{U:Nat→List Run}(h:sepU U){r:Nat}(hr:r < 16):(tnS U r).length≤1000000000:=by
 unfold tnS
 rw[A0s]
 have:=W9 (h r hr)
 omega
theorem Au4{U V:Nat→List Run}{r:Int}{S:Nat→List Int}(hU:sepU U)(hV:sepU V)(h0:0≤r)(h1:r < 16)(h:isCo U V r S) :
  isCo U V (r+1) (K7 S r.toNat (H8 (L7 2) (tnS U r.toNat) (tnS V r.toNat) false false false)):=by
 intro k hk
 unfold K7
 by_cases e:k=r.toNat
 ·subst e
  rw[if_pos rfl]
  exact Au2 (hU _ (by omega)) (hV _ (by omega))
 ·rw[if_neg e]
  exact h k (by omega)
theorem B27(a b:List Run):Az2 (nrm a) (nrm b)=Az2 a b:=by unfold Az2;rw[A2z,A2z]
theorem B5z(a b:Past):I4 (Az4 (B9 (A7 [a])) (B9 (A7 [b])))=E2 a b:=Q4 fun r _=>B27 _ _
def B60(U:Nat→List Run)(n r:Int)(S:Nat→List Int):Prop:=S=tnS U∧0≤r∧r≤16∧n=sizeT U r.toNat
def decRs(n r:Int)(S:Nat→List Int):Nat:=(16-r).toNat
def B61(U:Nat→List Run)(r n0 n k:Int)(S:Nat→List Int):Prop:=S=tnS U∧0≤k∧k≤2*(U r.toNat).length∧2*(k / 2)=k∧n=n0+G7 ((U r.toNat).take (k / 2).toNat)
def decRt(U:Nat→List Run)(r n k:Int)(S:Nat→List Int):Nat:=(2*(U r.toNat).length-k).toNat
theorem B3s{T:Nat→List Run}(r:Nat):nrm (B9 T r)=B9 T r:=A2z _
theorem A8i(T:Nat→List Run):∀ n:Nat,sizeT (B9 T) n=sizeT T n
 | 0=>rfl
 | n+1=>by rw[sizeT,sizeT,A8i T n,B3s];rfl
theorem X3{rule i j:Int}(h0:0≤i)(j0:0≤j):decide (rule=1∧i.tmod 2=1∧j.tmod 2=1∨¬rule=1∧rule=2∧i.tmod 2=1∧¬j.tmod 2=1)=L7 rule (Am0 i) (Am0 j):=by
 rw[Int.tmod_eq_emod_of_nonneg h0,Int.tmod_eq_emod_of_nonneg j0]
 unfold L7 Am0
 by_cases a:rule=1 <;> by_cases b:rule=2 <;> by_cases c:i % 2=1 <;> by_cases d:j % 2=1 <;> simp [a,b,c,d] <;> omega
theorem Au5{l:List Run}{k:Int}(h0:0≤k)(he:2*(k / 2)=k)(h:k+1 < 2*l.length):G7 (l.take ((k+2) / 2).toNat)=G7 (l.take (k / 2).toNat)+(l[(k / 2).toNat]!.hi-l[(k / 2).toNat]!.lo+1):=by
 rw[show(k+2) / 2=k / 2+1 by omega]
 exact A4z (by omega) (by omega)
theorem con186(a b:List Int)(rule:Int)(ha:a.length≤1000000000)(hb:b.length≤1000000000):Con Tryz.prog 186 [.sl (a.map c3),.sl (b.map c3),.i .i64 rule] (.sl ((H8 (L7 rule) a b false false false).map c3)) :=
 by
 have st:∀ {f:Bool→Bool→Bool} {i j i' j' u:Int} {w w':Bool} {t t':List Int},0≤i→i≤a.length→0≤j→j≤b.length→(t.length:Int)≤i+j→A1r f a b i j w t→(i < a.length∨j < b.length) →
   (u=if ¬ j < b.length∨(i < a.length∧a[i.toNat]! < b[j.toNat]!)then a[i.toNat]! else b[j.toNat]!) →
   (i'=if i < a.length∧a[i.toNat]! = u then i+1 else i)→(j'=if j < b.length∧b[j.toNat]! = u then j+1 else j)→i+j+1≤i'+j' →
   w'=f (Am0 i') (Am0 j')→(t'=if w'=w then t else t++[u])→A3f a b f i' j' w' t':=by
  intro f i j i' j' u w w' t t' h0 h1 h2 h3 h4 h5 ho hu hi hj hm hw ht
  refine⟨?_,?_,?_,?_,?_,At2 h0 h2 ho hu hi hj hw ht h5⟩
  ·rw[hi];split <;> omega
  ·rw[hi];split <;> omega
  ·rw[hj];split <;> omega
  ·rw[hj];split <;> omega
  ·rw[ht]
   split
   ·omega
   ·rw[List.length_append,List.length_singleton];omega
 refine lN 0 c3 (a) Tryz.func186 fun hl_0=>lN 1 c3 (b) Tryz.func186 fun hl_1=>sC B3 [.tmp 6] 116 Tryz.func186 ?_
 intro e0 cx
 refine sq<|rG cx [0,1,2] [] z0<|sn<|sq<|rG cx [0,1,2,7] [] z0<|sn<|sq<|rG cx [0,1,2,7,8,9] [] z0<|sn<|sq<|rG cx [0,1,2,7,8,9,10] [] z0<|sn<|sq<|bL 0<|I7 7 1007 3 1 (σ':=⟨[(0,.sl (List.map c3 a)),(1,.sl (List.map c3 b)),(2,.i .i64 (rule)),(7,.own 1007 0),(8,.i .i64 ((0:Int))),(9,.i .i64 ((0:Int))),(10,.b (false))],[(1007,⟨0,3,.row 1 (List.map c3 [])⟩)]⟩) (by kernel_rfl)<|sL (X:=Int×Int×Bool×List Int) (fun x=>⟨[(0,.sl (List.map c3 a)),(1,.sl (List.map c3 b)),(2,.i .i64 (rule)),(7,.own 1007 0),(8,.i .i64 (x.1)),(9,.i .i64 (x.2.1)),(10,.b (x.2.2.1))],[(1007,⟨0,3,.row 1 (List.map c3 x.2.2.2)⟩)]⟩) (fun x ↦ decCb a b x.1 x.2.1 x.2.2.1 x.2.2.2) (fun x ↦ A3f a b (L7 rule) x.1 x.2.1 x.2.2.1 x.2.2.2) [0,1,2,7,8,9,10] [1007] (((0:Int),(0:Int),false,[])) (show A3f a b (L7 rule) (0:Int) (0:Int) false []from(by exact⟨by omega,by omega,by omega,by omega,by simp,rfl⟩)) ?_
 rintro⟨i0,j1,w2,t3⟩ h_4
 obtain⟨hh5,hh6,hh7,hh8,hh9,hh10⟩:0≤i0∧i0≤(↑a.length:Int)∧0≤j1∧j1≤(↑b.length:Int)∧(↑t3.length:Int)≤i0+j1∧A1r (L7 rule) a b i0 j1 w2 t3:=h_4
 refine sq<|sq<|A9 (σ':=⟨[(0,.sl (List.map c3 a)),(1,.sl (List.map c3 b)),(2,.i .i64 (rule)),(7,.own 1007 0),(8,.i .i64 (i0)),(9,.i .i64 (j1)),(10,.b (w2)),(24,.b (decide (i0 <(↑a.length:Int)∨j1 <(↑b.length:Int))))],[(1007,⟨0,3,.row 1 (List.map c3 t3)⟩)]⟩) ?_ ?_
 refine A4 (i0 <(↑a.length:Int)) (fun h_12=>?_) (fun h_12=>?_)
 refine rG cx [0,1,2,7,8,9,10,24] [1007] (tL 2 c3 a (tT 3 (A3 h_12) (tD 9 true (i0 <(↑a.length:Int)∨j1 <(↑b.length:Int)) (by simp only [eq_true h_12,tsl]) z0))) ?_
 exact⟨rfl,by kernel_rfl⟩
 refine rG cx [0,1,2,7,8,9,10,24] [1007] (tL 2 c3 a (tT 3 (A0 h_12) (tL 7 c3 b (tB 8 (j1 <(↑b.length:Int)) (tD 9 (decide (j1 <(↑b.length:Int))) (i0 <(↑a.length:Int)∨j1 <(↑b.length:Int)) (by simp only [eq_false h_12,tsl]) z0))))) ?_
 exact⟨rfl,by kernel_rfl⟩
 refine sn<|dC (i0 <(↑a.length:Int)∨j1 <(↑b.length:Int)) (fun h13=>?_) fun h13=>?_
 refine sK<|sn<|bL 1<|sq<|rG cx [0,1,2,7,8,9,10] [1007] z0<|sn<|sq<|sq<|A9 (σ':=⟨[(0,.sl (List.map c3 a)),(1,.sl (List.map c3 b)),(2,.i .i64 (rule)),(7,.own 1007 0),(8,.i .i64 (i0)),(9,.i .i64 (j1)),(10,.b (w2)),(45,.b (decide (j1=(↑b.length:Int)∨i0 <(↑a.length:Int)∧a[i0.toNat]! < b[j1.toNat]!)))],[(1007,⟨0,3,.row 1 (List.map c3 t3)⟩)]⟩) ?_ ?_
 refine A4 (j1=(↑b.length:Int)) (fun h_15=>?_) (fun h_15=>?_)
 refine rA cx [0,1,2,7,8,9,10,45] [1007] (tL 2 c3 b (tT 3 (A3 h_15) (tD 20 true (j1=(↑b.length:Int)∨i0 <(↑a.length:Int)∧a[i0.toNat]! < b[j1.toNat]!) (by simp only [eq_true h_15,tsl]) z0))) ?_
 exact⟨rfl,by kernel_rfl⟩
 refine A4 (i0 <(↑a.length:Int)) (fun h_16=>?_) (fun h_16=>?_)
 refine rA cx [0,1,2,7,8,9,10,45] [1007] (tL 2 c3 b (tT 3 (A0 h_15) (tL 7 c3 a (tT 8 (A3 h_16) (fA (0≤i0) (fG c3 a i0.toNat (fR 1 (fA (0≤j1) (fG c3 b j1.toNat (fR 1 (tB 18 (a[i0.toNat]! < b[j1.toNat]!) (tD 20 (decide (a[i0.toNat]! < b[j1.toNat]!)) (j1=(↑b.length:Int)∨i0 <(↑a.length:Int)∧a[i0.toNat]! < b[j1.toNat]!) (by simp only [eq_false h_15,eq_true h_16,tsl]) (oR 12 (c3 a[i0.toNat]!) (oR 16 (c3 b[j1.toNat]!) z0)))))))))))))) ?_
 exact⟨rfl,by kernel_rfl⟩
 refine rA cx [0,1,2,7,8,9,10,45] [1007] (tL 2 c3 b (tT 3 (A0 h_15) (tL 7 c3 a (tT 8 (A0 h_16) (tD 20 false (j1=(↑b.length:Int)∨i0 <(↑a.length:Int)∧a[i0.toNat]! < b[j1.toNat]!) (by simp only [eq_false h_15,eq_false h_16,tsl]) z0))))) ?_
 exact⟨rfl,by kernel_rfl⟩
 refine sn<|dC (j1=(↑b.length:Int)∨i0 <(↑a.length:Int)∧a[i0.toNat]! < b[j1.toNat]!) (fun h17=>?_) fun h17=>?_
 refine rG cx [0,1,2,7,8,9,10,11] [1007] (fA (0≤i0) (fG c3 a i0.toNat (fR 1 (oR 2 (c3 a[i0.toNat]!) z0))))<|sn<|sq<|sq<|A4 (i0 <(↑a.length:Int)) (fun h18=>?_) (fun h18=>absurd (by omega) h18)
 refine rG cx [0,1,2,7,8,9,10,11,65] [1007] (tL 2 c3 a (tT 3 (A3 h18) (fA (0≤i0) (fG c3 a i0.toNat (fR 1 (tT 10 (A5t:AV.b (a[i0.toNat]! == a[i0.toNat]!)=AV.b true) (oR 7 (c3 a[i0.toNat]!) z0)))))))<|sn<|A17 (by kernel_rfl) (by kernel_rfl)<|rG cx [0,1,2,7,8,9,10,11] [1007] (tW 1 (i0+1) z0)<|sn<|sq<|sq<|A9 (σ':=⟨[(0,.sl (List.map c3 a)),(1,.sl (List.map c3 b)),(2,.i .i64 (rule)),(7,.own 1007 0),(8,.i .i64 (i0+1)),(9,.i .i64 (j1)),(10,.b (w2)),(11,.i .i64 (a[i0.toNat]!)),(79,.b (decide (j1 <(↑b.length:Int)∧b[j1.toNat]! = a[i0.toNat]!)))],[(1007,⟨0,3,.row 1 (List.map c3 t3)⟩)]⟩) ?_ ?_
 refine A4 (j1 <(↑b.length:Int)) (fun h_20=>?_) (fun h_20=>?_)
 refine rG cx [0,1,2,7,8,9,10,11,79] [1007] (tL 2 c3 b (tT 3 (A3 h_20) (fA (0≤j1) (fG c3 b j1.toNat (fR 1 (tB 10 (b[j1.toNat]! = a[i0.toNat]!) (tD 11 (decide (b[j1.toNat]! = a[i0.toNat]!)) (j1 <(↑b.length:Int)∧b[j1.toNat]! = a[i0.toNat]!) (by simp only [eq_true h_20,tsl]) (oR 7 (c3 b[j1.toNat]!) z0)))))))) ?_
 exact⟨rfl,by kernel_rfl⟩
 refine rG cx [0,1,2,7,8,9,10,11,79] [1007] (tL 2 c3 b (tT 3 (A0 h_20) (tD 11 false (j1 <(↑b.length:Int)∧b[j1.toNat]! = a[i0.toNat]!) (by simp only [eq_false h_20,tsl]) z0))) ?_
 exact⟨rfl,by kernel_rfl⟩
 refine sn<|dC (j1 <(↑b.length:Int)∧b[j1.toNat]! = a[i0.toNat]!) (fun h21=>?_) fun h21=>?_
 refine rG cx [0,1,2,7,8,9,10,11] [1007] (tW 1 (j1+1) z0)<|sn<|sq<|rG cx [0,1,2,7,8,9,10,11,12,13] [1007] (tI 1 ((i0+1).tmod (2:Int)) (tB 2 ((i0+1).tmod (2:Int)=(1:Int)) (tI 4 ((j1+1).tmod (2:Int)) (tB 5 ((j1+1).tmod (2:Int)=(1:Int)) z0))))<|sn<|sq<|A4 (rule=1) (fun h22=>?_) (fun h22=>absurd (by omega) h22)
 refine A4 ((i0+1).tmod (2:Int)=(1:Int)) (fun h23=>?_) (fun h23=>absurd (by omega) h23)
 refine A4 ((j1+1).tmod (2:Int)=(1:Int)) (fun h24=>?_) (fun h24=>absurd (by omega) h24)
 refine rG cx [0,1,2,7,8,9,10,11,14] [1007] (tT 1 (A3 h22) (tT 3 (A3 h23) (tT 6 (A3 h24) z0)))<|sn<|sq<|rG cx [0,1,2,7,8,9,10,11,14,109] [1007] (tT 2 (A23:(AV.b !true == w2)=AV.b (decide ¬true=w2)) z0)<|sn<|dC (¬true=w2) (fun h25=>?_) fun h25=>?_
 refine sq<|rG cx [0,1,2,7,8,9,14] [1007] (fR 3 (fR 1 (fR 1 (fX c3 [a[i0.toNat]!] 1 (fO ((List.map c3 t3).length+(List.map c3 [a[i0.toNat]!]).length≤maxLen) (fO (((List.map c3 t3).length+(List.map c3 [a[i0.toNat]!]).length)*(8:Nat)≤(140737488355328:Nat)) (fM c3 t3 [a[i0.toNat]!] (oV 3 { rows:=some (List.map c3 (t3++[a[i0.toNat]!])) } z0))))))))<|sn<|rG cx [0,1,2,7,8,9,10] [1007] z0<|bN<|sn<|nX ((i0+1,j1+1,true,t3++[a[i0.toNat]!])) (show((↑a.length:Int)-(i0+1)+((↑b.length:Int)-(j1+1))).toNat <((↑a.length:Int)-i0+((↑b.length:Int)-j1)).toNat from(by omega)) (show A3f a b (L7 rule) (i0+1) (j1+1) true (t3++[a[i0.toNat]!])from ?g1);rotate_left
 refine sK<|bN<|sn<|nX ((i0+1,j1+1,w2,t3)) (show((↑a.length:Int)-(i0+1)+((↑b.length:Int)-(j1+1))).toNat <((↑a.length:Int)-i0+((↑b.length:Int)-j1)).toNat from(by omega)) (show A3f a b (L7 rule) (i0+1) (j1+1) w2 t3 from ?g2);rotate_left
 refine sK<|sn<|sq<|rG cx [0,1,2,7,8,9,10,11,12,13] [1007] (tI 1 ((i0+1).tmod (2:Int)) (tB 2 ((i0+1).tmod (2:Int)=(1:Int)) (tI 4 (j1.tmod (2:Int)) (tB 5 (j1.tmod (2:Int)=(1:Int)) z0))))<|sn<|sq<|A9 (σ':=⟨[(0,.sl (List.map c3 a)),(1,.sl (List.map c3 b)),(2,.i .i64 (rule)),(7,.own 1007 0),(8,.i .i64 (i0+1)),(9,.i .i64 (j1)),(10,.b (w2)),(11,.i .i64 (a[i0.toNat]!)),(14,.b (decide (rule=1∧(i0+1).tmod (2:Int)=(1:Int)∧j1.tmod (2:Int)=(1:Int)∨¬rule=1∧rule=2∧(i0+1).tmod (2:Int)=(1:Int)∧¬j1.tmod (2:Int)=(1:Int))))],[(1007,⟨0,3,.row 1 (List.map c3 t3)⟩)]⟩) ?_ ?_
 refine A4 (rule=1) (fun h_27=>?_) (fun h_27=>?_)
 refine A4 ((i0+1).tmod (2:Int)=(1:Int)) (fun h_28=>?_) (fun h_28=>?_)
 refine A4 (j1.tmod (2:Int)=(1:Int)) (fun h_29=>?_) (fun h_29=>?_)
 refine rG cx [0,1,2,7,8,9,10,11,14] [1007] (tT 1 (A3 h_27) (tT 3 (A3 h_28) (tT 6 (A3 h_29) (tD 19 true (rule=1∧(i0+1).tmod (2:Int)=(1:Int)∧j1.tmod (2:Int)=(1:Int)∨¬rule=1∧rule=2∧(i0+1).tmod (2:Int)=(1:Int)∧¬j1.tmod (2:Int)=(1:Int)) (by simp only [eq_true h_27,eq_true h_28,eq_true h_29,tsl]) z0)))) ?_
 exact⟨rfl,by kernel_rfl⟩
 refine A4 (rule=2) (fun h_30=>absurd h_30 (by omega)) (fun h_30=>?_)
 refine rG cx [0,1,2,7,8,9,10,11,14] [1007] (tT 1 (A3 h_27) (tT 3 (A3 h_28) (tT 6 (A0 h_29) (tT 10 (A0 h_30) (tD 19 false (rule=1∧(i0+1).tmod (2:Int)=(1:Int)∧j1.tmod (2:Int)=(1:Int)∨¬rule=1∧rule=2∧(i0+1).tmod (2:Int)=(1:Int)∧¬j1.tmod (2:Int)=(1:Int)) (by simp only [eq_true h_27,eq_true h_28,eq_false h_29,tsl]) z0))))) ?_
 exact⟨rfl,by kernel_rfl⟩
 refine A4 (rule=2) (fun h_31=>absurd h_31 (by omega)) (fun h_31=>?_)
 refine rG cx [0,1,2,7,8,9,10,11,14] [1007] (tT 1 (A3 h_27) (tT 3 (A0 h_28) (tT 10 (A0 h_31) (tD 19 false (rule=1∧(i0+1).tmod (2:Int)=(1:Int)∧j1.tmod (2:Int)=(1:Int)∨¬rule=1∧rule=2∧(i0+1).tmod (2:Int)=(1:Int)∧¬j1.tmod (2:Int)=(1:Int)) (by simp only [eq_true h_27,eq_false h_28,tsl]) z0)))) ?_
 exact⟨rfl,by kernel_rfl⟩
 refine A4 (rule=2) (fun h_32=>?_) (fun h_32=>?_)
 refine A4 ((i0+1).tmod (2:Int)=(1:Int)) (fun h_33=>?_) (fun h_33=>?_)
 refine rG cx [0,1,2,7,8,9,10,11,14] [1007] (tT 1 (A0 h_27) (tT 10 (A3 h_32) (tT 12 (A3 h_33) (tQ 16 (j1.tmod (2:Int)=(1:Int)) (tD 19 (decide ¬j1.tmod (2:Int)=(1:Int)) (rule=1∧(i0+1).tmod (2:Int)=(1:Int)∧j1.tmod (2:Int)=(1:Int)∨¬rule=1∧rule=2∧(i0+1).tmod (2:Int)=(1:Int)∧¬j1.tmod (2:Int)=(1:Int)) (by simp only [eq_false h_27,eq_true h_32,eq_true h_33,tsl]) z0))))) ?_
 exact⟨rfl,by kernel_rfl⟩
 refine rG cx [0,1,2,7,8,9,10,11,14] [1007] (tT 1 (A0 h_27) (tT 10 (A3 h_32) (tT 12 (A0 h_33) (tD 19 false (rule=1∧(i0+1).tmod (2:Int)=(1:Int)∧j1.tmod (2:Int)=(1:Int)∨¬rule=1∧rule=2∧(i0+1).tmod (2:Int)=(1:Int)∧¬j1.tmod (2:Int)=(1:Int)) (by simp only [eq_false h_27,eq_true h_32,eq_false h_33,tsl]) z0)))) ?_
 exact⟨rfl,by kernel_rfl⟩
 refine rG cx [0,1,2,7,8,9,10,11,14] [1007] (tT 1 (A0 h_27) (tT 10 (A0 h_32) (tD 19 false (rule=1∧(i0+1).tmod (2:Int)=(1:Int)∧j1.tmod (2:Int)=(1:Int)∨¬rule=1∧rule=2∧(i0+1).tmod (2:Int)=(1:Int)∧¬j1.tmod (2:Int)=(1:Int)) (by simp only [eq_false h_27,eq_false h_32,tsl]) z0))) ?_
 exact⟨rfl,by kernel_rfl⟩
 refine sn<|sq<|rG cx [0,1,2,7,8,9,10,11,14,109] [1007] (tT 2 (A23:(AV.b !decide (rule=1∧(i0+1).tmod (2:Int)=(1:Int)∧j1.tmod (2:Int)=(1:Int)∨¬rule=1∧rule=2∧(i0+1).tmod (2:Int)=(1:Int)∧¬j1.tmod (2:Int)=(1:Int)) == w2)=AV.b (decide ¬decide (rule=1∧(i0+1).tmod (2:Int)=(1:Int)∧j1.tmod (2:Int)=(1:Int)∨¬rule=1∧rule=2∧(i0+1).tmod (2:Int)=(1:Int)∧¬j1.tmod (2:Int)=(1:Int))=w2)) z0)<|sn<|dC (¬decide (rule=1∧(i0+1).tmod (2:Int)=(1:Int)∧j1.tmod (2:Int)=(1:Int)∨¬rule=1∧rule=2∧(i0+1).tmod (2:Int)=(1:Int)∧¬j1.tmod (2:Int)=(1:Int))=w2) (fun h34=>?_) fun h34=>?_
 refine sq<|rG cx [0,1,2,7,8,9,14] [1007] (fR 3 (fR 1 (fR 1 (fX c3 [a[i0.toNat]!] 1 (fS c3 t3 c3 [a[i0.toNat]!] (fP (((List.map c3 t3).length+(List.map c3 [a[i0.toNat]!]).length)*(8:Nat)≤(140737488355328:Nat)) (by(simp only [Go.maxLen,List.length_map,List.length_append,List.length_cons,List.length_nil];omega)) (fM c3 t3 [a[i0.toNat]!] (oV 3 { rows:=some (List.map c3 (t3++[a[i0.toNat]!])) } z0))))))))<|sn<|rG cx [0,1,2,7,8,9,10] [1007] z0<|bN<|sn<|nX ((i0+1,j1,decide (rule=1∧(i0+1).tmod (2:Int)=(1:Int)∧j1.tmod (2:Int)=(1:Int)∨¬rule=1∧rule=2∧(i0+1).tmod (2:Int)=(1:Int)∧¬j1.tmod (2:Int)=(1:Int)),t3++[a[i0.toNat]!])) (show((↑a.length:Int)-(i0+1)+((↑b.length:Int)-j1)).toNat <((↑a.length:Int)-i0+((↑b.length:Int)-j1)).toNat from(by omega)) (show A3f a b (L7 rule) (i0+1) j1 (decide (rule=1∧(i0+1).tmod (2:Int)=(1:Int)∧j1.tmod (2:Int)=(1:Int)∨¬rule=1∧rule=2∧(i0+1).tmod (2:Int)=(1:Int)∧¬j1.tmod (2:Int)=(1:Int))) (t3++[a[i0.toNat]!])from ?g3);rotate_left
 refine sK<|bN<|sn<|nX ((i0+1,j1,w2,t3)) (show((↑a.length:Int)-(i0+1)+((↑b.length:Int)-j1)).toNat <((↑a.length:Int)-i0+((↑b.length:Int)-j1)).toNat from(by omega)) (show A3f a b (L7 rule) (i0+1) j1 w2 t3 from ?g4);rotate_left
 refine rG cx [0,1,2,7,8,9,10,11] [1007] (fA (0≤j1) (fG c3 b j1.toNat (fR 1 (oR 2 (c3 b[j1.toNat]!) z0))))<|sn<|sq<|sq<|A9 (σ':=⟨[(0,.sl (List.map c3 a)),(1,.sl (List.map c3 b)),(2,.i .i64 (rule)),(7,.own 1007 0),(8,.i .i64 (i0)),(9,.i .i64 (j1)),(10,.b (w2)),(11,.i .i64 (b[j1.toNat]!)),(65,.b (decide (i0 <(↑a.length:Int)∧a[i0.toNat]! = b[j1.toNat]!)))],[(1007,⟨0,3,.row 1 (List.map c3 t3)⟩)]⟩) ?_ ?_
 refine A4 (i0 <(↑a.length:Int)) (fun h_36=>?_) (fun h_36=>?_)
 refine rG cx [0,1,2,7,8,9,10,11,65] [1007] (tL 2 c3 a (tT 3 (A3 h_36) (fA (0≤i0) (fG c3 a i0.toNat (fR 1 (tB 10 (a[i0.toNat]! = b[j1.toNat]!) (tD 11 (decide (a[i0.toNat]! = b[j1.toNat]!)) (i0 <(↑a.length:Int)∧a[i0.toNat]! = b[j1.toNat]!) (by simp only [eq_true h_36,tsl]) (oR 7 (c3 a[i0.toNat]!) z0)))))))) ?_
 exact⟨rfl,by kernel_rfl⟩
 refine rG cx [0,1,2,7,8,9,10,11,65] [1007] (tL 2 c3 a (tT 3 (A0 h_36) (tD 11 false (i0 <(↑a.length:Int)∧a[i0.toNat]! = b[j1.toNat]!) (by simp only [eq_false h_36,tsl]) z0))) ?_
 exact⟨rfl,by kernel_rfl⟩
 refine sn<|dC (i0 <(↑a.length:Int)∧a[i0.toNat]! = b[j1.toNat]!) (fun h37=>?_) fun h37=>?_
 refine rG cx [0,1,2,7,8,9,10,11] [1007] (tW 1 (i0+1) z0)<|sn<|sq<|sq<|A4 (j1 <(↑b.length:Int)) (fun h38=>?_) (fun h38=>absurd (by omega) h38)
 refine rG cx [0,1,2,7,8,9,10,11,79] [1007] (tL 2 c3 b (tT 3 (A3 h38) (fA (0≤j1) (fG c3 b j1.toNat (fR 1 (tT 10 (A5t:AV.b (b[j1.toNat]! == b[j1.toNat]!)=AV.b true) (oR 7 (c3 b[j1.toNat]!) z0)))))))<|sn<|A17 (by kernel_rfl) (by kernel_rfl)<|rG cx [0,1,2,7,8,9,10,11] [1007] (tW 1 (j1+1) z0)<|sn<|sq<|rG cx [0,1,2,7,8,9,10,11,12,13] [1007] (tI 1 ((i0+1).tmod (2:Int)) (tB 2 ((i0+1).tmod (2:Int)=(1:Int)) (tI 4 ((j1+1).tmod (2:Int)) (tB 5 ((j1+1).tmod (2:Int)=(1:Int)) z0))))<|sn<|sq<|A9 (σ':=⟨[(0,.sl (List.map c3 a)),(1,.sl (List.map c3 b)),(2,.i .i64 (rule)),(7,.own 1007 0),(8,.i .i64 (i0+1)),(9,.i .i64 (j1+1)),(10,.b (w2)),(11,.i .i64 (b[j1.toNat]!)),(14,.b (decide (rule=1∧(i0+1).tmod (2:Int)=(1:Int)∧(j1+1).tmod (2:Int)=(1:Int)∨¬rule=1∧rule=2∧(i0+1).tmod (2:Int)=(1:Int)∧¬(j1+1).tmod (2:Int)=(1:Int))))],[(1007,⟨0,3,.row 1 (List.map c3 t3)⟩)]⟩) ?_ ?_
 refine A4 (rule=1) (fun h_40=>?_) (fun h_40=>?_)
 refine A4 ((i0+1).tmod (2:Int)=(1:Int)) (fun h_41=>?_) (fun h_41=>?_)
 refine A4 ((j1+1).tmod (2:Int)=(1:Int)) (fun h_42=>?_) (fun h_42=>?_)
 refine rG cx [0,1,2,7,8,9,10,11,14] [1007] (tT 1 (A3 h_40) (tT 3 (A3 h_41) (tT 6 (A3 h_42) (tD 19 true (rule=1∧(i0+1).tmod (2:Int)=(1:Int)∧(j1+1).tmod (2:Int)=(1:Int)∨¬rule=1∧rule=2∧(i0+1).tmod (2:Int)=(1:Int)∧¬(j1+1).tmod (2:Int)=(1:Int)) (by simp only [eq_true h_40,eq_true h_41,eq_true h_42,tsl]) z0)))) ?_
 exact⟨rfl,by kernel_rfl⟩
 refine A4 (rule=2) (fun h_43=>absurd h_43 (by omega)) (fun h_43=>?_)
 refine rG cx [0,1,2,7,8,9,10,11,14] [1007] (tT 1 (A3 h_40) (tT 3 (A3 h_41) (tT 6 (A0 h_42) (tT 10 (A0 h_43) (tD 19 false (rule=1∧(i0+1).tmod (2:Int)=(1:Int)∧(j1+1).tmod (2:Int)=(1:Int)∨¬rule=1∧rule=2∧(i0+1).tmod (2:Int)=(1:Int)∧¬(j1+1).tmod (2:Int)=(1:Int)) (by simp only [eq_true h_40,eq_true h_41,eq_false h_42,tsl]) z0))))) ?_
 exact⟨rfl,by kernel_rfl⟩
 refine A4 (rule=2) (fun h_44=>absurd h_44 (by omega)) (fun h_44=>?_)
 refine rG cx [0,1,2,7,8,9,10,11,14] [1007] (tT 1 (A3 h_40) (tT 3 (A0 h_41) (tT 10 (A0 h_44) (tD 19 false (rule=1∧(i0+1).tmod (2:Int)=(1:Int)∧(j1+1).tmod (2:Int)=(1:Int)∨¬rule=1∧rule=2∧(i0+1).tmod (2:Int)=(1:Int)∧¬(j1+1).tmod (2:Int)=(1:Int)) (by simp only [eq_true h_40,eq_false h_41,tsl]) z0)))) ?_
 exact⟨rfl,by kernel_rfl⟩
 refine A4 (rule=2) (fun h_45=>?_) (fun h_45=>?_)
 refine A4 ((i0+1).tmod (2:Int)=(1:Int)) (fun h_46=>?_) (fun h_46=>?_)
 refine rG cx [0,1,2,7,8,9,10,11,14] [1007] (tT 1 (A0 h_40) (tT 10 (A3 h_45) (tT 12 (A3 h_46) (tQ 16 ((j1+1).tmod (2:Int)=(1:Int)) (tD 19 (decide ¬(j1+1).tmod (2:Int)=(1:Int)) (rule=1∧(i0+1).tmod (2:Int)=(1:Int)∧(j1+1).tmod (2:Int)=(1:Int)∨¬rule=1∧rule=2∧(i0+1).tmod (2:Int)=(1:Int)∧¬(j1+1).tmod (2:Int)=(1:Int)) (by simp only [eq_false h_40,eq_true h_45,eq_true h_46,tsl]) z0))))) ?_
 exact⟨rfl,by kernel_rfl⟩
 refine rG cx [0,1,2,7,8,9,10,11,14] [1007] (tT 1 (A0 h_40) (tT 10 (A3 h_45) (tT 12 (A0 h_46) (tD 19 false (rule=1∧(i0+1).tmod (2:Int)=(1:Int)∧(j1+1).tmod (2:Int)=(1:Int)∨¬rule=1∧rule=2∧(i0+1).tmod (2:Int)=(1:Int)∧¬(j1+1).tmod (2:Int)=(1:Int)) (by simp only [eq_false h_40,eq_true h_45,eq_false h_46,tsl]) z0)))) ?_
 exact⟨rfl,by kernel_rfl⟩
 refine rG cx [0,1,2,7,8,9,10,11,14] [1007] (tT 1 (A0 h_40) (tT 10 (A0 h_45) (tD 19 false (rule=1∧(i0+1).tmod (2:Int)=(1:Int)∧(j1+1).tmod (2:Int)=(1:Int)∨¬rule=1∧rule=2∧(i0+1).tmod (2:Int)=(1:Int)∧¬(j1+1).tmod (2:Int)=(1:Int)) (by simp only [eq_false h_40,eq_false h_45,tsl]) z0))) ?_
 exact⟨rfl,by kernel_rfl⟩
 refine sn<|sq<|rG cx [0,1,2,7,8,9,10,11,14,109] [1007] (tT 2 (A23:(AV.b !decide (rule=1∧(i0+1).tmod (2:Int)=(1:Int)∧(j1+1).tmod (2:Int)=(1:Int)∨¬rule=1∧rule=2∧(i0+1).tmod (2:Int)=(1:Int)∧¬(j1+1).tmod (2:Int)=(1:Int)) == w2)=AV.b (decide ¬decide (rule=1∧(i0+1).tmod (2:Int)=(1:Int)∧(j1+1).tmod (2:Int)=(1:Int)∨¬rule=1∧rule=2∧(i0+1).tmod (2:Int)=(1:Int)∧¬(j1+1).tmod (2:Int)=(1:Int))=w2)) z0)<|sn<|dC (¬decide (rule=1∧(i0+1).tmod (2:Int)=(1:Int)∧(j1+1).tmod (2:Int)=(1:Int)∨¬rule=1∧rule=2∧(i0+1).tmod (2:Int)=(1:Int)∧¬(j1+1).tmod (2:Int)=(1:Int))=w2) (fun h47=>?_) fun h47=>?_
 refine sq<|rG cx [0,1,2,7,8,9,14] [1007] (fR 3 (fR 1 (fR 1 (fX c3 [b[j1.toNat]!] 1 (fS c3 t3 c3 [b[j1.toNat]!] (fP (((List.map c3 t3).length+(List.map c3 [b[j1.toNat]!]).length)*(8:Nat)≤(140737488355328:Nat)) (by(simp only [Go.maxLen,List.length_map,List.length_append,List.length_cons,List.length_nil];omega)) (fM c3 t3 [b[j1.toNat]!] (oV 3 { rows:=some (List.map c3 (t3++[b[j1.toNat]!])) } z0))))))))<|sn<|rG cx [0,1,2,7,8,9,10] [1007] z0<|bN<|sn<|nX ((i0+1,j1+1,decide (rule=1∧(i0+1).tmod (2:Int)=(1:Int)∧(j1+1).tmod (2:Int)=(1:Int)∨¬rule=1∧rule=2∧(i0+1).tmod (2:Int)=(1:Int)∧¬(j1+1).tmod (2:Int)=(1:Int)),t3++[b[j1.toNat]!])) (show((↑a.length:Int)-(i0+1)+((↑b.length:Int)-(j1+1))).toNat <((↑a.length:Int)-i0+((↑b.length:Int)-j1)).toNat from(by omega)) (show A3f a b (L7 rule) (i0+1) (j1+1) (decide (rule=1∧(i0+1).tmod (2:Int)=(1:Int)∧(j1+1).tmod (2:Int)=(1:Int)∨¬rule=1∧rule=2∧(i0+1).tmod (2:Int)=(1:Int)∧¬(j1+1).tmod (2:Int)=(1:Int))) (t3++[b[j1.toNat]!])from ?g5);rotate_left
 refine sK<|bN<|sn<|nX ((i0+1,j1+1,w2,t3)) (show((↑a.length:Int)-(i0+1)+((↑b.length:Int)-(j1+1))).toNat <((↑a.length:Int)-i0+((↑b.length:Int)-j1)).toNat from(by omega)) (show A3f a b (L7 rule) (i0+1) (j1+1) w2 t3 from ?g6);rotate_left
 refine sK<|sn<|sq<|sq<|A4 (j1 <(↑b.length:Int)) (fun h48=>?_) (fun h48=>absurd (by omega) h48)
 refine rG cx [0,1,2,7,8,9,10,11,79] [1007] (tL 2 c3 b (tT 3 (A3 h48) (fA (0≤j1) (fG c3 b j1.toNat (fR 1 (tT 10 (A5t:AV.b (b[j1.toNat]! == b[j1.toNat]!)=AV.b true) (oR 7 (c3 b[j1.toNat]!) z0)))))))<|sn<|A17 (by kernel_rfl) (by kernel_rfl)<|rG cx [0,1,2,7,8,9,10,11] [1007] (tW 1 (j1+1) z0)<|sn<|sq<|rG cx [0,1,2,7,8,9,10,11,12,13] [1007] (tI 1 (i0.tmod (2:Int)) (tB 2 (i0.tmod (2:Int)=(1:Int)) (tI 4 ((j1+1).tmod (2:Int)) (tB 5 ((j1+1).tmod (2:Int)=(1:Int)) z0))))<|sn<|sq<|A9 (σ':=⟨[(0,.sl (List.map c3 a)),(1,.sl (List.map c3 b)),(2,.i .i64 (rule)),(7,.own 1007 0),(8,.i .i64 (i0)),(9,.i .i64 (j1+1)),(10,.b (w2)),(11,.i .i64 (b[j1.toNat]!)),(14,.b (decide (rule=1∧i0.tmod (2:Int)=(1:Int)∧(j1+1).tmod (2:Int)=(1:Int)∨¬rule=1∧rule=2∧i0.tmod (2:Int)=(1:Int)∧¬(j1+1).tmod (2:Int)=(1:Int))))],[(1007,⟨0,3,.row 1 (List.map c3 t3)⟩)]⟩) ?_ ?_
 refine A4 (rule=1) (fun h_50=>?_) (fun h_50=>?_)
 refine A4 (i0.tmod (2:Int)=(1:Int)) (fun h_51=>?_) (fun h_51=>?_)
 refine A4 ((j1+1).tmod (2:Int)=(1:Int)) (fun h_52=>?_) (fun h_52=>?_)
 refine rG cx [0,1,2,7,8,9,10,11,14] [1007] (tT 1 (A3 h_50) (tT 3 (A3 h_51) (tT 6 (A3 h_52) (tD 19 true (rule=1∧i0.tmod (2:Int)=(1:Int)∧(j1+1).tmod (2:Int)=(1:Int)∨¬rule=1∧rule=2∧i0.tmod (2:Int)=(1:Int)∧¬(j1+1).tmod (2:Int)=(1:Int)) (by simp only [eq_true h_50,eq_true h_51,eq_true h_52,tsl]) z0)))) ?_
 exact⟨rfl,by kernel_rfl⟩
 refine A4 (rule=2) (fun h_53=>absurd h_53 (by omega)) (fun h_53=>?_)
 refine rG cx [0,1,2,7,8,9,10,11,14] [1007] (tT 1 (A3 h_50) (tT 3 (A3 h_51) (tT 6 (A0 h_52) (tT 10 (A0 h_53) (tD 19 false (rule=1∧i0.tmod (2:Int)=(1:Int)∧(j1+1).tmod (2:Int)=(1:Int)∨¬rule=1∧rule=2∧i0.tmod (2:Int)=(1:Int)∧¬(j1+1).tmod (2:Int)=(1:Int)) (by simp only [eq_true h_50,eq_true h_51,eq_false h_52,tsl]) z0))))) ?_
 exact⟨rfl,by kernel_rfl⟩
 refine A4 (rule=2) (fun h_54=>absurd h_54 (by omega)) (fun h_54=>?_)
 refine rG cx [0,1,2,7,8,9,10,11,14] [1007] (tT 1 (A3 h_50) (tT 3 (A0 h_51) (tT 10 (A0 h_54) (tD 19 false (rule=1∧i0.tmod (2:Int)=(1:Int)∧(j1+1).tmod (2:Int)=(1:Int)∨¬rule=1∧rule=2∧i0.tmod (2:Int)=(1:Int)∧¬(j1+1).tmod (2:Int)=(1:Int)) (by simp only [eq_true h_50,eq_false h_51,tsl]) z0)))) ?_
 exact⟨rfl,by kernel_rfl⟩
 refine A4 (rule=2) (fun h_55=>?_) (fun h_55=>?_)
 refine A4 (i0.tmod (2:Int)=(1:Int)) (fun h_56=>?_) (fun h_56=>?_)
 refine rG cx [0,1,2,7,8,9,10,11,14] [1007] (tT 1 (A0 h_50) (tT 10 (A3 h_55) (tT 12 (A3 h_56) (tQ 16 ((j1+1).tmod (2:Int)=(1:Int)) (tD 19 (decide ¬(j1+1).tmod (2:Int)=(1:Int)) (rule=1∧i0.tmod (2:Int)=(1:Int)∧(j1+1).tmod (2:Int)=(1:Int)∨¬rule=1∧rule=2∧i0.tmod (2:Int)=(1:Int)∧¬(j1+1).tmod (2:Int)=(1:Int)) (by simp only [eq_false h_50,eq_true h_55,eq_true h_56,tsl]) z0))))) ?_
 exact⟨rfl,by kernel_rfl⟩
 refine rG cx [0,1,2,7,8,9,10,11,14] [1007] (tT 1 (A0 h_50) (tT 10 (A3 h_55) (tT 12 (A0 h_56) (tD 19 false (rule=1∧i0.tmod (2:Int)=(1:Int)∧(j1+1).tmod (2:Int)=(1:Int)∨¬rule=1∧rule=2∧i0.tmod (2:Int)=(1:Int)∧¬(j1+1).tmod (2:Int)=(1:Int)) (by simp only [eq_false h_50,eq_true h_55,eq_false h_56,tsl]) z0)))) ?_
 exact⟨rfl,by kernel_rfl⟩
 refine rG cx [0,1,2,7,8,9,10,11,14] [1007] (tT 1 (A0 h_50) (tT 10 (A0 h_55) (tD 19 false (rule=1∧i0.tmod (2:Int)=(1:Int)∧(j1+1).tmod (2:Int)=(1:Int)∨¬rule=1∧rule=2∧i0.tmod (2:Int)=(1:Int)∧¬(j1+1).tmod (2:Int)=(1:Int)) (by simp only [eq_false h_50,eq_false h_55,tsl]) z0))) ?_
 exact⟨rfl,by kernel_rfl⟩
 refine sn<|sq<|rG cx [0,1,2,7,8,9,10,11,14,109] [1007] (tT 2 (A23:(AV.b !decide (rule=1∧i0.tmod (2:Int)=(1:Int)∧(j1+1).tmod (2:Int)=(1:Int)∨¬rule=1∧rule=2∧i0.tmod (2:Int)=(1:Int)∧¬(j1+1).tmod (2:Int)=(1:Int)) == w2)=AV.b (decide ¬decide (rule=1∧i0.tmod (2:Int)=(1:Int)∧(j1+1).tmod (2:Int)=(1:Int)∨¬rule=1∧rule=2∧i0.tmod (2:Int)=(1:Int)∧¬(j1+1).tmod (2:Int)=(1:Int))=w2)) z0)<|sn<|dC (¬decide (rule=1∧i0.tmod (2:Int)=(1:Int)∧(j1+1).tmod (2:Int)=(1:Int)∨¬rule=1∧rule=2∧i0.tmod (2:Int)=(1:Int)∧¬(j1+1).tmod (2:Int)=(1:Int))=w2) (fun h57=>?_) fun h57=>?_
 refine sq<|rG cx [0,1,2,7,8,9,14] [1007] (fR 3 (fR 1 (fR 1 (fX c3 [b[j1.toNat]!] 1 (fS c3 t3 c3 [b[j1.toNat]!] (fP (((List.map c3 t3).length+(List.map c3 [b[j1.toNat]!]).length)*(8:Nat)≤(140737488355328:Nat)) (by(simp only [Go.maxLen,List.length_map,List.length_append,List.length_cons,List.length_nil];omega)) (fM c3 t3 [b[j1.toNat]!] (oV 3 { rows:=some (List.map c3 (t3++[b[j1.toNat]!])) } z0))))))))<|sn<|rG cx [0,1,2,7,8,9,10] [1007] z0<|bN<|sn<|nX ((i0,j1+1,decide (rule=1∧i0.tmod (2:Int)=(1:Int)∧(j1+1).tmod (2:Int)=(1:Int)∨¬rule=1∧rule=2∧i0.tmod (2:Int)=(1:Int)∧¬(j1+1).tmod (2:Int)=(1:Int)),t3++[b[j1.toNat]!])) (show((↑a.length:Int)-i0+((↑b.length:Int)-(j1+1))).toNat <((↑a.length:Int)-i0+((↑b.length:Int)-j1)).toNat from(by omega)) (show A3f a b (L7 rule) i0 (j1+1) (decide (rule=1∧i0.tmod (2:Int)=(1:Int)∧(j1+1).tmod (2:Int)=(1:Int)∨¬rule=1∧rule=2∧i0.tmod (2:Int)=(1:Int)∧¬(j1+1).tmod (2:Int)=(1:Int))) (t3++[b[j1.toNat]!])from ?g7);rotate_left
 refine sK<|bN<|sn<|nX ((i0,j1+1,w2,t3)) (show((↑a.length:Int)-i0+((↑b.length:Int)-(j1+1))).toNat <((↑a.length:Int)-i0+((↑b.length:Int)-j1)).toNat from(by omega)) (show A3f a b (L7 rule) i0 (j1+1) w2 t3 from ?g8);rotate_left
 refine eX 0<|nE<|nE<|bH<|sn<|sq<|rG cx [6] [1007] z0<|sn<|rT<|qR (.sl (List.map c3 t3)) (.eq (by rw[B1s (by omega) (by omega) hh10]))
 case g1=>revert i0 j1 w2 t3 hh5 hh6 hh7 hh8 hh9 hh10 h13 h17 h18 h21 h22 h23 h24 h25;intro i j w t h0 h1 h2 h3 h4 h5 h6 h7 h8 h9;exfalso;omega
 case g2=>revert i0 j1 w2 t3 hh5 hh6 hh7 hh8 hh9 hh10 h13 h17 h18 h21 h22 h23 h24 h25;intro i j w t h0 h1 h2 h3 h4 h5 h6 h7 h8 h9;exfalso;omega
 case g3 =>
  exact st hh5 hh6 hh7 hh8 hh9 hh10 h13 (u:=a[i0.toNat]!) (by rw[if_pos (by omega)]) (by rw[if_pos ⟨h18,rfl⟩]) (by rw[if_neg h21]) (by omega) (X3 (by omega) hh7) (by rw[if_neg h34])
 case g4 =>
  exact st hh5 hh6 hh7 hh8 hh9 hh10 h13 (u:=a[i0.toNat]!) (by rw[if_pos (by omega)]) (by rw[if_pos ⟨h18,rfl⟩]) (by rw[if_neg h21]) (by omega) (by rw[← X3 (by omega) hh7];exact(Classical.not_not.1 h34).symm) (by rw[if_pos rfl])
 case g5 =>
  exact st hh5 hh6 hh7 hh8 hh9 hh10 h13 (u:=b[j1.toNat]!) (by rw[if_neg (by omega)]) (by rw[if_pos h37]) (by rw[if_pos ⟨h38,rfl⟩]) (by omega) (X3 (by omega) (by omega)) (by rw[if_neg h47])
 case g6 =>
  exact st hh5 hh6 hh7 hh8 hh9 hh10 h13 (u:=b[j1.toNat]!) (by rw[if_neg (by omega)]) (by rw[if_pos h37]) (by rw[if_pos ⟨h38,rfl⟩]) (by omega) (by rw[← X3 (by omega) (by omega)];exact(Classical.not_not.1 h47).symm) (by rw[if_pos rfl])
 case g7 =>
  exact st hh5 hh6 hh7 hh8 hh9 hh10 h13 (u:=b[j1.toNat]!) (by rw[if_neg (by omega)]) (by rw[if_neg h37]) (by rw[if_pos ⟨h48,rfl⟩]) (by omega) (X3 hh5 (by omega)) (by rw[if_neg h57])
 case g8 =>
  exact st hh5 hh6 hh7 hh8 hh9 hh10 h13 (u:=b[j1.toNat]!) (by rw[if_neg (by omega)]) (by rw[if_neg h37]) (by rw[if_pos ⟨h48,rfl⟩]) (by omega) (by rw[← X3 hh5 (by omega)];exact(Classical.not_not.1 h57).symm) (by rw[if_pos rfl])
theorem B28 (U V : Nat → List Run) (hU : sepU U) (hV : sepU V) : Con Tryz.prog 125 [.agg (B6t (tnS U)), .agg (B6t (tnS V)), .i .i64 2] (.agg (B6t (tnS (Az4 U V)))) :=
  by
  refine sC B3 [.cell 6 144] 27 Tryz.func125 ?_
  intro e0 cx
  refine sq<|rG cx [2,3,4,6] [3,4,6] z0<|sn<|sq<|rG cx [2,3,4,6,7] [3,4,6,7] z0<|sn<|sq<|sq<|rG cx [2,3,4,6,7,8] [3,4,6,7] z0<|sn<|bL 0<|H3 3 ⟨0,144,.var [.sl (List.map c3 (tnS U (0))),.sl (List.map c3 (tnS U (1))),.sl (List.map c3 (tnS U (2))),.sl (List.map c3 (tnS U (3))),.sl (List.map c3 (tnS U (4))),.sl (List.map c3 (tnS U (5))),.sl (List.map c3 (tnS U (6))),.sl (List.map c3 (tnS U (7))),.sl (List.map c3 (tnS U (8))),.sl (List.map c3 (tnS U (9))),.sl (List.map c3 (tnS U (10))),.sl (List.map c3 (tnS U (11))),.sl (List.map c3 (tnS U (12))),.sl (List.map c3 (tnS U (13))),.sl (List.map c3 (tnS U (14))),.sl (List.map c3 (tnS U (15)))]⟩ [.sl (List.map c3 (tnS U (0))),.sl (List.map c3 (tnS U (1))),.sl (List.map c3 (tnS U (2))),.sl (List.map c3 (tnS U (3))),.sl (List.map c3 (tnS U (4))),.sl (List.map c3 (tnS U (5))),.sl (List.map c3 (tnS U (6))),.sl (List.map c3 (tnS U (7))),.sl (List.map c3 (tnS U (8))),.sl (List.map c3 (tnS U (9))),.sl (List.map c3 (tnS U (10))),.sl (List.map c3 (tnS U (11))),.sl (List.map c3 (tnS U (12))),.sl (List.map c3 (tnS U (13))),.sl (List.map c3 (tnS U (14))),.sl (List.map c3 (tnS U (15)))] (E9 c3 16 (tnS U)) (σ':=⟨[(2,.i .i64 ((2:Int))),(3,.ptr (3) (0) (0) (0)),(4,.ptr (4) (0) (0) (0)),(6,.ptr (6) (0) (0) (0)),(7,.ptr (7) (0) (0) (0)),(8,.i .i64 ((0:Int)))],[(3,⟨0,144,.arr (E9 c3 16 (tnS U))⟩),(4,⟨0,144,.var [.sl (List.map c3 (tnS V (0))),.sl (List.map c3 (tnS V (1))),.sl (List.map c3 (tnS V (2))),.sl (List.map c3 (tnS V (3))),.sl (List.map c3 (tnS V (4))),.sl (List.map c3 (tnS V (5))),.sl (List.map c3 (tnS V (6))),.sl (List.map c3 (tnS V (7))),.sl (List.map c3 (tnS V (8))),.sl (List.map c3 (tnS V (9))),.sl (List.map c3 (tnS V (10))),.sl (List.map c3 (tnS V (11))),.sl (List.map c3 (tnS V (12))),.sl (List.map c3 (tnS V (13))),.sl (List.map c3 (tnS V (14))),.sl (List.map c3 (tnS V (15)))]⟩),(6,⟨0,144,.var [.nl,.nl,.nl,.nl,.nl,.nl,.nl,.nl,.nl,.nl,.nl,.nl,.nl,.nl,.nl,.nl]⟩),(7,⟨0,144,.var [.nl,.nl,.nl,.nl,.nl,.nl,.nl,.nl,.nl,.nl,.nl,.nl,.nl,.nl,.nl,.nl]⟩)]⟩) (by kernel_rfl) (by kernel_rfl) (by kernel_rfl) (by kernel_rfl) (ZLe.of_eq (by kernel_rfl)) (by kernel_rfl)<|H3 4 ⟨0,144,.var [.sl (List.map c3 (tnS V (0))),.sl (List.map c3 (tnS V (1))),.sl (List.map c3 (tnS V (2))),.sl (List.map c3 (tnS V (3))),.sl (List.map c3 (tnS V (4))),.sl (List.map c3 (tnS V (5))),.sl (List.map c3 (tnS V (6))),.sl (List.map c3 (tnS V (7))),.sl (List.map c3 (tnS V (8))),.sl (List.map c3 (tnS V (9))),.sl (List.map c3 (tnS V (10))),.sl (List.map c3 (tnS V (11))),.sl (List.map c3 (tnS V (12))),.sl (List.map c3 (tnS V (13))),.sl (List.map c3 (tnS V (14))),.sl (List.map c3 (tnS V (15)))]⟩ [.sl (List.map c3 (tnS V (0))),.sl (List.map c3 (tnS V (1))),.sl (List.map c3 (tnS V (2))),.sl (List.map c3 (tnS V (3))),.sl (List.map c3 (tnS V (4))),.sl (List.map c3 (tnS V (5))),.sl (List.map c3 (tnS V (6))),.sl (List.map c3 (tnS V (7))),.sl (List.map c3 (tnS V (8))),.sl (List.map c3 (tnS V (9))),.sl (List.map c3 (tnS V (10))),.sl (List.map c3 (tnS V (11))),.sl (List.map c3 (tnS V (12))),.sl (List.map c3 (tnS V (13))),.sl (List.map c3 (tnS V (14))),.sl (List.map c3 (tnS V (15)))] (E9 c3 16 (tnS V)) (σ':=⟨[(2,.i .i64 ((2:Int))),(3,.ptr (3) (0) (0) (0)),(4,.ptr (4) (0) (0) (0)),(6,.ptr (6) (0) (0) (0)),(7,.ptr (7) (0) (0) (0)),(8,.i .i64 ((0:Int)))],[(3,⟨0,144,.arr (E9 c3 16 (tnS U))⟩),(4,⟨0,144,.arr (E9 c3 16 (tnS V))⟩),(6,⟨0,144,.var [.nl,.nl,.nl,.nl,.nl,.nl,.nl,.nl,.nl,.nl,.nl,.nl,.nl,.nl,.nl,.nl]⟩),(7,⟨0,144,.var [.nl,.nl,.nl,.nl,.nl,.nl,.nl,.nl,.nl,.nl,.nl,.nl,.nl,.nl,.nl,.nl]⟩)]⟩) (by kernel_rfl) (by kernel_rfl) (by kernel_rfl) (by kernel_rfl) (ZLe.of_eq (by kernel_rfl)) (by kernel_rfl) ?_
  refine H3 7 ⟨0,144,.var [.nl,.nl,.nl,.nl,.nl,.nl,.nl,.nl,.nl,.nl,.nl,.nl,.nl,.nl,.nl,.nl]⟩ [.nl,.nl,.nl,.nl,.nl,.nl,.nl,.nl,.nl,.nl,.nl,.nl,.nl,.nl,.nl,.nl] (E9 c3 16 fun x ↦ []) (σ':=⟨[(2,.i .i64 ((2:Int))),(3,.ptr (3) (0) (0) (0)),(4,.ptr (4) (0) (0) (0)),(6,.ptr (6) (0) (0) (0)),(7,.ptr (7) (0) (0) (0)),(8,.i .i64 ((0:Int)))],[(3,⟨0,144,.arr (E9 c3 16 (tnS U))⟩),(4,⟨0,144,.arr (E9 c3 16 (tnS V))⟩),(6,⟨0,144,.var [.nl,.nl,.nl,.nl,.nl,.nl,.nl,.nl,.nl,.nl,.nl,.nl,.nl,.nl,.nl,.nl]⟩),(7,⟨0,144,.arr (E9 c3 16 fun x ↦ [])⟩)]⟩) (by kernel_rfl) (by kernel_rfl) (by kernel_rfl) (by kernel_rfl) (Ap2 c3 16) (by kernel_rfl)<|sL (X:=Int×(Nat→List Int)×(Nat→List Int)×(Nat→List Int)) (fun x=>⟨[(2,.i .i64 ((2:Int))),(3,.ptr (3) (0) (0) (0)),(4,.ptr (4) (0) (0) (0)),(6,.ptr (6) (0) (0) (0)),(7,.ptr (7) (0) (0) (0)),(8,.i .i64 (x.1))],[(3,⟨0,144,.arr (E9 c3 16 x.2.1)⟩),(4,⟨0,144,.arr (E9 c3 16 x.2.2.1)⟩),(6,⟨0,144,.var [.nl,.nl,.nl,.nl,.nl,.nl,.nl,.nl,.nl,.nl,.nl,.nl,.nl,.nl,.nl,.nl]⟩),(7,⟨0,144,.arr (E9 c3 16 x.2.2.2)⟩)]⟩) (fun x ↦ decCo x.1 x.2.1 x.2.2.1 x.2.2.2) (fun x ↦ B5y U V x.1 x.2.1 x.2.2.1 x.2.2.2) [2,3,4,6,7,8] [3,4,6,7] (((0:Int),tnS U,tnS V,fun x ↦ [])) (show B5y U V (0:Int) (tnS U) (tnS V) fun x ↦ []from(by exact⟨rfl,rfl,by omega,by omega,fun k hk=>by omega⟩)) ?_
  rintro⟨r0,A1,B2,S3⟩ h_4
  obtain⟨hh5,h6,h7,h8,h9⟩:A1=tnS U∧B2=tnS V∧0≤r0∧r0≤16∧isCo U V r0 S3:=h_4
  refine sq<|rD cx [2,3,4,6,7,8,10] [3,4,6,7] (zB 1 (r0 <(16:Int))) (fun h10=>?_) fun h10=>?_
  refine sK<|sn<|sq<|bL 1<|rA cx [2,3,4,6,7,8] [3,4,6,7] (fA (0≤r0) (fO (r0 <(↑(16:Nat):Int)) (fP ((E9 c3 16 A1)[r0.toNat*(1:Nat)+0]?=some (AV.sl (List.map c3 (A1 r0.toNat)))) (by((try simp only [Nat.mul_one,Nat.add_zero,Nat.zero_add]);with_reducible refine E8 ?_;omega)) (fA (0≤r0) (fO (r0 <(↑(16:Nat):Int)) (fP ((E9 c3 16 B2)[r0.toNat*(1:Nat)+0]?=some (AV.sl (List.map c3 (B2 r0.toNat)))) (by((try simp only [Nat.mul_one,Nat.add_zero,Nat.zero_add]);with_reducible refine E8 ?_;omega)) (fT (con186 (A1 r0.toNat) (B2 r0.toNat) ((2:Int)) (by subst hh5;exact Au3 hU (by omega)) (by subst h6;exact Au3 hV (by omega))) (fA (0≤r0) (fO (r0 <(↑(16:Nat):Int)) (fP (r0.toNat*(1:Nat)+0 <(E9 c3 16 S3).length) (by rw[S8];omega) (fR [(E0 (AV.sl (List.map c3 (H8 (L7 (2:Int)) (A1 r0.toNat) (B2 r0.toNat) false false false)))).headD AV.dead] (fP ((E9 c3 16 S3).set (r0.toNat*(1:Nat)+0) ((E0 (AV.sl (List.map c3 (H8 (L7 (2:Int)) (A1 r0.toNat) (B2 r0.toNat) false false false)))).headD AV.dead)=E9 c3 16 (K7 S3 r0.toNat (H8 (L7 (2:Int)) (A1 r0.toNat) (B2 r0.toNat) false false false))) (by((try simp only [Nat.mul_one,Nat.add_zero,Nat.zero_add]);(with_reducible refine A7v ?_);exact Eq.refl _)) (oR 4 [.sl (List.map c3 (A1 r0.toNat))] (oR 8 [.sl (List.map c3 (B2 r0.toNat))] (oA 10 (.sl (List.map c3 (H8 (L7 (2:Int)) (A1 r0.toNat) (B2 r0.toNat) false false false))) (oV 13 { rows:=some [(E9 c3 16 (K7 S3 r0.toNat (H8 (L7 (2:Int)) (A1 r0.toNat) (B2 r0.toNat) false false false)))] } z0)))))))))))))))) ?_
  refine bN<|sn<|rG cx [2,3,4,6,7,8] [3,4,6,7] (tW 1 (r0+1) z0)<|sn<|nX ((r0+1,A1,B2,K7 S3 r0.toNat (H8 (L7 (2:Int)) (A1 r0.toNat) (B2 r0.toNat) false false false))) (show(16-(r0+1)).toNat <(16-r0).toNat from(by omega)) (show B5y U V (r0+1) A1 B2 (K7 S3 r0.toNat (H8 (L7 (2:Int)) (A1 r0.toNat) (B2 r0.toNat) false false false))from(by subst hh5 h6;exact⟨rfl,rfl,by omega,by omega,Au4 hU hV h7 h10 h9⟩))
  refine eX 0<|nE<|nE<|bH<|sn<|sq<|rG cx [6] [6] (fR 16 z0)<|sn<|rT<|qR (.agg [.sl (List.map c3 (S3 (0))),.sl (List.map c3 (S3 (1))),.sl (List.map c3 (S3 (2))),.sl (List.map c3 (S3 (3))),.sl (List.map c3 (S3 (4))),.sl (List.map c3 (S3 (5))),.sl (List.map c3 (S3 (6))),.sl (List.map c3 (S3 (7))),.sl (List.map c3 (S3 (8))),.sl (List.map c3 (S3 (9))),.sl (List.map c3 (S3 (10))),.sl (List.map c3 (S3 (11))),.sl (List.map c3 (S3 (12))),.sl (List.map c3 (S3 (13))),.sl (List.map c3 (S3 (14))),.sl (List.map c3 (S3 (15)))]) (.eq ?g5);rotate_left
  case g5 =>
    refine congrArg AV.agg ?_
    show E9 c3 16 S3=E9 c3 16 (tnS (Az4 U V))
    unfold E9
    refine List.map_congr_left fun k hk=>?_
    rw [h9 k (by have : k < 16 := by simpa using hk
                 omega)]
theorem con123(a b:Past)(ha:a.cloud.length*16≤140737488350000)(hb:b.cloud.length*16≤140737488350000):Con Tryz.prog 123 [.agg (c26 a),.agg (c26 b)] (.agg (c26 (E2 a b))) :=
 by
 refine sC B3 [.cell 4 26] 11 Tryz.func123 ?_
 intro e0 cx
 refine sq<|rG cx [2,3,4] [2,3,4] z0<|sn<|sq<|rA cx [4] [4] (fT (Au0 (a) (by(with_reducible assumption))) (fT (Au0 (b) (by(with_reducible assumption))) (fT (B28 (B9 (A7 [a])) (B9 (A7 [b])) ?g0 ?g1) (fT (B3r (Az4 (B9 (A7 [a])) (B9 (A7 [b]))) ?g2) (oA 1 (.agg (E9 c3 16 (tnS (B9 (A7 [a]))))) (oA 3 (.agg (E9 c3 16 (tnS (B9 (A7 [b]))))) (oA 4 (.agg (E9 c3 16 (tnS (Az4 (B9 (A7 [a])) (B9 (A7 [b])))))) (oA 5 (.agg [.sl (List.map c3 (I4 (Az4 (B9 (A7 [a])) (B9 (A7 [b])))).vec),.sl (List.map B1 (I4 (Az4 (B9 (A7 [a])) (B9 (A7 [b])))).cloud)]) z0)))))))) ?_;rotate_left 3
 refine sn<|rT<|qR (.agg [.sl (List.map c3 (I4 (Az4 (B9 (A7 [a])) (B9 (A7 [b])))).vec),.sl (List.map B1 (I4 (Az4 (B9 (A7 [a])) (B9 (A7 [b])))).cloud)]) (.eq ?g3);rotate_left
 case g0=>exact A67 _
 case g1=>exact A67 _
 case g2=>intro r hr;exact Af4 _ _
 case g3=>rw[B5z];rfl
theorem con147(p:Past)(hb:p.cloud.length*16≤140737488350000):Con Tryz.prog 147 [.agg (c26 p)] (.i .i64 (C6 p)) :=
 by
 have hl:∀ r,(B9 (A7 [p]) r).length≤500000000:=fun r=>W9 (E4 _)
 have hz:∀ n,0≤sizeT (B9 (A7 [p])) n∧sizeT (B9 (A7 [p])) n≤n*1000000000:=A0o _
 have hk:∀ r n,0≤G7 ((B9 (A7 [p]) r).take n)∧G7 ((B9 (A7 [p]) r).take n)≤1000000000:=fun r n=>A0n (A87 (E4 _) n)
 have hr:∀(r:Nat) (k:Int),0≤k→k+1 < 2*(B9 (A7 [p]) r).length→1≤(B9 (A7 [p]) r)[(k / 2).toNat]!.lo∧(B9 (A7 [p]) r)[(k / 2).toNat]!.lo≤(B9 (A7 [p]) r)[(k / 2).toNat]!.hi∧(B9 (A7 [p]) r)[(k / 2).toNat]!.hi≤1000000000 :=
  fun r k h0 h1=>(E4 _).2 _ (G6 (by have h2:k+1 < 2*(nrm (A7 [p] r)).length:=h1;omega))
 have ht:∀ r,(tnS (B9 (A7 [p])) r).length=2*(B9 (A7 [p]) r).length:=fun r=>A0s _
 have hs:=A8i (A7 [p])
 have hU:∀ r,nrm (B9 (A7 [p]) r)=B9 (A7 [p]) r:=B3s
 have hP:C6 p=sizeT (B9 (A7 [p])) 16:=(A6c p).trans (hs 16).symm
 clear hs
 refine sC B3 [.tmp 2] 42 Tryz.func147 ?_
 intro e0 cx
 refine sq<|rG cx [1] [1] z0<|sn<|sq<|rG cx [3] [3] (fT (Au0 (p) (by(with_reducible assumption))) (oA 1 (.agg (E9 c3 16 (tnS (B9 (A7 [p]))))) z0))<|sn<|sq<|rG cx [3,4] [3] z0<|sn<|sq<|sq<|rG cx [3,4,5] [3] z0<|sn<|bL 0<|H3 3 ⟨0,144,.var [.sl (List.map c3 (tnS (B9 (A7 [p])) (0))),.sl (List.map c3 (tnS (B9 (A7 [p])) (1))),.sl (List.map c3 (tnS (B9 (A7 [p])) (2))),.sl (List.map c3 (tnS (B9 (A7 [p])) (3))),.sl (List.map c3 (tnS (B9 (A7 [p])) (4))),.sl (List.map c3 (tnS (B9 (A7 [p])) (5))),.sl (List.map c3 (tnS (B9 (A7 [p])) (6))),.sl (List.map c3 (tnS (B9 (A7 [p])) (7))),.sl (List.map c3 (tnS (B9 (A7 [p])) (8))),.sl (List.map c3 (tnS (B9 (A7 [p])) (9))),.sl (List.map c3 (tnS (B9 (A7 [p])) (10))),.sl (List.map c3 (tnS (B9 (A7 [p])) (11))),.sl (List.map c3 (tnS (B9 (A7 [p])) (12))),.sl (List.map c3 (tnS (B9 (A7 [p])) (13))),.sl (List.map c3 (tnS (B9 (A7 [p])) (14))),.sl (List.map c3 (tnS (B9 (A7 [p])) (15)))]⟩ [.sl (List.map c3 (tnS (B9 (A7 [p])) (0))),.sl (List.map c3 (tnS (B9 (A7 [p])) (1))),.sl (List.map c3 (tnS (B9 (A7 [p])) (2))),.sl (List.map c3 (tnS (B9 (A7 [p])) (3))),.sl (List.map c3 (tnS (B9 (A7 [p])) (4))),.sl (List.map c3 (tnS (B9 (A7 [p])) (5))),.sl (List.map c3 (tnS (B9 (A7 [p])) (6))),.sl (List.map c3 (tnS (B9 (A7 [p])) (7))),.sl (List.map c3 (tnS (B9 (A7 [p])) (8))),.sl (List.map c3 (tnS (B9 (A7 [p])) (9))),.sl (List.map c3 (tnS (B9 (A7 [p])) (10))),.sl (List.map c3 (tnS (B9 (A7 [p])) (11))),.sl (List.map c3 (tnS (B9 (A7 [p])) (12))),.sl (List.map c3 (tnS (B9 (A7 [p])) (13))),.sl (List.map c3 (tnS (B9 (A7 [p])) (14))),.sl (List.map c3 (tnS (B9 (A7 [p])) (15)))] (E9 c3 16 (tnS (B9 (A7 [p])))) (σ':=⟨[(3,.ptr (3) (0) (0) (0)),(4,.i .i64 ((0:Int))),(5,.i .i64 ((0:Int)))],[(3,⟨0,144,.arr (E9 c3 16 (tnS (B9 (A7 [p]))))⟩)]⟩) (by kernel_rfl) (by kernel_rfl) (by kernel_rfl) (by kernel_rfl) (ZLe.of_eq (by kernel_rfl)) (by kernel_rfl)<|sL (X:=Int×Int×(Nat→List Int)) (fun x=>⟨[(3,.ptr (3) (0) (0) (0)),(4,.i .i64 (x.1)),(5,.i .i64 (x.2.1))],[(3,⟨0,144,.arr (E9 c3 16 x.2.2)⟩)]⟩) (fun x ↦ decRs x.1 x.2.1 x.2.2) (fun x ↦ B60 (B9 (A7 [p])) x.1 x.2.1 x.2.2) [3,4,5] [3] (((0:Int),(0:Int),tnS (B9 (A7 [p])))) (show B60 (B9 (A7 [p])) (0:Int) (0:Int) (tnS (B9 (A7 [p])))from ?g0) ?_;rotate_left
 rintro⟨n0,r1,S2⟩ h_3
 obtain⟨hh4,h5,hh6,h7⟩:S2=tnS (B9 (A7 [p]))∧0≤r1∧r1≤16∧n0=sizeT (B9 (A7 [p])) r1.toNat:=h_3
 refine sq<|rD cx [3,4,5,10] [3] (zB 1 (r1 <(16:Int))) (fun h8=>?_) fun h8=>?_
 refine sK<|sn<|sq<|bL 1<|sq<|rG cx [3,4,5,6] [3] z0<|sn<|bL 2<|sL (X:=Int×Int×(Nat→List Int)) (fun x=>⟨[(3,.ptr (3) (0) (0) (0)),(4,.i .i64 (x.1)),(5,.i .i64 (r1)),(6,.i .i64 (x.2.1))],[(3,⟨0,144,.arr (E9 c3 16 x.2.2)⟩)]⟩) (fun x ↦ decRt (B9 (A7 [p])) r1 x.1 x.2.1 x.2.2) (fun x ↦ B61 (B9 (A7 [p])) r1 n0 x.1 x.2.1 x.2.2) [3,4,5,6] [3] ((n0,(0:Int),S2)) (show B61 (B9 (A7 [p])) r1 n0 n0 (0:Int) S2 from ?g1) ?_;rotate_left
 rintro⟨n9,k10,S11⟩ h_12
 obtain⟨h13,h14,h15,h16,h17⟩:S11=tnS (B9 (A7 [p]))∧0≤k10∧k10≤(2:Int)*(↑(B9 (A7 [p]) r1.toNat).length:Int)∧(2:Int)*(k10 / (2:Int))=k10∧n9=n0+G7 (List.take (k10 / (2:Int)).toNat (B9 (A7 [p]) r1.toNat)):=h_12
 refine sq<|sq<|rG cx [3,4,5,6,20] [3] (tT 1 (B6 (by omega) ?g2:AV.i .i64 (IntKind.i64.wrap (k10+1))=AV.i .i64 (k10+1)) (fA (0≤r1) (fO (r1 <(↑(16:Nat):Int)) (fP ((E9 c3 16 S11)[r1.toNat*(1:Nat)+0]?=some (AV.sl (List.map c3 (S11 r1.toNat)))) (by((try simp only [Nat.mul_one,Nat.add_zero,Nat.zero_add]);with_reducible refine E8 ?_;omega)) (tL 6 c3 (S11 r1.toNat) (tB 7 (k10+1 <(↑(S11 r1.toNat).length:Int)) (oR 5 [.sl (List.map c3 (S11 r1.toNat))] z0))))))) ?_;rotate_left
 refine sn<|dC (k10+1 <(↑(S11 r1.toNat).length:Int)) (fun h18=>?_) fun h18=>?_
 refine sK<|sn<|sq<|bL 3<|rA cx [3,4,5,6] [3] (fA (0≤r1) (fO (r1 <(↑(16:Nat):Int)) (fP ((E9 c3 16 S11)[r1.toNat*(1:Nat)+0]?=some (AV.sl (List.map c3 (S11 r1.toNat)))) (by((try simp only [Nat.mul_one,Nat.add_zero,Nat.zero_add]);with_reducible refine E8 ?_;omega)) (tT 6 (B6 (by omega) ?g3:AV.i .i64 (IntKind.i64.wrap (k10+1))=AV.i .i64 (k10+1)) (fO (0≤k10+1) (fG c3 (S11 r1.toNat) ((k10+1).toNat) (fR 1 (fA (0≤r1) (fO (r1 <(↑(16:Nat):Int)) (fP ((E9 c3 16 S11)[r1.toNat*(1:Nat)+0]?=some (AV.sl (List.map c3 (S11 r1.toNat)))) (by((try simp only [Nat.mul_one,Nat.add_zero,Nat.zero_add]);with_reducible refine E8 ?_;omega)) (fA (0≤k10) (fG c3 (S11 r1.toNat) k10.toNat (fR 1 (tT 16 (B6 ?g4 ?g5:AV.i .i64 (IntKind.i64.wrap ((S11 r1.toNat)[(k10+1).toNat]!-(S11 r1.toNat)[k10.toNat]!))=AV.i .i64 ((S11 r1.toNat)[(k10+1).toNat]!-(S11 r1.toNat)[k10.toNat]!)) (tT 17 (B6 ?g6 ?g7:AV.i .i64 (IntKind.i64.wrap (n9+((S11 r1.toNat)[(k10+1).toNat]!-(S11 r1.toNat)[k10.toNat]!)))=AV.i .i64 (n9+((S11 r1.toNat)[(k10+1).toNat]!-(S11 r1.toNat)[k10.toNat]!))) (oR 4 [.sl (List.map c3 (S11 r1.toNat))] (oR 7 (c3 (S11 r1.toNat)[(k10+1).toNat]!) (oR 12 [.sl (List.map c3 (S11 r1.toNat))] (oR 14 (c3 (S11 r1.toNat)[k10.toNat]!) z0))))))))))))))))))) ?_;rotate_left 5
 refine bN<|sn<|rG cx [3,4,5,6] [3] (tT 1 (B6 (by omega) ?g8:AV.i .i64 (IntKind.i64.wrap (k10+2))=AV.i .i64 (k10+2)) z0) ?_;rotate_left
 refine sn<|nX ((n9+((S11 r1.toNat)[(k10+1).toNat]!-(S11 r1.toNat)[k10.toNat]!),k10+2,S11)) (show((2:Int)*(↑(B9 (A7 [p]) r1.toNat).length:Int)-(k10+2)).toNat <((2:Int)*(↑(B9 (A7 [p]) r1.toNat).length:Int)-k10).toNat from ?g9) (show B61 (B9 (A7 [p])) r1 n0 (n9+((S11 r1.toNat)[(k10+1).toNat]!-(S11 r1.toNat)[k10.toNat]!)) (k10+2) S11 from ?g10);rotate_left 2
 refine eX 2<|nE<|nE<|bH<|bN<|sn<|rG cx [3,4,5] [3] (tW 1 (r1+1) z0)<|sn<|nX ((n9,r1+1,S11)) (show(16-(r1+1)).toNat <(16-r1).toNat from(by omega)) (show B60 (B9 (A7 [p])) n9 (r1+1) S11 from ?g11);rotate_left
 refine eX 0<|nE<|nE<|bH<|sn<|sq<|rG cx [2] [] z0<|sn<|rT<|qR (.i .i64 (n0)) (.eq ?g12);rotate_left
 rotate_left
 revert n0 r1 S2 hh4 h5 hh6 h7 h8;rotate_left
 revert n0 r1 S2 hh4 h5 hh6 h7 h8 n9 k10 S11 h13 h14 h15 h16 h17;rotate_left
 revert n0 r1 S2 hh4 h5 hh6 h7 h8 n9 k10 S11 h13 h14 h15 h16 h17 h18;rotate_left
 revert n0 r1 S2 hh4 h5 hh6 h7 h8 n9 k10 S11 h13 h14 h15 h16 h17 h18;rotate_left
 revert n0 r1 S2 hh4 h5 hh6 h7 h8 n9 k10 S11 h13 h14 h15 h16 h17 h18;rotate_left
 revert n0 r1 S2 hh4 h5 hh6 h7 h8 n9 k10 S11 h13 h14 h15 h16 h17 h18;rotate_left
 revert n0 r1 S2 hh4 h5 hh6 h7 h8 n9 k10 S11 h13 h14 h15 h16 h17 h18;rotate_left
 revert n0 r1 S2 hh4 h5 hh6 h7 h8 n9 k10 S11 h13 h14 h15 h16 h17 h18;rotate_left
 revert n0 r1 S2 hh4 h5 hh6 h7 h8 n9 k10 S11 h13 h14 h15 h16 h17 h18;rotate_left
 revert n0 r1 S2 hh4 h5 hh6 h7 h8 n9 k10 S11 h13 h14 h15 h16 h17 h18;rotate_left
 revert n0 r1 S2 hh4 h5 hh6 h7 h8 n9 k10 S11 h13 h14 h15 h16 h17 h18;rotate_left
 revert n0 r1 S2 hh4 h5 hh6 h7 h8;rotate_left
 all_goals generalize B9 (A7 [p])=U at *
 case g0=>exact⟨rfl,by omega,by omega,rfl⟩
 case g1=>intro n r S h0 h1 h2 h3 h4;exact⟨h0,by omega,by omega,by omega,by simp [G7]⟩
 case g2=>intro n r S h0 h1 h2 h3 h4 m k R k0 k1 k2 k3 k4;have:=hl r.toNat;omega
 case g3=>intro n r S h0 h1 h2 h3 h4 m k R k0 k1 k2 k3 k4 k5;have:=hl r.toNat;omega
 case g4 =>
  intro n r S h0 h1 h2 h3 h4 m k R k0 k1 k2 k3 k4 k5
  subst k0;rw[ht]at k5
  have:=A8g (U:=U) (r:=r) k1 k3 (by omega);have:=hr r.toNat k k1 (by omega);omega
 case g5 =>
  intro n r S h0 h1 h2 h3 h4 m k R k0 k1 k2 k3 k4 k5
  subst k0;rw[ht]at k5
  have:=A8g (U:=U) (r:=r) k1 k3 (by omega);have:=hr r.toNat k k1 (by omega);omega
 case g6 =>
  intro n r S h0 h1 h2 h3 h4 m k R k0 k1 k2 k3 k4 k5
  subst k0;rw[ht]at k5
  have:=A8g (U:=U) (r:=r) k1 k3 (by omega);have:=hr r.toNat k k1 (by omega)
  have:=hz r.toNat;have:=hk r.toNat (k / 2).toNat;omega
 case g7 =>
  intro n r S h0 h1 h2 h3 h4 m k R k0 k1 k2 k3 k4 k5
  subst k0;rw[ht]at k5
  have:=A8g (U:=U) (r:=r) k1 k3 (by omega);have:=hr r.toNat k k1 (by omega)
  have:=hz r.toNat;have:=hk r.toNat (k / 2).toNat;omega
 case g8=>intro n r S h0 h1 h2 h3 h4 m k R k0 k1 k2 k3 k4 k5;have:=hl r.toNat;omega
 case g9=>intro n r S h0 h1 h2 h3 h4 m k R k0 k1 k2 k3 k4 k5;subst k0;rw[ht]at k5;omega
 case g10 =>
  intro n r S h0 h1 h2 h3 h4 m k R k0 k1 k2 k3 k4 k5
  subst k0;rw[ht]at k5
  have h6:=A8g (U:=U) (r:=r) k1 k3 (by omega)
  refine⟨rfl,by omega,by omega,by omega,?_⟩
  rw[Au5 k1 k3 (by omega)]
  omega
 case g11 =>
  intro n r S h0 h1 h2 h3 h4 m k R k0 k1 k2 k3 k4 k5
  subst k0;rw[ht]at k5
  refine⟨rfl,by omega,by omega,?_⟩
  rw[show(r+1).toNat=r.toNat+1 by omega,sizeT,hU,k4,h3,List.take_of_length_le (by omega)]
 case g12=>intro n r S h0 h1 h2 h3 h4;rw[h3,hP,show r.toNat=16 by omega]
theorem B29(p:Past)(hb:p.cloud.length*16≤140737488350000):Con Tryz.prog 79 [.agg (c26 p)] (.b (decide (C6 p=0))) :=
 by
 refine sC B3 [.tmp 2] 6 Tryz.func79 ?_
 intro e0 cx
 refine sq<|rG cx [1] [1] z0<|sn<|sq<|rG cx [2] [] (fT (con147 (p) (by(with_reducible assumption))) (tB 2 (C6 p=0) (oA 1 (.i .i64 (C6 p)) z0)))<|sn<|rT ?_
 exact X8 (r:=.b (decide (C6 p=0))) (obl:=[]) (by kernel_rfl) trivial (A5.refl _)
theorem con91(p:Past)(rep:Int)(hb:p.cloud.length*16≤140737488350000):Con Tryz.prog 91 [.agg (c26 p),.i .i64 rep] (.i .i64 (E6 p rep)) :=
 by
 have hn:∀ r,Y5 (B9 (A7 [p]) r)=Y5 (A7 [p] r):=fun r=>B1f _
 have hs:∀ r,L3 (B9 (A7 [p]) r):=fun r=>E4 _
 have ht:(tnS (B9 (A7 [p])) rep.toNat).length=2*(B9 (A7 [p]) rep.toNat).length:=A0s _
 have hl:=W9 (hs rep.toNat)
 have hx:¬((tnS (B9 (A7 [p])) rep.toNat).length:Int)=0→(tnS (B9 (A7 [p])) rep.toNat)[(((tnS (B9 (A7 [p])) rep.toNat).length:Int)-1).toNat]!-1=Y5 (A7 [p] rep.toNat)∧0≤Y5 (A7 [p] rep.toNat)∧Y5 (A7 [p] rep.toNat)≤1000000000:=by
  intro h
  have hm:=At0 (hs rep.toNat) (by omega)
  have hr:=(hs rep.toNat).2 _ (G6 (l:=B9 (A7 [p]) rep.toNat) (i:=(B9 (A7 [p]) rep.toNat).length-1) (by omega))
  have e:=(A6n (l:=B9 (A7 [p]) rep.toNat) (j:=(B9 (A7 [p]) rep.toNat).length-1) (by omega)).2
  rw[← hn,ht,hm]
  have e2:(((2*(B9 (A7 [p]) rep.toNat).length:Nat):Int)-1).toNat=2*((B9 (A7 [p]) rep.toNat).length-1)+1:=by omega
  rw[e2]
  have e3:(tnS (B9 (A7 [p])) rep.toNat)[2*((B9 (A7 [p]) rep.toNat).length-1)+1]! = _:=e
  rw[e3]
  omega
 refine sC B3 [.tmp 4] 31 Tryz.func91 ?_
 intro e0 cx
 refine sq<|rG cx [1,2] [2] z0<|sn<|sq<|sq<|A9 (σ':=⟨[(1,.i .i64 (rep)),(2,.ptr (2) (0) (0) (0)),(12,.b (decide (rep <(0:Int)∨16≤rep)))],[(2,⟨0,26,.var [.sl (List.map c3 p.vec),.sl (List.map B1 p.cloud)]⟩)]⟩) ?_ ?_
 refine A4 (rep <(0:Int)) (fun h_1=>?_) (fun h_1=>?_)
 refine rG cx [1,2,12] [2] (tT 1 (A3 h_1) (tD 5 true (rep <(0:Int)∨16≤rep) (by simp only [eq_true h_1,tsl]) z0)) ?_
 exact⟨rfl,by kernel_rfl⟩
 refine rG cx [1,2,12] [2] (tT 1 (A0 h_1) (tB 4 (16≤rep) (tD 5 (decide (16≤rep)) (rep <(0:Int)∨16≤rep) (by simp only [eq_false h_1,tsl]) z0))) ?_
 exact⟨rfl,by kernel_rfl⟩
 refine sn<|dC (rep <(0:Int)∨16≤rep) (fun h2=>?_) fun h2=>?_
 refine sq<|rG cx [4] [] z0<|sn<|rT<|nR<|qR (.i .i64 ((0:Int))) (.eq (by unfold E6;rw[if_pos h2]))
 refine sK<|sn<|sq<|rG cx [1,5] [5] (fT (Au0 (p) (by(with_reducible assumption))) (oA 1 (.agg (E9 c3 16 (tnS (B9 (A7 [p]))))) z0))<|sn<|sq<|A5y (F:=fun kx=>⟨[(1,.i .i64 (kx)),(5,.ptr (5) (0) (0) (0))],[(5,⟨0,144,.var [.sl (List.map c3 (tnS (B9 (A7 [p])) (0))),.sl (List.map c3 (tnS (B9 (A7 [p])) (1))),.sl (List.map c3 (tnS (B9 (A7 [p])) (2))),.sl (List.map c3 (tnS (B9 (A7 [p])) (3))),.sl (List.map c3 (tnS (B9 (A7 [p])) (4))),.sl (List.map c3 (tnS (B9 (A7 [p])) (5))),.sl (List.map c3 (tnS (B9 (A7 [p])) (6))),.sl (List.map c3 (tnS (B9 (A7 [p])) (7))),.sl (List.map c3 (tnS (B9 (A7 [p])) (8))),.sl (List.map c3 (tnS (B9 (A7 [p])) (9))),.sl (List.map c3 (tnS (B9 (A7 [p])) (10))),.sl (List.map c3 (tnS (B9 (A7 [p])) (11))),.sl (List.map c3 (tnS (B9 (A7 [p])) (12))),.sl (List.map c3 (tnS (B9 (A7 [p])) (13))),.sl (List.map c3 (tnS (B9 (A7 [p])) (14))),.sl (List.map c3 (tnS (B9 (A7 [p])) (15)))]⟩)]⟩) (G:=fun kx=>⟨[(1,.i .i64 (kx)),(5,.ptr (5) (0) (0) (0)),(6,.i .i64 ((↑(tnS (B9 (A7 [p])) kx.toNat).length:Int)))],[(5,⟨0,144,.var [.sl (List.map c3 (tnS (B9 (A7 [p])) (0))),.sl (List.map c3 (tnS (B9 (A7 [p])) (1))),.sl (List.map c3 (tnS (B9 (A7 [p])) (2))),.sl (List.map c3 (tnS (B9 (A7 [p])) (3))),.sl (List.map c3 (tnS (B9 (A7 [p])) (4))),.sl (List.map c3 (tnS (B9 (A7 [p])) (5))),.sl (List.map c3 (tnS (B9 (A7 [p])) (6))),.sl (List.map c3 (tnS (B9 (A7 [p])) (7))),.sl (List.map c3 (tnS (B9 (A7 [p])) (8))),.sl (List.map c3 (tnS (B9 (A7 [p])) (9))),.sl (List.map c3 (tnS (B9 (A7 [p])) (10))),.sl (List.map c3 (tnS (B9 (A7 [p])) (11))),.sl (List.map c3 (tnS (B9 (A7 [p])) (12))),.sl (List.map c3 (tnS (B9 (A7 [p])) (13))),.sl (List.map c3 (tnS (B9 (A7 [p])) (14))),.sl (List.map c3 (tnS (B9 (A7 [p])) (15)))]⟩)]⟩) (A:=fun kx=>(0≤kx)∧(kx <(↑(16:Nat):Int))∧(AV.i .i64 (↑(List.map c3 (tnS (B9 (A7 [p])) kx.toNat)).length:Int)=AV.i .i64 (↑(tnS (B9 (A7 [p])) kx.toNat).length:Int))) cx (fun kx=>[(4,{ tell:=some (.i .i64 ((↑(tnS (B9 (A7 [p])) kx.toNat).length:Int))) })]) [1,5,6] [5] (rep) (by omega) (by omega) (by kernel_rfl) (by kernel_rfl) ⟨(by show _=_;kernel_rfl),(by show _=_;kernel_rfl),(by show _=_;kernel_rfl),(by show _=_;kernel_rfl),(by show _=_;kernel_rfl),(by show _=_;kernel_rfl),(by show _=_;kernel_rfl),(by show _=_;kernel_rfl),(by show _=_;kernel_rfl),(by show _=_;kernel_rfl),(by show _=_;kernel_rfl),(by show _=_;kernel_rfl),(by show _=_;kernel_rfl),(by show _=_;kernel_rfl),(by show _=_;kernel_rfl),(by show _=_;kernel_rfl)⟩ ⟨(by omega),(by omega),(by rw[List.length_map])⟩ ?_
 refine sn<|sq<|rD cx [1,5,6,21] [5] (zB 1 ((↑(tnS (B9 (A7 [p])) rep.toNat).length:Int)=0)) (fun h3=>?_) fun h3=>?_
 refine sq<|rG cx [4] [] z0<|sn<|rT<|nR<|qR (.i .i64 ((0:Int))) (.eq ?g2);rotate_left
 refine sK<|sn<|sq<|A5y (F:=fun kx=>⟨[(1,.i .i64 (kx)),(5,.ptr (5) (0) (0) (0)),(6,.i .i64 ((↑(tnS (B9 (A7 [p])) kx.toNat).length:Int))),(21,.b (decide ((↑(tnS (B9 (A7 [p])) kx.toNat).length:Int)=0)))],[(5,⟨0,144,.var [.sl (List.map c3 (tnS (B9 (A7 [p])) (0))),.sl (List.map c3 (tnS (B9 (A7 [p])) (1))),.sl (List.map c3 (tnS (B9 (A7 [p])) (2))),.sl (List.map c3 (tnS (B9 (A7 [p])) (3))),.sl (List.map c3 (tnS (B9 (A7 [p])) (4))),.sl (List.map c3 (tnS (B9 (A7 [p])) (5))),.sl (List.map c3 (tnS (B9 (A7 [p])) (6))),.sl (List.map c3 (tnS (B9 (A7 [p])) (7))),.sl (List.map c3 (tnS (B9 (A7 [p])) (8))),.sl (List.map c3 (tnS (B9 (A7 [p])) (9))),.sl (List.map c3 (tnS (B9 (A7 [p])) (10))),.sl (List.map c3 (tnS (B9 (A7 [p])) (11))),.sl (List.map c3 (tnS (B9 (A7 [p])) (12))),.sl (List.map c3 (tnS (B9 (A7 [p])) (13))),.sl (List.map c3 (tnS (B9 (A7 [p])) (14))),.sl (List.map c3 (tnS (B9 (A7 [p])) (15)))]⟩)]⟩) (G:=fun kx=>⟨[(4,.i .i64 ((tnS (B9 (A7 [p])) kx.toNat)[((↑(tnS (B9 (A7 [p])) kx.toNat).length:Int)-1).toNat]!-1))],[]⟩) (A:=fun kx=>(0≤kx)∧(kx <(↑(16:Nat):Int))∧(AV.i .i64 (IntKind.i64.wrap ((↑(tnS (B9 (A7 [p])) kx.toNat).length:Int)-1))=AV.i .i64 ((↑(tnS (B9 (A7 [p])) kx.toNat).length:Int)-1))∧(0≤(↑(tnS (B9 (A7 [p])) kx.toNat).length:Int)-1)∧((List.map c3 (tnS (B9 (A7 [p])) kx.toNat))[((↑(tnS (B9 (A7 [p])) kx.toNat).length:Int)-1).toNat]?=some (c3 (tnS (B9 (A7 [p])) kx.toNat)[((↑(tnS (B9 (A7 [p])) kx.toNat).length:Int)-1).toNat]!))∧((c3 (tnS (B9 (A7 [p])) kx.toNat)[((↑(tnS (B9 (A7 [p])) kx.toNat).length:Int)-1).toNat]!).length=(1:Nat))∧(AV.i .i64 (IntKind.i64.wrap ((tnS (B9 (A7 [p])) kx.toNat)[((↑(tnS (B9 (A7 [p])) kx.toNat).length:Int)-1).toNat]!-1))=AV.i .i64 ((tnS (B9 (A7 [p])) kx.toNat)[((↑(tnS (B9 (A7 [p])) kx.toNat).length:Int)-1).toNat]!-1))) cx (fun kx=>[(5,{ tell:=some (.i .i64 ((↑(tnS (B9 (A7 [p])) kx.toNat).length:Int)-1)) }),(6,{ row:=(c3 (tnS (B9 (A7 [p])) kx.toNat)[((↑(tnS (B9 (A7 [p])) kx.toNat).length:Int)-1).toNat]!) }),(8,{ tell:=some (.i .i64 ((tnS (B9 (A7 [p])) kx.toNat)[((↑(tnS (B9 (A7 [p])) kx.toNat).length:Int)-1).toNat]!-1)) })]) [4] [] (rep) (by omega) (by omega) (by kernel_rfl) (by kernel_rfl) ⟨(by show _=_;kernel_rfl),(by show _=_;kernel_rfl),(by show _=_;kernel_rfl),(by show _=_;kernel_rfl),(by show _=_;kernel_rfl),(by show _=_;kernel_rfl),(by show _=_;kernel_rfl),(by show _=_;kernel_rfl),(by show _=_;kernel_rfl),(by show _=_;kernel_rfl),(by show _=_;kernel_rfl),(by show _=_;kernel_rfl),(by show _=_;kernel_rfl),(by show _=_;kernel_rfl),(by show _=_;kernel_rfl),(by show _=_;kernel_rfl)⟩ ⟨(by omega),(by omega),(B6 (by omega) (by omega)),(by omega),(by(with_reducible refine G5 ?_;omega)),(by kernel_rfl),(B6 (by have:=hx h3;omega) (by have:=hx h3;omega))⟩ ?_
 refine sn<|rT<|qR (.i .i64 ((tnS (B9 (A7 [p])) rep.toNat)[((↑(tnS (B9 (A7 [p])) rep.toNat).length:Int)-1).toNat]!-1)) (.eq (by unfold E6;rw[if_neg h2,(hx h3).1]))
 case g2 =>
  have e:B9 (A7 [p]) rep.toNat=[]:=List.eq_nil_of_length_eq_zero (by omega)
  unfold E6
  rw[if_neg h2,← hn,e]
  rfl
end Go.Proofs.YtphcaholhacnpaaGreat
namespace Go.Proofs.YtphcaholhacnpaaGreat
open Go.E
set_option maxRecDepth 100000
set_option maxHeartbeats 4000000
theorem con46(a b:Past)(ha:a.cloud.length*16≤140737488350000)(hb:b.cloud.length*16≤140737488350000):Con Tryz.prog 46 [.agg (c26 a),.agg (c26 b)] (.b (decide (C6 (E2 a b)=0))) :=
 by
 refine sC B3 [.tmp 4] 9 Tryz.func46 ?_
 intro e0 cx
 refine sq<|rG cx [2,3] [2,3] z0<|sn<|sq<|rG cx [4] [] (fT (con123 (a) (b) (by(with_reducible assumption)) (by(with_reducible assumption))) (fT (B29 (E2 a b) ?g0) (oA 2 (.agg [.sl (List.map c3 (E2 a b).vec),.sl (List.map B1 (E2 a b).cloud)]) (oA 3 (.b (decide (C6 (E2 a b)=0))) z0)))) ?_;rotate_left
 refine sn<|rT ?_
 exact X8 (r:=.b (decide (C6 (E2 a b)=0))) (obl:=[]) (by kernel_rfl) trivial (A5.refl _)
 case g0=>have h:=(A0i (fun r=>Az2 (A7 [a] r) (A7 [b] r))).1;have h2:(E2 a b).cloud.length≤8000000000:=h;omega
end Go.Proofs.YtphcaholhacnpaaGreat
namespace Go.Proofs.YtphcaholhacnpaaGreat
open Go.E
set_option maxRecDepth 100000
set_option maxHeartbeats 4000000
def dLt(a b:Dot):Bool:=decide (a.rep < b.rep∨a.rep=b.rep∧a.num < b.num)
def U5(e:Entry):Int:=if e.dot.rep < 0∨16≤e.dot.rep then 3 else if e.dot.num < 1∨1000000000 < e.dot.num then 2 else if G2 e.sku=false then 5 else if e.qty < 1∨1000000 < e.qty then 6 else 0
def Am1(es:List Entry)(i:Nat):Bool:=decide (U5 es[i]! = 0) && (decide (i=0) || dLt es[i-1]!.dot es[i]!.dot)
def okL(es:List Entry):Bool:=Aa1 (Am1 es) es.length
def C1(es:List Entry):Int:=if okL es=true then 0 else 1
def B62(es:List Entry)(i:Int):Prop:=0≤i∧i≤es.length∧∀ j:Nat,(j:Int) < i→Am1 es j=true
def decL(es:List Entry)(i:Int):Nat:=(es.length-i).toNat
theorem Ag8{es:List Entry}{i:Nat}(hi:i < es.length)(h:Am1 es i=false):C1 es=1:=by
 unfold C1 okL
 rw[if_neg]
 intro k
 have:=(I8 _ _).1 k i hi
 rw[h]at this;cases this
theorem Au6{es:List Entry}(h:∀ j:Nat,j < es.length→Am1 es j=true):C1 es=0:=by
 unfold C1 okL
 rw[if_pos ((I8 _ _).2 h)]
theorem X4(es:List Entry)(i:Nat):Am1 es i=true↔U5 es[i]! = 0∧(i=0∨dLt es[i-1]!.dot es[i]!.dot=true):=by
 unfold Am1
 rw[Bool.and_eq_true,Bool.or_eq_true,decide_eq_true_iff,decide_eq_true_iff]
theorem A8j{es:List Entry}{i:Int}(h0:0≤i)(h1:i < es.length)(h2:∀ j:Nat,(j:Int) < i→Am1 es j=true)(h:Am1 es i.toNat=true):B62 es (i+1) :=
 ⟨by omega,by omega,fun j hj=>by
  by_cases e:j=i.toNat
  ·rw[e];exact h
  ·exact h2 j (by omega)⟩
theorem Ag9{es:List Entry}{i:Nat}(h:¬ Am1 es i=true):Am1 es i=false:=by simpa using h
theorem B63(e:Entry):Con Tryz.prog 98 [.agg (c46 e)] (.i .i64 (U5 e)) :=
 by
 refine sC B3 [.tmp 2] 39 Tryz.func98 ?_
 intro e0 cx
 refine sq<|rG cx [1] [1] z0<|sn<|sq<|bL 0<|sq<|A9 (σ':=⟨[(1,.ptr (1) (0) (0) (0)),(3,.b (decide (e.dot.rep <(0:Int)∨16≤e.dot.rep)))],[(1,⟨0,46,.var [.i .i64 (e.dot.rep),.i .i64 (e.dot.num),.s (e.sku),.i .i64 (e.qty)]⟩)]⟩) ?_ ?_
 refine A4 (e.dot.rep <(0:Int)) (fun h_1=>?_) (fun h_1=>?_)
 refine rG cx [1,3] [1] (tT 3 (A3 h_1) (tD 10 true (e.dot.rep <(0:Int)∨16≤e.dot.rep) (by simp only [eq_true h_1,tsl]) z0)) ?_
 exact⟨rfl,by kernel_rfl⟩
 refine rG cx [1,3] [1] (tT 3 (A0 h_1) (tB 8 (16≤e.dot.rep) (tD 10 (decide (16≤e.dot.rep)) (e.dot.rep <(0:Int)∨16≤e.dot.rep) (by simp only [eq_false h_1,tsl]) z0))) ?_
 exact⟨rfl,by kernel_rfl⟩
 refine sn<|dC (e.dot.rep <(0:Int)∨16≤e.dot.rep) (fun h2=>?_) fun h2=>?_
 refine sq<|rG cx [2] [] z0<|sn<|rT<|bR<|nR<|qR (.i .i64 ((3:Int))) (.eq ?g0);rotate_left
 refine sq<|A9 (σ':=⟨[(1,.ptr (1) (0) (0) (0)),(14,.b (decide (e.dot.num <(1:Int)∨(1000000000:Int) < e.dot.num)))],[(1,⟨0,46,.var [.i .i64 (e.dot.rep),.i .i64 (e.dot.num),.s (e.sku),.i .i64 (e.qty)]⟩)]⟩) ?_ ?_
 refine A4 (e.dot.num <(1:Int)) (fun h_4=>?_) (fun h_4=>?_)
 refine rG cx [1,14] [1] (tT 3 (A3 h_4) (tD 10 true (e.dot.num <(1:Int)∨(1000000000:Int) < e.dot.num) (by simp only [eq_true h_4,tsl]) z0)) ?_
 exact⟨rfl,by kernel_rfl⟩
 refine rG cx [1,14] [1] (tT 3 (A0 h_4) (tB 8 ((1000000000:Int) < e.dot.num) (tD 10 (decide ((1000000000:Int) < e.dot.num)) (e.dot.num <(1:Int)∨(1000000000:Int) < e.dot.num) (by simp only [eq_false h_4,tsl]) z0))) ?_
 exact⟨rfl,by kernel_rfl⟩
 refine sn<|dC (e.dot.num <(1:Int)∨(1000000000:Int) < e.dot.num) (fun h5=>?_) fun h5=>?_
 refine sq<|rG cx [2] [] z0<|sn<|rT<|bR<|nR<|qR (.i .i64 ((2:Int))) (.eq ?g1);rotate_left
 refine sq<|rG cx [1,25] [1] (fT (A86 (e.sku)) (tT 3 (E7:(AV.b !G2 e.sku)=AV.b (decide ¬G2 e.sku=true)) (oA 2 (.b (G2 e.sku)) z0)))<|sn<|dC (¬G2 e.sku=true) (fun h6=>?_) fun h6=>?_
 refine sq<|rG cx [2] [] z0<|sn<|rT<|bR<|nR<|qR (.i .i64 ((5:Int))) (.eq ?g2);rotate_left
 refine sq<|A9 (σ':=⟨[(30,.b (decide (e.qty <(1:Int)∨(1000000:Int) < e.qty)))],[]⟩) ?_ ?_
 refine A4 (e.qty <(1:Int)) (fun h_8=>?_) (fun h_8=>?_)
 refine rG cx [30] [] (tT 2 (A3 h_8) (tD 8 true (e.qty <(1:Int)∨(1000000:Int) < e.qty) (by simp only [eq_true h_8,tsl]) z0)) ?_
 exact⟨rfl,by kernel_rfl⟩
 refine rG cx [30] [] (tT 2 (A0 h_8) (tB 6 ((1000000:Int) < e.qty) (tD 8 (decide ((1000000:Int) < e.qty)) (e.qty <(1:Int)∨(1000000:Int) < e.qty) (by simp only [eq_false h_8,tsl]) z0))) ?_
 exact⟨rfl,by kernel_rfl⟩
 refine sn<|dC (e.qty <(1:Int)∨(1000000:Int) < e.qty) (fun h9=>?_) fun h9=>?_
 refine sq<|rG cx [2] [] z0<|sn<|rT<|bR<|nR<|qR (.i .i64 ((6:Int))) (.eq ?g3);rotate_left
 refine sK<|bN<|sn<|sq<|rG cx [2] [] z0<|sn<|rT<|qR (.i .i64 ((0:Int))) (.eq ?g4);rotate_left
 revert h2;rotate_left
 revert h2 h5;rotate_left
 revert h2 h5 h6;rotate_left
 revert h2 h5 h6 h9;rotate_left
 revert h2 h5 h6 h9;rotate_left
 case' g4=>refine(fun h k l m=>?_)
 case' g3=>refine(fun h k l m=>?_)
 case' g2=>refine(fun h k l=>?_)
 case' g1=>refine(fun h k=>?_)
 case' g0=>refine(fun h=>?_)
 all_goals (unfold U5)
 ·rw[if_pos h]
 ·rw[if_neg h,if_pos k]
 ·rw[if_neg h,if_neg k,if_pos (by simpa using l)]
 ·rw[if_neg h,if_neg k,if_neg (by simpa using l),if_pos m]
 ·rw[if_neg h,if_neg k,if_neg (by simpa using l),if_neg m]
theorem con99(a b:Dot):Con Tryz.prog 99 [.agg (c44 a),.agg (c44 b)] (.b (dLt a b)) :=
 by
 refine sC B3 [.tmp 4] 24 Tryz.func99 ?_
 intro e0 cx
 refine sq<|rG cx [2,3] [2,3] z0<|sn<|sq<|A9 (σ':=⟨[(4,.b (decide (a.rep < b.rep∨a.rep=b.rep∧a.num < b.num)))],[]⟩) ?_ ?_
 refine A4 (a.rep < b.rep) (fun h_1=>?_) (fun h_1=>?_)
 refine rG cx [4] [] (tT 4 (A3 h_1) (tD 19 true (a.rep < b.rep∨a.rep=b.rep∧a.num < b.num) (by simp only [eq_true h_1,tsl]) z0)) ?_
 exact⟨rfl,by kernel_rfl⟩
 refine A4 (a.rep=b.rep) (fun h_2=>?_) (fun h_2=>?_)
 refine rG cx [4] [] (tT 4 (A0 h_1) (tT 10 (A3 h_2) (tB 16 (a.num < b.num) (tD 19 (decide (a.num < b.num)) (a.rep < b.rep∨a.rep=b.rep∧a.num < b.num) (by simp only [eq_false h_1,eq_true h_2,tsl]) z0)))) ?_
 exact⟨rfl,by kernel_rfl⟩
 refine rG cx [4] [] (tT 4 (A0 h_1) (tT 10 (A0 h_2) (tD 19 false (a.rep < b.rep∨a.rep=b.rep∧a.num < b.num) (by simp only [eq_false h_1,eq_false h_2,tsl]) z0))) ?_
 exact⟨rfl,by kernel_rfl⟩
 refine sn<|rT<|qR (.b (decide (a.rep < b.rep∨a.rep=b.rep∧a.num < b.num))) (.eq ?g0);rotate_left
 case g0=>exact rfl
theorem M7(es:List Entry):Con Tryz.prog 24 [.sl (es.map c46)] (.i .i64 (C1 es)) :=
 by
 have e:∀ {i:Int},0≤i→(i-1).toNat=i.toNat-1:=fun {i} h=>by omega
 refine lN 0 c46 (es) Tryz.func24 fun hl_0=>sC B3 [.tmp 2] 32 Tryz.func24 ?_
 intro e0 cx
 refine sq<|rG cx [0] [] z0<|sn<|sq<|sq<|rG cx [0,5,6,7] [] (tL 1 c46 es z0)<|sn<|bL 0<|sL (X:=Int) (fun x=>⟨[(0,.sl (List.map c46 es)),(5,.sl (List.map c46 es)),(6,.i .i64 ((↑es.length:Int))),(7,.i .i64 (x))],[]⟩) (fun x ↦ decL es x) (fun x ↦ B62 es x) [0,5,6,7] [] ((0:Int)) (show B62 es (0:Int)from ?g0) ?_;rotate_left
 intro i0 h_1
 obtain⟨hh2,hh3,hh4⟩:0≤i0∧i0≤(↑es.length:Int)∧∀(j:Nat),(↑j:Int) < i0→Am1 es j=true:=h_1
 refine rE cx [0,5,6,7,8] [] (zB 0 (i0 <(↑es.length:Int))) (fun hh5=>?_) fun hh5=>?_
 refine sK<|sn<|sq<|bL 1<|sq<|rG cx [0,5,6,7,4,3] [4] (fA (0≤i0) (fG c46 es i0.toNat (fR 4 (fN 4 4 (oR 1 (c46 es[i0.toNat]!) z0)))))<|sn<|sq<|A9 (σ':=⟨[(0,.sl (List.map c46 es)),(5,.sl (List.map c46 es)),(6,.i .i64 ((↑es.length:Int))),(7,.i .i64 (i0)),(30,.b (decide (¬U5 es[i0.toNat]! =(0:Int)∨(0:Int) < i0∧¬dLt es[(i0-1).toNat]!.dot es[i0.toNat]!.dot=true)))],[]⟩) ?_ ?_
 refine A4 (¬U5 es[i0.toNat]! =(0:Int)) (fun h_7=>?_) (fun h_7=>?_)
 refine rA cx [0,5,6,7,30] [] (fT (B63 (es[i0.toNat]!)) (tT 2 (G9 h_7:AV.b (U5 es[i0.toNat]! !=0)=AV.b true) (tD 18 true (¬U5 es[i0.toNat]! =(0:Int)∨(0:Int) < i0∧¬dLt es[(i0-1).toNat]!.dot es[i0.toNat]!.dot=true) (by simp only [eq_false h_7,tsl]) (oA 1 (.i .i64 (U5 es[i0.toNat]!)) z0)))) ?_
 exact⟨rfl,by kernel_rfl⟩
 refine A4 ((0:Int) < i0) (fun h_8=>?_) (fun h_8=>?_)
 refine rA cx [0,5,6,7,30] [] (fT (B63 (es[i0.toNat]!)) (tN 2 (U5 es[i0.toNat]!) (0:Int) (tT 3 (A0 h_7) (tT 5 (A3 h_8) (tW 9 (i0-1) (fO (0≤i0-1) (fG c46 es ((i0-1).toNat) (fR 4 (fN 2 4 (fT (con99 (es[(i0-1).toNat]!.dot) (es[i0.toNat]!.dot)) (tT 16 (E7:(AV.b !dLt es[(i0-1).toNat]!.dot es[i0.toNat]!.dot)=AV.b (decide ¬dLt es[(i0-1).toNat]!.dot es[i0.toNat]!.dot=true)) (tT 18 (by first | (simp only [eq_false h_7,eq_true h_8,tsl];done) | simp_all:AV.b (decide ¬dLt es[(i0-1).toNat]!.dot es[i0.toNat]!.dot=true)=AV.b (decide (¬U5 es[i0.toNat]! =(0:Int)∨(0:Int) < i0∧¬dLt es[(i0-1).toNat]!.dot es[i0.toNat]!.dot=true))) (oA 1 (.i .i64 (U5 es[i0.toNat]!)) (oR 10 (c46 es[(i0-1).toNat]!) (oA 15 (.b (dLt es[(i0-1).toNat]!.dot es[i0.toNat]!.dot)) z0))))))))))))))) ?_
 exact⟨rfl,by kernel_rfl⟩
 refine rA cx [0,5,6,7,30] [] (fT (B63 (es[i0.toNat]!)) (tN 2 (U5 es[i0.toNat]!) (0:Int) (tT 3 (A0 h_7) (tT 5 (A0 h_8) (tT 18 (by first | (simp only [eq_false h_7,eq_false h_8,tsl];done) | simp_all:AV.b false=AV.b (decide (¬U5 es[i0.toNat]! =(0:Int)∨(0:Int) < i0∧¬dLt es[(i0-1).toNat]!.dot es[i0.toNat]!.dot=true))) (oA 1 (.i .i64 (U5 es[i0.toNat]!)) z0)))))) ?_
 exact⟨rfl,by kernel_rfl⟩
 refine sn<|dC (¬U5 es[i0.toNat]! =(0:Int)∨(0:Int) < i0∧¬dLt es[(i0-1).toNat]!.dot es[i0.toNat]!.dot=true) (fun h9=>?_) fun h9=>?_
 refine sq<|rG cx [2] [] z0<|sn<|rT<|bR<|nR<|nR<|bR<|nR<|qR (.i .i64 ((1:Int))) (.eq ?g1);rotate_left
 refine sK<|bN<|sn<|rG cx [0,5,6,7] [] (tW 0 (i0+1) z0)<|sn<|nX (i0+1) (show((↑es.length:Int)-(i0+1)).toNat <((↑es.length:Int)-i0).toNat from(by omega)) (show B62 es (i0+1)from ?g2);rotate_left
 refine eX 0<|nE<|nE<|bH<|sn<|sq<|rG cx [2] [] z0<|sn<|rT<|qR (.i .i64 ((0:Int))) (.eq ?g3);rotate_left
 rotate_left
 revert i0 hh2 hh3 hh4 hh5 h9;rotate_left
 revert i0 hh2 hh3 hh4 hh5 h9;rotate_left
 revert i0 hh2 hh3 hh4 hh5;rotate_left
 case g0=>exact⟨by omega,by omega,fun j hj=>by omega⟩
 case' g3=>refine(fun i h0 h1 h2 h3=>?_)
 case' g2=>refine(fun i h0 h1 h2 h3 h4=>?_)
 case' g1=>refine(fun i h0 h1 h2 h3 h4=>?_)
 ·rw[Ag8 (i:=i.toNat) (by omega) (Ag9 _)]
  rw[e h0]at h4
  rw[X4];rintro⟨a,b⟩
  rcases h4 with h4 | ⟨h4,h5⟩
  ·exact h4 a
  ·rcases b with b | b
   ·omega
   ·exact h5 b
 ·rw[e h0]at h4
  refine A8j h0 h3 h2 ((X4 _ _).2 ⟨Classical.byContradiction fun a=>h4 (.inl a),?_⟩)
  by_cases c:i.toNat=0
  ·exact .inl c
  ·exact .inr (Classical.byContradiction fun a=>h4 (.inr ⟨by omega,a⟩))
 ·rw[Au6 fun j hj=>h2 j (by omega)]
end Go.Proofs.YtphcaholhacnpaaGreat
namespace Go.Proofs.YtphcaholhacnpaaGreat
open Go.E
set_option maxRecDepth 100000
set_option maxHeartbeats 4000000
def szP(p:Past):Prop:=p.cloud.length*16≤140737488350000∧p.vec.length≤9223372036854775807
def szQ(rs:List Record):Prop:=∀ r∈rs,szP r.past
theorem szQ_s{rs:List Record}(h:szQ rs):szRs rs:=fun r hr=>(h r hr).1
theorem B3t{rs:List Record}(h:szQ rs){i:Int}(h0:0≤i)(hi:i < rs.length):szP rs[i.toNat]!.past:=h _ (G6 (by omega))
end Go.Proofs.YtphcaholhacnpaaGreat
namespace Go.Proofs.YtphcaholhacnpaaGreat
open Go.E
set_option maxRecDepth 100000
set_option maxHeartbeats 4000000
theorem A3g{e:Entry}:U5 e=0↔K3 e.dot=true∧G2 e.sku=true∧1≤e.qty∧e.qty≤1000000:=by
 unfold U5 K3
 rw[decide_eq_true_iff]
 by_cases a:e.dot.rep < 0∨16≤e.dot.rep
 ·rw[if_pos a];omega
 ·rw[if_neg a]
  by_cases b:e.dot.num < 1∨1000000000 < e.dot.num
  ·rw[if_pos b];omega
  ·rw[if_neg b]
   cases c:G2 e.sku with
   | false=>simp
   | true =>
    rw[if_neg (by simp)]
    by_cases d:e.qty < 1∨1000000 < e.qty
    ·rw[if_pos d]
     exact⟨fun h=>by omega,fun h=>by have:=h.2.2.1;have:=h.2.2.2;omega⟩
    ·rw[if_neg d]
     exact⟨fun _=>⟨by omega,rfl,by omega,by omega⟩,fun _=>rfl⟩
theorem B3u(f:Facts):∃ b:Bool,b=decide (C1 f.adds=0∧f.gone=A6 f.gone∧A48 f.recs=0):=⟨_,rfl⟩
noncomputable def okF(f:Facts):Bool:=Classical.choose (B3u f)
theorem B3v(f:Facts):okF f=decide (C1 f.adds=0∧f.gone=A6 f.gone∧A48 f.recs=0):=Classical.choose_spec (B3u f)
def szF(f:Facts):Prop:=szP f.gone∧szQ f.recs
theorem A8k(e:Entry):Con Tryz.prog 148 [.agg (c46 e)] (.b (decide (U5 e=0))) :=
 by
 refine sC B3 [.tmp 2] 21 Tryz.func148 ?_
 intro e0 cx
 refine sq<|rG cx [1] [1] z0<|sn<|sq<|A9 (σ':=⟨[(2,.b (decide (K3 e.dot=true∧G2 e.sku=true∧1≤e.qty∧e.qty≤1000000)))],[]⟩) ?_ ?_
 refine A4 (K3 e.dot=true) (fun h_1=>?_) (fun h_1=>?_)
 refine A4 (G2 e.sku=true) (fun h_2=>?_) (fun h_2=>?_)
 refine A4 (1≤e.qty) (fun h_3=>?_) (fun h_3=>?_)
 refine rg (A:=_∧_∧_∧_∧_∧(AV.b (decide (e.qty≤1000000))=AV.b (decide (e.qty≤1000000)))∧(AV.b (decide (e.qty≤1000000))=AV.b (decide (K3 e.dot=true∧G2 e.sku=true∧1≤e.qty∧e.qty≤1000000)))) cx [(2,{ val:=some (.b (K3 e.dot)),tell:=some (.b (true)) }),(6,{ val:=some (.b (G2 e.sku)),tell:=some (.b (true)) }),(11,{ tell:=some (.b (true)) }),(16,{ tell:=some (.b (decide (e.qty≤1000000))) }),(18,{ tell:=some (.b (decide (K3 e.dot=true∧G2 e.sku=true∧1≤e.qty∧e.qty≤1000000))) })] [2] [] ⟨(S6 h_1),(As5 (e.dot)),(S6 h_2),(Af9 (e.sku)),(A3 h_3),(by kernel_rfl),(by simp only [eq_true h_1,eq_true h_2,eq_true h_3,tsl])⟩ ?_
 exact⟨rfl,by kernel_rfl⟩
 refine rg (A:=_∧_∧_∧_∧_∧(AV.b false=AV.b (decide (K3 e.dot=true∧G2 e.sku=true∧1≤e.qty∧e.qty≤1000000)))) cx [(2,{ val:=some (.b (K3 e.dot)),tell:=some (.b (true)) }),(6,{ val:=some (.b (G2 e.sku)),tell:=some (.b (true)) }),(11,{ tell:=some (.b (false)) }),(18,{ tell:=some (.b (decide (K3 e.dot=true∧G2 e.sku=true∧1≤e.qty∧e.qty≤1000000))) })] [2] [] ⟨(S6 h_1),(As5 (e.dot)),(S6 h_2),(Af9 (e.sku)),(A0 h_3),(by simp only [eq_true h_1,eq_true h_2,eq_false h_3,tsl])⟩ ?_
 exact⟨rfl,by kernel_rfl⟩
 refine rg (A:=_∧_∧_∧_∧(AV.b false=AV.b (decide (K3 e.dot=true∧G2 e.sku=true∧1≤e.qty∧e.qty≤1000000)))) cx [(2,{ val:=some (.b (K3 e.dot)),tell:=some (.b (true)) }),(6,{ val:=some (.b (G2 e.sku)),tell:=some (.b (false)) }),(18,{ tell:=some (.b (decide (K3 e.dot=true∧G2 e.sku=true∧1≤e.qty∧e.qty≤1000000))) })] [2] [] ⟨(S6 h_1),(As5 (e.dot)),(A09 h_2),(Af9 (e.sku)),(by simp only [eq_true h_1,eq_false h_2,tsl])⟩ ?_
 exact⟨rfl,by kernel_rfl⟩
 refine rg (A:=_∧_∧(AV.b false=AV.b (decide (K3 e.dot=true∧G2 e.sku=true∧1≤e.qty∧e.qty≤1000000)))) cx [(2,{ val:=some (.b (K3 e.dot)),tell:=some (.b (false)) }),(18,{ tell:=some (.b (decide (K3 e.dot=true∧G2 e.sku=true∧1≤e.qty∧e.qty≤1000000))) })] [2] [] ⟨(A09 h_1),(As5 (e.dot)),(by simp only [eq_false h_1,tsl])⟩ ?_
 exact⟨rfl,by kernel_rfl⟩
 refine sn<|rT<|qR (.b (decide (K3 e.dot=true∧G2 e.sku=true∧1≤e.qty∧e.qty≤1000000))) (.eq ?g0);rotate_left
 case g0=>rw[decide_eq_decide.2 A3g]
theorem con149(a b:Dot):Con Tryz.prog 149 [.agg (c44 a),.agg (c44 b)] (.b (dLt a b)) :=
 by
 refine sC B3 [.tmp 4] 24 Tryz.func149 ?_
 intro e0 cx
 refine sq<|rG cx [2,3] [2,3] z0<|sn<|sq<|A9 (σ':=⟨[(4,.b (decide (a.rep < b.rep∨a.rep=b.rep∧a.num < b.num)))],[]⟩) ?_ ?_
 refine A4 (a.rep < b.rep) (fun h_1=>?_) (fun h_1=>?_)
 refine rG cx [4] [] (tT 4 (A3 h_1) (tD 19 true (a.rep < b.rep∨a.rep=b.rep∧a.num < b.num) (by simp only [eq_true h_1,tsl]) z0)) ?_
 exact⟨rfl,by kernel_rfl⟩
 refine A4 (a.rep=b.rep) (fun h_2=>?_) (fun h_2=>?_)
 refine rG cx [4] [] (tT 4 (A0 h_1) (tT 10 (A3 h_2) (tB 16 (a.num < b.num) (tD 19 (decide (a.num < b.num)) (a.rep < b.rep∨a.rep=b.rep∧a.num < b.num) (by simp only [eq_false h_1,eq_true h_2,tsl]) z0)))) ?_
 exact⟨rfl,by kernel_rfl⟩
 refine rG cx [4] [] (tT 4 (A0 h_1) (tT 10 (A0 h_2) (tD 19 false (a.rep < b.rep∨a.rep=b.rep∧a.num < b.num) (by simp only [eq_false h_1,eq_false h_2,tsl]) z0))) ?_
 exact⟨rfl,by kernel_rfl⟩
 refine sn<|rT<|qR (.b (decide (a.rep < b.rep∨a.rep=b.rep∧a.num < b.num))) (.eq ?g0);rotate_left
 case g0=>exact rfl
theorem Au7(es:List Entry):Con Tryz.prog 73 [.sl (es.map c46)] (.b (decide (C1 es=0))) :=
 by
 have e:∀ {i:Int},0≤i→(i-1).toNat=i.toNat-1:=fun {i} h=>by omega
 refine lN 0 c46 (es) Tryz.func73 fun hl_0=>sC B3 [.tmp 2] 35 Tryz.func73 ?_
 intro e0 cx
 refine sq<|rG cx [0] [] z0<|sn<|sq<|sq<|rG cx [0,3] [] z0<|sn<|bL 0<|sL (X:=Int) (fun x=>⟨[(0,.sl (List.map c46 es)),(3,.i .i64 (x))],[]⟩) (fun x ↦ decL es x) (fun x ↦ B62 es x) [0,3] [] ((0:Int)) (show B62 es (0:Int)from(by exact⟨by omega,by omega,fun j hj=>by omega⟩)) ?_
 intro i0 h_1
 obtain⟨hh2,hh3,hh4⟩:0≤i0∧i0≤(↑es.length:Int)∧∀(j:Nat),(↑j:Int) < i0→Am1 es j=true:=h_1
 refine sq<|rD cx [0,3,7] [] (tL 2 c46 es (zB 3 (i0 <(↑es.length:Int)))) (fun hh5=>?_) fun hh5=>?_
 refine sK<|sn<|sq<|bL 1<|sq<|A9 (σ':=⟨[(0,.sl (List.map c46 es)),(3,.i .i64 (i0)),(34,.b (decide (¬U5 es[i0.toNat]! =(0:Int)∨(0:Int) < i0∧¬dLt es[(i0-1).toNat]!.dot es[i0.toNat]!.dot=true)))],[]⟩) ?_ ?_
 refine A4 (¬U5 es[i0.toNat]! =(0:Int)) (fun h_7=>?_) (fun h_7=>?_)
 refine ra (A:=(0≤i0)∧((List.map c46 es)[i0.toNat]?=some (c46 es[i0.toNat]!))∧((c46 es[i0.toNat]!).length=(4:Nat))∧((4:Nat)≤[AV.i .i64 es[i0.toNat]!.dot.rep,AV.i .i64 es[i0.toNat]!.dot.num,AV.s es[i0.toNat]!.sku,AV.i .i64 es[i0.toNat]!.qty].length)∧_∧_∧(AV.b true=AV.b (decide (¬U5 es[i0.toNat]! =(0:Int)∨(0:Int) < i0∧¬dLt es[(i0-1).toNat]!.dot es[i0.toNat]!.dot=true)))) cx [(2,{ row:=(c46 es[i0.toNat]!) }),(4,{ val:=some (.b (decide (U5 es[i0.toNat]! =(0:Int)))),tell:=some (.b (false)) }),(24,{ tell:=some (.b (decide (¬U5 es[i0.toNat]! =(0:Int)∨(0:Int) < i0∧¬dLt es[(i0-1).toNat]!.dot es[i0.toNat]!.dot=true))) })] [0,3,34] [] ⟨(by(with_reducible assumption)),(by(with_reducible refine G5 ?_;omega)),(by kernel_rfl),(by(simp only [List.length_append,List.length_cons,List.length_nil];omega)),(A0 h_7),(A8k (es[i0.toNat]!)),(by simp only [eq_false h_7,tsl])⟩ ?_
 exact⟨rfl,by kernel_rfl⟩
 refine A4 ((0:Int) < i0) (fun h_8=>?_) (fun h_8=>?_)
 refine rA cx [0,3,34] [] (fA (0≤i0) (fG c46 es i0.toNat (fR 4 (fN 4 4 (fT (A8k (es[i0.toNat]!)) (tQ 5 (U5 es[i0.toNat]! =(0:Int)) (tT 6 (A0 h_7) (tT 8 (A3 h_8) (tW 12 (i0-1) (fO (0≤i0-1) (fG c46 es ((i0-1).toNat) (fR 4 (fN 2 4 (fA (0≤i0) (fG c46 es i0.toNat (fR 4 (fN 2 4 (fT (con149 (es[(i0-1).toNat]!.dot) (es[i0.toNat]!.dot)) (tT 22 (E7:(AV.b !dLt es[(i0-1).toNat]!.dot es[i0.toNat]!.dot)=AV.b (decide ¬dLt es[(i0-1).toNat]!.dot es[i0.toNat]!.dot=true)) (tT 24 (by first | (simp only [eq_false h_7,eq_true h_8,tsl];done) | simp_all:AV.b (decide ¬dLt es[(i0-1).toNat]!.dot es[i0.toNat]!.dot=true)=AV.b (decide (¬U5 es[i0.toNat]! =(0:Int)∨(0:Int) < i0∧¬dLt es[(i0-1).toNat]!.dot es[i0.toNat]!.dot=true))) (oR 2 (c46 es[i0.toNat]!) (oA 4 (A95 (A8k (es[i0.toNat]!))) (oR 13 (c46 es[(i0-1).toNat]!) (oR 18 (c46 es[i0.toNat]!) (oA 21 (.b (dLt es[(i0-1).toNat]!.dot es[i0.toNat]!.dot)) z0))))))))))))))))))))))))) ?_
 exact⟨rfl,by kernel_rfl⟩
 refine rA cx [0,3,34] [] (fA (0≤i0) (fG c46 es i0.toNat (fR 4 (fN 4 4 (fT (A8k (es[i0.toNat]!)) (tQ 5 (U5 es[i0.toNat]! =(0:Int)) (tT 6 (A0 h_7) (tT 8 (A0 h_8) (tT 24 (by first | (simp only [eq_false h_7,eq_false h_8,tsl];done) | simp_all:AV.b false=AV.b (decide (¬U5 es[i0.toNat]! =(0:Int)∨(0:Int) < i0∧¬dLt es[(i0-1).toNat]!.dot es[i0.toNat]!.dot=true))) (oR 2 (c46 es[i0.toNat]!) (oA 4 (A95 (A8k (es[i0.toNat]!))) z0))))))))))) ?_
 exact⟨rfl,by kernel_rfl⟩
 refine sn<|dC (¬U5 es[i0.toNat]! =(0:Int)∨(0:Int) < i0∧¬dLt es[(i0-1).toNat]!.dot es[i0.toNat]!.dot=true) (fun h9=>?_) fun h9=>?_
 refine sq<|rG cx [2] [] z0<|sn<|rT<|bR<|nR<|nR<|bR<|nR<|qR (.b (false)) (.eq ?g1);rotate_left
 refine sK<|bN<|sn<|rG cx [0,3] [] (tW 1 (i0+1) z0)<|sn<|nX (i0+1) (show((↑es.length:Int)-(i0+1)).toNat <((↑es.length:Int)-i0).toNat from(by omega)) (show B62 es (i0+1)from ?g2);rotate_left
 refine eX 0<|nE<|nE<|bH<|sn<|sq<|rG cx [2] [] z0<|sn<|rT<|qR (.b (true)) (.eq (by rw[Au6 fun j hj=>hh4 j (by omega)];rfl))
 case g1 =>
  revert i0 hh2 hh3 hh4 hh5 h9
  intro i h0 h1 h2 h3 h4
  rw[Ag8 (i:=i.toNat) (by omega) (Ag9 _)]
  ·rfl
  rw[e h0]at h4
  rw[X4];rintro⟨a,b⟩
  rcases h4 with h4 | ⟨h4,h5⟩
  ·exact h4 a
  ·rcases b with b | b
   ·omega
   ·exact h5 b
 case g2 =>
  rw[e hh2]at h9
  refine A8j hh2 hh5 hh4 ((X4 _ _).2 ⟨Classical.byContradiction fun a=>h9 (.inl a),?_⟩)
  by_cases c:i0.toNat=0
  ·exact .inl c
  ·exact .inr (Classical.byContradiction fun a=>h9 (.inr ⟨by omega,a⟩))
theorem con87(f:Facts)(hb:szF f):Con Tryz.prog 87 [.agg (c36 f)] (.b (okF f)) :=
 by
 refine sC B3 [.tmp 2] 18 Tryz.func87 ?_
 intro e0 cx
 refine sq<|rG cx [1] [1] z0<|sn<|sq<|A9 (σ':=⟨[(2,.b (decide (C1 f.adds=0∧f.gone=A6 f.gone∧A48 f.recs=0)))],[]⟩) ?_ ?_
 refine A4 (C1 f.adds=0) (fun h1=>?_) (fun h1=>?_)
 refine A4 (f.gone=A6 f.gone) (fun h2=>?_) (fun h2=>?_)
 refine rg (A:=_∧_∧_∧_∧_∧(AV.b (A48 f.recs ==(0:Int))=AV.b (decide (A48 f.recs=0)))∧(AV.b (decide (A48 f.recs=0))=AV.b (decide (C1 f.adds=0∧f.gone=A6 f.gone∧A48 f.recs=0)))) cx [(2,{ val:=some (.i .i64 (C1 f.adds)) }),(3,{ tell:=some (.b (true)) }),(7,{ val:=some (.b (decide (f.gone=A6 f.gone))),tell:=some (.b (true)) }),(12,{ val:=some (.i .i64 (A48 f.recs)) }),(13,{ tell:=some (.b (decide (A48 f.recs=0))) }),(15,{ tell:=some (.b (decide (C1 f.adds=0∧f.gone=A6 f.gone∧A48 f.recs=0))) })] [2] [] ⟨(M7 (f.adds)),(A3 h1),(A3 h2),(A0f (f.gone) (by exact hb.1.1)),(con160 (f.recs) (by exact szQ_s hb.2)),(by kernel_rfl),(by simp only [eq_true h1,eq_true h2,tsl])⟩ ?_
 exact⟨rfl,by kernel_rfl⟩
 refine rg (A:=_∧_∧_∧_∧(AV.b false=AV.b (decide (C1 f.adds=0∧f.gone=A6 f.gone∧A48 f.recs=0)))) cx [(2,{ val:=some (.i .i64 (C1 f.adds)) }),(3,{ tell:=some (.b (true)) }),(7,{ val:=some (.b (decide (f.gone=A6 f.gone))),tell:=some (.b (false)) }),(15,{ tell:=some (.b (decide (C1 f.adds=0∧f.gone=A6 f.gone∧A48 f.recs=0))) })] [2] [] ⟨(M7 (f.adds)),(A3 h1),(A0 h2),(A0f (f.gone) (by exact hb.1.1)),(by simp only [eq_true h1,eq_false h2,tsl])⟩ ?_
 exact⟨rfl,by kernel_rfl⟩
 refine rG cx [2] [] (fT (M7 (f.adds)) (tT 3 (A0 h1) (tD 15 false (C1 f.adds=0∧f.gone=A6 f.gone∧A48 f.recs=0) (by simp only [eq_false h1,tsl]) (oA 2 (.i .i64 (C1 f.adds)) z0)))) ?_
 exact⟨rfl,by kernel_rfl⟩
 refine sn<|rT<|qR (.b (decide (C1 f.adds=0∧f.gone=A6 f.gone∧A48 f.recs=0))) (.eq (by rw[B3v]))
end Go.Proofs.YtphcaholhacnpaaGreat
namespace Go.Proofs.YtphcaholhacnpaaGreat
open Go.E
set_option maxRecDepth 100000
set_option maxHeartbeats 4000000
noncomputable def G8(a:Actn):Int:=if a.kind < 1∨6 < a.kind then 7 else if(a.kind=4∨a.kind=6)∧¬ a.past=A6 a.past then 1 else if a.kind≤4∧G2 a.sku=false then 5 else if a.kind≤2∧(a.qty < 1∨1000000 < a.qty)then 6 else 0
noncomputable def G4(p:Past)(rep count:Int):Dot×Int:=if ¬ p=A6 p then(default,1)else H1 p rep count
noncomputable def evE(f:Facts):Int:=if okF f=false then 1 else if f.adds.length=1∧f.recs.length=0 then(if E6 f.gone f.adds[0]!.dot.rep < f.adds[0]!.dot.num then 0 else 2)
 else if f.adds.length=0∧f.recs.length=0 then 0 else if f.adds.length=0∧f.recs.length=1∧C6 f.gone=0 then 0 else 2
theorem Aa6{b:Bool}(h:¬ b=true):b=false:=by cases b <;> simp_all
theorem A0t{b:Bool}(h:¬ ¬ b=true):¬ b=false:=by cases b <;> simp_all
theorem B2a{es:List Entry}(h:(es.length:Int)=1):(es.map c46)[Int.toNat 0]?=some (c46 es[0]!):=by
 cases es with
 | nil=>simp at h
 | cons e es=>rfl
theorem Aa7(a:Actn)(hb:szP a.past):Con Tryz.prog 83 [.agg (c30 a)] (.i .i64 (G8 a)) :=
 by
 refine sC B3 [.tmp 2] 69 Tryz.func83 ?_
 intro e0 cx
 refine sq<|rG cx [1] [1] z0<|sn<|sq<|sq<|A9 (σ':=⟨[(1,.ptr (1) (0) (0) (0)),(13,.b (decide (a.kind <(1:Int)∨(6:Int) < a.kind)))],[(1,⟨0,30,.var [.i .i64 (a.kind),.s (a.sku),.i .i64 (a.qty),.sl (List.map c3 a.past.vec),.sl (List.map B1 a.past.cloud)]⟩)]⟩) ?_ ?_
 refine A4 (a.kind <(1:Int)) (fun h_1=>?_) (fun h_1=>?_)
 refine rG cx [1,13] [1] (tT 2 (A3 h_1) (tD 7 true (a.kind <(1:Int)∨(6:Int) < a.kind) (by simp only [eq_true h_1,tsl]) z0)) ?_
 exact⟨rfl,by kernel_rfl⟩
 refine rG cx [1,13] [1] (tT 2 (A0 h_1) (tB 6 ((6:Int) < a.kind) (tD 7 (decide ((6:Int) < a.kind)) (a.kind <(1:Int)∨(6:Int) < a.kind) (by simp only [eq_false h_1,tsl]) z0))) ?_
 exact⟨rfl,by kernel_rfl⟩
 refine sn<|dC (a.kind <(1:Int)∨(6:Int) < a.kind) (fun hh2=>?_) fun hh2=>?_
 refine sq<|rG cx [2] [] z0<|sn<|rT<|nR<|qR (.i .i64 ((7:Int))) (.eq (by unfold G8;rw[if_pos hh2]))
 refine sK<|sn<|sq<|A9 (σ':=⟨[(1,.ptr (1) (0) (0) (0)),(3,.b (decide (a.kind=4∨a.kind=6)))],[(1,⟨0,30,.var [.i .i64 (a.kind),.s (a.sku),.i .i64 (a.qty),.sl (List.map c3 a.past.vec),.sl (List.map B1 a.past.cloud)]⟩)]⟩) ?_ ?_
 refine A4 (a.kind=4) (fun h_4=>?_) (fun h_4=>?_)
 refine rG cx [1,3] [1] (tT 2 (A3 h_4) (tD 8 true (a.kind=4∨a.kind=6) (by simp only [eq_true h_4,tsl]) z0)) ?_
 exact⟨rfl,by kernel_rfl⟩
 refine rG cx [1,3] [1] (tT 2 (A0 h_4) (tB 6 (a.kind=6) (tD 8 (decide (a.kind=6)) (a.kind=4∨a.kind=6) (by simp only [eq_false h_4,tsl]) z0))) ?_
 exact⟨rfl,by kernel_rfl⟩
 refine sn<|sq<|A9 (σ':=⟨[(1,.ptr (1) (0) (0) (0)),(3,.b (decide (a.kind=4∨a.kind=6))),(4,.b (decide (a.kind=1∨a.kind=2)))],[(1,⟨0,30,.var [.i .i64 (a.kind),.s (a.sku),.i .i64 (a.qty),.sl (List.map c3 a.past.vec),.sl (List.map B1 a.past.cloud)]⟩)]⟩) ?_ ?_
 refine A4 (a.kind=1) (fun h_6=>?_) (fun h_6=>?_)
 refine rG cx [1,3,4] [1] (tT 2 (A3 h_6) (tD 8 true (a.kind=1∨a.kind=2) (by simp only [eq_true h_6,tsl]) z0)) ?_
 exact⟨rfl,by kernel_rfl⟩
 refine rG cx [1,3,4] [1] (tT 2 (A0 h_6) (tB 6 (a.kind=2) (tD 8 (decide (a.kind=2)) (a.kind=1∨a.kind=2) (by simp only [eq_false h_6,tsl]) z0))) ?_
 exact⟨rfl,by kernel_rfl⟩
 refine sn<|sq<|A9 (σ':=⟨[(1,.ptr (1) (0) (0) (0)),(3,.b (decide (a.kind=4∨a.kind=6))),(4,.b (decide (a.kind=1∨a.kind=2))),(5,.b (decide ((a.kind=1∨a.kind=2)∨a.kind=3∨a.kind=4)))],[(1,⟨0,30,.var [.i .i64 (a.kind),.s (a.sku),.i .i64 (a.qty),.sl (List.map c3 a.past.vec),.sl (List.map B1 a.past.cloud)]⟩)]⟩) ?_ ?_
 refine A4 (a.kind=1∨a.kind=2) (fun h_8=>?_) (fun h_8=>?_)
 refine rG cx [1,3,4,5] [1] (tT 0 (A3 h_8) (tD 11 true ((a.kind=1∨a.kind=2)∨a.kind=3∨a.kind=4) (by simp only [eq_true h_8,tsl]) z0)) ?_
 exact⟨rfl,by kernel_rfl⟩
 refine A4 (a.kind=3) (fun h_9=>?_) (fun h_9=>?_)
 refine rG cx [1,3,4,5] [1] (tT 0 (A0 h_8) (tT 4 (A3 h_9) (tD 11 true ((a.kind=1∨a.kind=2)∨a.kind=3∨a.kind=4) (by simp only [eq_false h_8,eq_true h_9,tsl]) z0))) ?_
 exact⟨rfl,by kernel_rfl⟩
 refine rG cx [1,3,4,5] [1] (tT 0 (A0 h_8) (tT 4 (A0 h_9) (tB 9 (a.kind=4) (tD 11 (decide (a.kind=4)) ((a.kind=1∨a.kind=2)∨a.kind=3∨a.kind=4) (by simp only [eq_false h_8,eq_false h_9,tsl]) z0)))) ?_
 exact⟨rfl,by kernel_rfl⟩
 refine sn<|sq<|bL 0<|sq<|A9 (σ':=⟨[(1,.ptr (1) (0) (0) (0)),(4,.b (decide (a.kind=1∨a.kind=2))),(5,.b (decide ((a.kind=1∨a.kind=2)∨a.kind=3∨a.kind=4))),(41,.b (decide ((a.kind=4∨a.kind=6)∧¬a.past=A6 a.past)))],[(1,⟨0,30,.var [.i .i64 (a.kind),.s (a.sku),.i .i64 (a.qty),.sl (List.map c3 a.past.vec),.sl (List.map B1 a.past.cloud)]⟩)]⟩) ?_ ?_
 refine A4 (a.kind=4∨a.kind=6) (fun h11=>?_) (fun h11=>?_)
 refine rG cx [1,4,5,41] [1] (tT 0 (A3 h11) (fT (A0f (a.past) (by exact hb.1)) (tQ 5 (a.past=A6 a.past) (tD 7 (decide ¬a.past=A6 a.past) ((a.kind=4∨a.kind=6)∧¬a.past=A6 a.past) (by simp only [eq_true h11,tsl]) (oA 4 (.b (decide (a.past=A6 a.past))) z0))))) ?_
 exact⟨rfl,by kernel_rfl⟩
 refine rG cx [1,4,5,41] [1] (tT 0 (A0 h11) (tD 7 false ((a.kind=4∨a.kind=6)∧¬a.past=A6 a.past) (by simp only [eq_false h11,tsl]) z0)) ?_
 exact⟨rfl,by kernel_rfl⟩
 refine sn<|dC ((a.kind=4∨a.kind=6)∧¬a.past=A6 a.past) (fun h12=>?_) fun h12=>?_
 refine sq<|rG cx [2] [] z0<|sn<|rT<|bR<|nR<|qR (.i .i64 ((1:Int))) (.eq (by unfold G8;rw[if_neg hh2,if_pos h12]))
 refine sq<|A9 (σ':=⟨[(1,.ptr (1) (0) (0) (0)),(4,.b (decide (a.kind=1∨a.kind=2))),(49,.b (decide (((a.kind=1∨a.kind=2)∨a.kind=3∨a.kind=4)∧¬G2 a.sku=true)))],[(1,⟨0,30,.var [.i .i64 (a.kind),.s (a.sku),.i .i64 (a.qty),.sl (List.map c3 a.past.vec),.sl (List.map B1 a.past.cloud)]⟩)]⟩) ?_ ?_
 refine A4 ((a.kind=1∨a.kind=2)∨a.kind=3∨a.kind=4) (fun h_14=>?_) (fun h_14=>?_)
 refine rG cx [1,4,49] [1] (tT 0 (A3 h_14) (fT (A86 (a.sku)) (tT 5 (E7:(AV.b !G2 a.sku)=AV.b (decide ¬G2 a.sku=true)) (tD 7 (decide ¬G2 a.sku=true) (((a.kind=1∨a.kind=2)∨a.kind=3∨a.kind=4)∧¬G2 a.sku=true) (by simp only [eq_true h_14,tsl]) (oA 4 (.b (G2 a.sku)) z0))))) ?_
 exact⟨rfl,by kernel_rfl⟩
 refine rG cx [1,4,49] [1] (tT 0 (A0 h_14) (tD 7 false (((a.kind=1∨a.kind=2)∨a.kind=3∨a.kind=4)∧¬G2 a.sku=true) (by simp only [eq_false h_14,tsl]) z0)) ?_
 exact⟨rfl,by kernel_rfl⟩
 refine sn<|dC (((a.kind=1∨a.kind=2)∨a.kind=3∨a.kind=4)∧¬G2 a.sku=true) (fun h15=>?_) fun h15=>?_
 refine sq<|rG cx [2] [] z0<|sn<|rT<|bR<|nR<|qR (.i .i64 ((5:Int))) (.eq (by unfold G8;rw[if_neg hh2,if_neg h12,if_pos ⟨by omega,Aa6 h15.2⟩]))
 refine sq<|A9 (σ':=⟨[(57,.b (decide ((a.kind=1∨a.kind=2)∧(a.qty <(1:Int)∨(1000000:Int) < a.qty))))],[]⟩) ?_ ?_
 refine A4 (a.kind=1∨a.kind=2) (fun h_17=>?_) (fun h_17=>?_)
 refine A4 (a.qty <(1:Int)) (fun h_18=>?_) (fun h_18=>?_)
 refine rG cx [57] [] (tT 0 (A3 h_17) (tT 4 (A3 h_18) (tD 11 true ((a.kind=1∨a.kind=2)∧(a.qty <(1:Int)∨(1000000:Int) < a.qty)) (by simp only [eq_true h_17,eq_true h_18,tsl]) z0))) ?_
 exact⟨rfl,by kernel_rfl⟩
 refine rG cx [57] [] (tT 0 (A3 h_17) (tT 4 (A0 h_18) (tB 8 ((1000000:Int) < a.qty) (tD 11 (decide ((1000000:Int) < a.qty)) ((a.kind=1∨a.kind=2)∧(a.qty <(1:Int)∨(1000000:Int) < a.qty)) (by simp only [eq_true h_17,eq_false h_18,tsl]) z0)))) ?_
 exact⟨rfl,by kernel_rfl⟩
 refine rG cx [57] [] (tT 0 (A0 h_17) (tD 11 false ((a.kind=1∨a.kind=2)∧(a.qty <(1:Int)∨(1000000:Int) < a.qty)) (by simp only [eq_false h_17,tsl]) z0)) ?_
 exact⟨rfl,by kernel_rfl⟩
 refine sn<|dC ((a.kind=1∨a.kind=2)∧(a.qty <(1:Int)∨(1000000:Int) < a.qty)) (fun h19=>?_) fun h19=>?_
 refine sq<|rG cx [2] [] z0<|sn<|rT<|bR<|nR<|qR (.i .i64 ((6:Int))) (.eq (by unfold G8;rw[if_neg hh2,if_neg h12,if_neg (fun c=>h15 ⟨by omega,by rw[c.2];simp⟩),if_pos ⟨by omega,h19.2⟩]))
 refine sK<|bN<|sn<|sq<|rG cx [2] [] z0<|sn<|rT<|qR (.i .i64 ((0:Int))) (.eq (by unfold G8;rw[if_neg hh2,if_neg h12,if_neg (fun c=>h15 ⟨by omega,by rw[c.2];simp⟩),if_neg (fun c=>h19 ⟨by omega,c.2⟩)]))
theorem con75(a:Actn)(hb:szP a.past):Con Tryz.prog 75 [.agg (c30 a)] (.i .i64 (G8 a)) :=
 by
 have k:(a.kind=4∧¬a.past=A6 a.past∨¬a.kind=4∧a.kind=6∧¬a.past=A6 a.past)↔(a.kind=4∨a.kind=6)∧¬ a.past=A6 a.past:=by
  constructor
  ·rintro(h | h)
   ·exact⟨.inl h.1,h.2⟩
   ·exact⟨.inr h.2.1,h.2.2⟩
  ·rintro⟨h | h,n⟩
   ·exact .inl ⟨h,n⟩
   ·exact .inr ⟨by omega,h,n⟩
 refine sC B3 [.tmp 2] 47 Tryz.func75 ?_
 intro e0 cx
 refine sq<|rG cx [1] [1] z0<|sn<|sq<|sq<|A9 (σ':=⟨[(1,.ptr (1) (0) (0) (0)),(10,.b (decide (a.kind <(1:Int)∨(6:Int) < a.kind)))],[(1,⟨0,30,.var [.i .i64 (a.kind),.s (a.sku),.i .i64 (a.qty),.sl (List.map c3 a.past.vec),.sl (List.map B1 a.past.cloud)]⟩)]⟩) ?_ ?_
 refine A4 (a.kind <(1:Int)) (fun h_1=>?_) (fun h_1=>?_)
 refine rG cx [1,10] [1] (tT 2 (A3 h_1) (tD 7 true (a.kind <(1:Int)∨(6:Int) < a.kind) (by simp only [eq_true h_1,tsl]) z0)) ?_
 exact⟨rfl,by kernel_rfl⟩
 refine rG cx [1,10] [1] (tT 2 (A0 h_1) (tB 6 ((6:Int) < a.kind) (tD 7 (decide ((6:Int) < a.kind)) (a.kind <(1:Int)∨(6:Int) < a.kind) (by simp only [eq_false h_1,tsl]) z0))) ?_
 exact⟨rfl,by kernel_rfl⟩
 refine sn<|dC (a.kind <(1:Int)∨(6:Int) < a.kind) (fun hh2=>?_) fun hh2=>?_
 refine sq<|rG cx [2] [] z0<|sn<|rT<|nR<|qR (.i .i64 ((7:Int))) (.eq (by unfold G8;rw[if_pos hh2]))
 refine sK<|sn<|sq<|sq<|A9 (σ':=⟨[(1,.ptr (1) (0) (0) (0)),(24,.b (decide (a.kind=4∧¬a.past=A6 a.past∨¬a.kind=4∧a.kind=6∧¬a.past=A6 a.past)))],[(1,⟨0,30,.var [.i .i64 (a.kind),.s (a.sku),.i .i64 (a.qty),.sl (List.map c3 a.past.vec),.sl (List.map B1 a.past.cloud)]⟩)]⟩) ?_ ?_
 refine A4 (a.kind=4) (fun h4=>?_) (fun h4=>?_)
 refine rG cx [1,24] [1] (tT 2 (A3 h4) (fT (Au1 (a.past) (by exact hb.1) (by exact hb.2)) (tQ 12 (a.past=A6 a.past) (tD 13 (decide ¬a.past=A6 a.past) (a.kind=4∧¬a.past=A6 a.past∨¬a.kind=4∧a.kind=6∧¬a.past=A6 a.past) (by simp only [eq_true h4,tsl]) (oA 11 (.b (decide (a.past=A6 a.past))) z0))))) ?_
 exact⟨rfl,by kernel_rfl⟩
 refine A4 (a.kind=6) (fun h5=>?_) (fun h5=>?_)
 refine rG cx [1,24] [1] (tT 2 (A0 h4) (tT 6 (A3 h5) (fT (Au1 (a.past) (by exact hb.1) (by exact hb.2)) (tQ 12 (a.past=A6 a.past) (tD 13 (decide ¬a.past=A6 a.past) (a.kind=4∧¬a.past=A6 a.past∨¬a.kind=4∧a.kind=6∧¬a.past=A6 a.past) (by simp only [eq_false h4,eq_true h5,tsl]) (oA 11 (.b (decide (a.past=A6 a.past))) z0)))))) ?_
 exact⟨rfl,by kernel_rfl⟩
 refine rG cx [1,24] [1] (tT 2 (A0 h4) (tT 6 (A0 h5) (tD 13 false (a.kind=4∧¬a.past=A6 a.past∨¬a.kind=4∧a.kind=6∧¬a.past=A6 a.past) (by simp only [eq_false h4,eq_false h5,tsl]) z0))) ?_
 exact⟨rfl,by kernel_rfl⟩
 refine sn<|dC (a.kind=4∧¬a.past=A6 a.past∨¬a.kind=4∧a.kind=6∧¬a.past=A6 a.past) (fun h6=>?_) fun h6=>?_
 refine sq<|rG cx [2] [] z0<|sn<|rT<|nR<|qR (.i .i64 ((1:Int))) (.eq (by rw[k]at h6;unfold G8;rw[if_neg hh2,if_pos h6]))
 refine sK<|sn<|sq<|sq<|A9 (σ':=⟨[(1,.ptr (1) (0) (0) (0)),(33,.b (decide (a.kind≤4∧¬G2 a.sku=true)))],[(1,⟨0,30,.var [.i .i64 (a.kind),.s (a.sku),.i .i64 (a.qty),.sl (List.map c3 a.past.vec),.sl (List.map B1 a.past.cloud)]⟩)]⟩) ?_ ?_
 refine A4 (a.kind≤4) (fun h_8=>?_) (fun h_8=>?_)
 refine rG cx [1,33] [1] (tT 2 (A3 h_8) (fT (Af9 (a.sku)) (tT 7 (E7:(AV.b !G2 a.sku)=AV.b (decide ¬G2 a.sku=true)) (tD 8 (decide ¬G2 a.sku=true) (a.kind≤4∧¬G2 a.sku=true) (by simp only [eq_true h_8,tsl]) (oA 6 (.b (G2 a.sku)) z0))))) ?_
 exact⟨rfl,by kernel_rfl⟩
 refine rG cx [1,33] [1] (tT 2 (A0 h_8) (tD 8 false (a.kind≤4∧¬G2 a.sku=true) (by simp only [eq_false h_8,tsl]) z0)) ?_
 exact⟨rfl,by kernel_rfl⟩
 refine sn<|dC (a.kind≤4∧¬G2 a.sku=true) (fun h9=>?_) fun h9=>?_
 refine sq<|rG cx [2] [] z0<|sn<|rT<|nR<|qR (.i .i64 ((5:Int))) (.eq (by rw[k]at h6;unfold G8;rw[if_neg hh2,if_neg h6,if_pos ⟨h9.1,Aa6 h9.2⟩]))
 refine sK<|sn<|sq<|sq<|A9 (σ':=⟨[(46,.b (decide (a.kind≤2∧(a.qty <(1:Int)∨(1000000:Int) < a.qty))))],[]⟩) ?_ ?_
 refine A4 (a.kind≤2) (fun h_11=>?_) (fun h_11=>?_)
 refine A4 (a.qty <(1:Int)) (fun h_12=>?_) (fun h_12=>?_)
 refine rG cx [46] [] (tT 2 (A3 h_11) (tT 6 (A3 h_12) (tD 12 true (a.kind≤2∧(a.qty <(1:Int)∨(1000000:Int) < a.qty)) (by simp only [eq_true h_11,eq_true h_12,tsl]) z0))) ?_
 exact⟨rfl,by kernel_rfl⟩
 refine rG cx [46] [] (tT 2 (A3 h_11) (tT 6 (A0 h_12) (tB 10 ((1000000:Int) < a.qty) (tD 12 (decide ((1000000:Int) < a.qty)) (a.kind≤2∧(a.qty <(1:Int)∨(1000000:Int) < a.qty)) (by simp only [eq_true h_11,eq_false h_12,tsl]) z0)))) ?_
 exact⟨rfl,by kernel_rfl⟩
 refine rG cx [46] [] (tT 2 (A0 h_11) (tD 12 false (a.kind≤2∧(a.qty <(1:Int)∨(1000000:Int) < a.qty)) (by simp only [eq_false h_11,tsl]) z0)) ?_
 exact⟨rfl,by kernel_rfl⟩
 refine sn<|dC (a.kind≤2∧(a.qty <(1:Int)∨(1000000:Int) < a.qty)) (fun h13=>?_) fun h13=>?_
 refine sq<|rG cx [2] [] z0<|sn<|rT<|nR<|qR (.i .i64 ((6:Int))) (.eq (by rw[k]at h6;unfold G8;rw[if_neg hh2,if_neg h6,if_neg (fun c=>h9 ⟨c.1,by rw[c.2];simp⟩),if_pos h13]))
 refine sK<|sn<|sq<|rG cx [2] [] z0<|sn<|rT<|qR (.i .i64 ((0:Int))) (.eq (by rw[k]at h6;unfold G8;rw[if_neg hh2,if_neg h6,if_neg (fun c=>h9 ⟨c.1,by rw[c.2];simp⟩),if_neg h13]))
theorem con237(p:Past)(rep count:Int)(hb:szP p):Con Tryz.prog 237 [.agg (c26 p),.i .i64 rep,.i .i64 count] (.tup [.agg (c44 (G4 p rep count).1),.i .i64 (G4 p rep count).2]) :=
 by
 refine sC B3 [.cell 6 44,.tmp 7] 18 Tryz.func237 ?_
 intro e0 cx
 refine sq<|rG cx [1,2,3,6] [3,6] z0<|sn<|sq<|sq<|rG cx [1,2,3,6,10] [3,6] (fT (A0f (p) (by exact hb.1)) (tQ 2 (p=A6 p) (oA 1 (.b (decide (p=A6 p))) z0))) ?_
 refine sn<|dC (¬p=A6 p) (fun h0=>?_) fun h0=>?_
 refine sq<|rG cx [6,7] [6] z0<|sn<|rT<|nR<|qR (.tup [.agg [.i .i64 ((0:Int)),.i .i64 ((0:Int))],.i .i64 ((1:Int))]) (A5.tup (ZLe.cons (A5.eq (show AV.agg [AV.i .i64 (0:Int),AV.i .i64 (0:Int)]=AV.agg [AV.i .i64 (G4 p rep count).1.rep,AV.i .i64 (G4 p rep count).1.num]from(by unfold G4;rw[if_pos h0];rfl))) (ZLe.cons (A5.eq (show AV.i .i64 1=AV.i .i64 (G4 p rep count).2 from(by unfold G4;rw[if_pos h0]))) ZLe.nil)))
 refine sK<|sn<|sq<|rG cx [6,7] [6] (fT (con273 (p) (rep) (count) (by exact hb.1)) (oA 3 (.tup [.agg [.i .i64 ((H1 p rep count).1.rep),.i .i64 ((H1 p rep count).1.num)],.i .i64 ((H1 p rep count).2)]) z0)) ?_
 refine sn<|rT<|qR (.tup [.agg [.i .i64 ((H1 p rep count).1.rep),.i .i64 ((H1 p rep count).1.num)],.i .i64 ((H1 p rep count).2)]) (A5.tup (ZLe.cons (A5.eq (show AV.agg [AV.i .i64 (H1 p rep count).1.rep,AV.i .i64 (H1 p rep count).1.num]=AV.agg [AV.i .i64 (G4 p rep count).1.rep,AV.i .i64 (G4 p rep count).1.num]from(by unfold G4;rw[if_neg h0]))) (ZLe.cons (A5.eq (show AV.i .i64 (H1 p rep count).2=AV.i .i64 (G4 p rep count).2 from(by unfold G4;rw[if_neg h0]))) ZLe.nil)))
theorem con77(p:Past)(rep count:Int)(hb:szP p):Con Tryz.prog 77 [.agg (c26 p),.i .i64 rep,.i .i64 count] (.tup [.agg (c44 (G4 p rep count).1),.i .i64 (G4 p rep count).2]) :=
 by
 have hl:=A0p p rep
 refine sC B3 [.cell 6 44,.tmp 7] 35 Tryz.func77 ?_
 intro e0 cx
 refine sq<|rG cx [1,2,3,6] [3,6] z0<|sn<|sq<|sq<|rG cx [1,2,3,6,11] [3,6] (fT (Au1 (p) (by exact hb.1) (by exact hb.2)) (tQ 2 (p=A6 p) (oA 1 (.b (decide (p=A6 p))) z0))) ?_
 refine sn<|dC (¬p=A6 p) (fun h0=>?_) fun h0=>?_
 refine sq<|rG cx [6,7] [6] z0<|sn<|rT<|nR<|qR (.tup [.agg [.i .i64 ((0:Int)),.i .i64 ((0:Int))],.i .i64 ((1:Int))]) (A5.tup (ZLe.cons (A5.eq (show AV.agg [AV.i .i64 (0:Int),AV.i .i64 (0:Int)]=AV.agg [AV.i .i64 (G4 p rep count).1.rep,AV.i .i64 (G4 p rep count).1.num]from(by unfold G4;rw[if_pos h0];rfl))) (ZLe.cons (A5.eq (show AV.i .i64 1=AV.i .i64 (G4 p rep count).2 from(by unfold G4;rw[if_pos h0]))) ZLe.nil)))
 refine sK<|sn<|sq<|sq<|A9 (σ':=⟨[(1,.i .i64 (rep)),(2,.i .i64 (count)),(3,.ptr (3) (0) (0) (0)),(6,.ptr (6) (0) (0) (0)),(18,.b (decide (rep <(0:Int)∨16≤rep)))],[(3,⟨0,26,.var [.sl (List.map c3 p.vec),.sl (List.map B1 p.cloud)]⟩),(6,⟨0,44,.var [.i .i64 ((0:Int)),.i .i64 ((0:Int))]⟩)]⟩) ?_ ?_
 refine A4 (rep <(0:Int)) (fun h_2=>?_) (fun h_2=>?_)
 refine rG cx [1,2,3,6,18] [3,6] (tT 1 (A3 h_2) (tD 5 true (rep <(0:Int)∨16≤rep) (by simp only [eq_true h_2,tsl]) z0)) ?_
 exact⟨rfl,by kernel_rfl⟩
 refine rG cx [1,2,3,6,18] [3,6] (tT 1 (A0 h_2) (tB 4 (16≤rep) (tD 5 (decide (16≤rep)) (rep <(0:Int)∨16≤rep) (by simp only [eq_false h_2,tsl]) z0))) ?_
 exact⟨rfl,by kernel_rfl⟩
 refine sn<|dC (rep <(0:Int)∨16≤rep) (fun h3=>?_) fun h3=>?_
 refine sq<|rG cx [6,7] [6] z0<|sn<|rT<|nR<|qR (.tup [.agg [.i .i64 ((0:Int)),.i .i64 ((0:Int))],.i .i64 ((3:Int))]) (A5.tup (ZLe.cons (A5.eq (show AV.agg [AV.i .i64 (0:Int),AV.i .i64 (0:Int)]=AV.agg [AV.i .i64 (G4 p rep count).1.rep,AV.i .i64 (G4 p rep count).1.num]from(by unfold G4 H1;rw[if_neg h0,if_pos h3];rfl))) (ZLe.cons (A5.eq (show AV.i .i64 3=AV.i .i64 (G4 p rep count).2 from(by unfold G4 H1;rw[if_neg h0,if_pos h3]))) ZLe.nil)))
 refine sK<|sn<|sq<|rG cx [1,2,6,8] [6] (fT (con91 (p) (rep) (by exact hb.1)) (oA 2 (.i .i64 (E6 p rep)) z0)) ?_
 refine sn<|sq<|sq<|A9 (σ':=⟨[(1,.i .i64 (rep)),(6,.ptr (6) (0) (0) (0)),(8,.i .i64 (E6 p rep)),(29,.b (decide (count≤E6 p rep∨1000000000≤E6 p rep)))],[(6,⟨0,44,.var [.i .i64 ((0:Int)),.i .i64 ((0:Int))]⟩)]⟩) ?_ ?_
 refine A4 (count≤E6 p rep) (fun h_5=>?_) (fun h_5=>?_)
 refine rG cx [1,6,8,29] [6] (tT 2 (A3 h_5) (tD 6 true (count≤E6 p rep∨1000000000≤E6 p rep) (by simp only [eq_true h_5,tsl]) z0)) ?_
 exact⟨rfl,by kernel_rfl⟩
 refine rG cx [1,6,8,29] [6] (tT 2 (A0 h_5) (tB 5 (1000000000≤E6 p rep) (tD 6 (decide (1000000000≤E6 p rep)) (count≤E6 p rep∨1000000000≤E6 p rep) (by simp only [eq_false h_5,tsl]) z0))) ?_
 exact⟨rfl,by kernel_rfl⟩
 refine sn<|dC (count≤E6 p rep∨1000000000≤E6 p rep) (fun h6=>?_) fun h6=>?_
 refine sq<|rG cx [6,7] [6] z0<|sn<|rT<|nR<|qR (.tup [.agg [.i .i64 ((0:Int)),.i .i64 ((0:Int))],.i .i64 ((9:Int))]) (A5.tup (ZLe.cons (A5.eq (show AV.agg [AV.i .i64 (0:Int),AV.i .i64 (0:Int)]=AV.agg [AV.i .i64 (G4 p rep count).1.rep,AV.i .i64 (G4 p rep count).1.num]from(by unfold G4 H1;rw[if_neg h0,if_neg h3,if_pos (by omega)];rfl))) (ZLe.cons (A5.eq (show AV.i .i64 9=AV.i .i64 (G4 p rep count).2 from(by unfold G4 H1;rw[if_neg h0,if_neg h3,if_pos (by omega)]))) ZLe.nil)))
 refine sK<|sn<|sq<|rG cx [6,7] [6] (tT 2 (B6 (by omega) (by omega):AV.i .i64 (IntKind.i64.wrap (E6 p rep+1))=AV.i .i64 (E6 p rep+1)) z0) ?_
 refine sn<|rT<|qR (.tup [.agg [.i .i64 (rep),.i .i64 (E6 p rep+1)],.i .i64 ((0:Int))]) (A5.tup (ZLe.cons (A5.eq (show AV.agg [AV.i .i64 rep,AV.i .i64 (E6 p rep+1)]=AV.agg [AV.i .i64 (G4 p rep count).1.rep,AV.i .i64 (G4 p rep count).1.num]from(by unfold G4 H1;rw[if_neg h0,if_neg h3,if_neg (by omega)]))) (ZLe.cons (A5.eq (show AV.i .i64 0=AV.i .i64 (G4 p rep count).2 from(by unfold G4 H1;rw[if_neg h0,if_neg h3,if_neg (by omega)]))) ZLe.nil)))
theorem con17(f:Facts)(hb:szF f):Con Tryz.prog 17 [.agg (c36 f)] (.i .i64 (evE f)) :=
 by
 refine sC B3 [.tmp 2] 60 Tryz.func17 ?_
 intro e0 cx
 refine sq<|rG cx [1] [1] z0<|sn<|sq<|sq<|rG cx [1,7] [1] (fT (con87 (f) (by(with_reducible assumption))) (tT 2 (E7:(AV.b !okF f)=AV.b (decide ¬okF f=true)) (oA 1 (.b (okF f)) z0)))<|sn<|dC (¬okF f=true) (fun h0=>?_) fun h0=>?_
 refine sq<|rG cx [2] [] z0<|sn<|rT<|nR<|qR (.i .i64 ((1:Int))) (.eq (by unfold evE;rw[if_pos (Aa6 h0)]))
 refine sK<|sn<|sq<|rG cx [1,3] [1] (fT (B5m (f.gone) (by exact hb.1.1)) (oA 2 (.b (decide (C6 f.gone=0))) z0)) ?_
 refine sn<|sq<|bL 0<|sq<|A9 (σ':=⟨[(1,.ptr (1) (0) (0) (0)),(3,.b (decide (C6 f.gone=0))),(11,.b (decide ((↑f.adds.length:Int)=1∧(↑f.recs.length:Int)=0)))],[(1,⟨0,36,.var [.sl (List.map c46 f.adds),.sl (List.map c3 f.gone.vec),.sl (List.map B1 f.gone.cloud),.sl (List.map c54 f.recs)]⟩)]⟩) ?_ ?_
 refine A4 ((↑f.adds.length:Int)=1) (fun h_2=>?_) (fun h_2=>?_)
 refine rG cx [1,3,11] [1] (tL 2 c46 f.adds (tT 3 (A3 h_2) (tL 7 c54 f.recs (tB 8 ((↑f.recs.length:Int)=0) (tD 10 (decide ((↑f.recs.length:Int)=0)) ((↑f.adds.length:Int)=1∧(↑f.recs.length:Int)=0) (by simp only [eq_true h_2,tsl]) z0))))) ?_
 exact⟨rfl,by kernel_rfl⟩
 refine rG cx [1,3,11] [1] (tL 2 c46 f.adds (tT 3 (A0 h_2) (tD 10 false ((↑f.adds.length:Int)=1∧(↑f.recs.length:Int)=0) (by simp only [eq_false h_2,tsl]) z0))) ?_
 exact⟨rfl,by kernel_rfl⟩
 refine sn<|dC ((↑f.adds.length:Int)=1∧(↑f.recs.length:Int)=0) (fun h3=>?_) fun h3=>?_
 refine sq<|rG cx [1,4] [1,4] (fO ((0:Int)≤(0:Int)) (fP ((List.map c46 f.adds)[Int.toNat (0:Int)]?=some (c46 f.adds[(0:Nat)]!)) (by exact B2a h3.1) (fR 4 (fN 2 4 (oR 2 (c46 f.adds[(0:Nat)]!) z0))))) ?_
 refine sn<|sq<|rA cx [34] [] (fT (con88 (f.gone) (f.adds[(0:Nat)]!.dot.rep) (by exact hb.1.1)) (tB 7 (E6 f.gone f.adds[(0:Nat)]!.dot.rep < f.adds[(0:Nat)]!.dot.num) (oA 4 (.i .i64 (E6 f.gone f.adds[(0:Nat)]!.dot.rep)) z0))) ?_
 refine sn<|dC (E6 f.gone f.adds[(0:Nat)]!.dot.rep < f.adds[(0:Nat)]!.dot.num) (fun h4=>?_) fun h4=>?_
 refine sq<|rG cx [2] [] z0<|sn<|rT<|bR<|nR<|qR (.i .i64 ((0:Int))) (.eq (by unfold evE;rw[if_neg (A0t h0),if_pos (by omega),if_pos h4]))
 refine sK<|bN<|sn<|sq<|rG cx [2] [] z0<|sn<|rT<|qR (.i .i64 ((2:Int))) (.eq (by unfold evE;rw[if_neg (A0t h0),if_pos (by omega),if_neg h4]))
 refine sq<|A9 (σ':=⟨[(1,.ptr (1) (0) (0) (0)),(3,.b (decide (C6 f.gone=0))),(35,.b (decide ((↑f.adds.length:Int)=0∧(↑f.recs.length:Int)=0)))],[(1,⟨0,36,.var [.sl (List.map c46 f.adds),.sl (List.map c3 f.gone.vec),.sl (List.map B1 f.gone.cloud),.sl (List.map c54 f.recs)]⟩)]⟩) ?_ ?_
 refine A4 ((↑f.adds.length:Int)=0) (fun h_6=>?_) (fun h_6=>?_)
 refine rG cx [1,3,35] [1] (tL 2 c46 f.adds (tT 3 (A3 h_6) (tL 7 c54 f.recs (tB 8 ((↑f.recs.length:Int)=0) (tD 10 (decide ((↑f.recs.length:Int)=0)) ((↑f.adds.length:Int)=0∧(↑f.recs.length:Int)=0) (by simp only [eq_true h_6,tsl]) z0))))) ?_
 exact⟨rfl,by kernel_rfl⟩
 refine rG cx [1,3,35] [1] (tL 2 c46 f.adds (tT 3 (A0 h_6) (tD 10 false ((↑f.adds.length:Int)=0∧(↑f.recs.length:Int)=0) (by simp only [eq_false h_6,tsl]) z0))) ?_
 exact⟨rfl,by kernel_rfl⟩
 refine sn<|dC ((↑f.adds.length:Int)=0∧(↑f.recs.length:Int)=0) (fun h7=>?_) fun h7=>?_
 refine sq<|rG cx [2] [] z0<|sn<|rT<|bR<|nR<|qR (.i .i64 ((0:Int))) (.eq (by unfold evE;rw[if_neg (A0t h0),if_neg (by omega),if_pos (by omega)]))
 refine sq<|A9 (σ':=⟨[(46,.b (decide ((↑f.adds.length:Int)=0∧(↑f.recs.length:Int)=1∧C6 f.gone=0)))],[]⟩) ?_ ?_
 refine A4 ((↑f.adds.length:Int)=0) (fun h_9=>?_) (fun h_9=>?_)
 refine A4 ((↑f.recs.length:Int)=1) (fun h_10=>?_) (fun h_10=>?_)
 refine rG cx [46] [] (tL 2 c46 f.adds (tT 3 (A3 h_9) (tL 7 c54 f.recs (tT 8 (A3 h_10) (tD 13 (decide (C6 f.gone=0)) ((↑f.adds.length:Int)=0∧(↑f.recs.length:Int)=1∧C6 f.gone=0) (by simp only [eq_true h_9,eq_true h_10,tsl]) z0))))) ?_
 exact⟨rfl,by kernel_rfl⟩
 refine rG cx [46] [] (tL 2 c46 f.adds (tT 3 (A3 h_9) (tL 7 c54 f.recs (tT 8 (A0 h_10) (tD 13 false ((↑f.adds.length:Int)=0∧(↑f.recs.length:Int)=1∧C6 f.gone=0) (by simp only [eq_true h_9,eq_false h_10,tsl]) z0))))) ?_
 exact⟨rfl,by kernel_rfl⟩
 refine rG cx [46] [] (tL 2 c46 f.adds (tT 3 (A0 h_9) (tD 13 false ((↑f.adds.length:Int)=0∧(↑f.recs.length:Int)=1∧C6 f.gone=0) (by simp only [eq_false h_9,tsl]) z0))) ?_
 exact⟨rfl,by kernel_rfl⟩
 refine sn<|dC ((↑f.adds.length:Int)=0∧(↑f.recs.length:Int)=1∧C6 f.gone=0) (fun h11=>?_) fun h11=>?_
 refine sq<|rG cx [2] [] z0<|sn<|rT<|bR<|nR<|qR (.i .i64 ((0:Int))) (.eq (by unfold evE;rw[if_neg (A0t h0),if_neg (by omega),if_neg (by omega),if_pos (by omega)]))
 refine sK<|bN<|sn<|sq<|rG cx [2] [] z0<|sn<|rT<|qR (.i .i64 ((2:Int))) (.eq (by unfold evE;rw[if_neg (A0t h0),if_neg (by omega),if_neg (by omega),if_neg (by omega)]))
end Go.Proofs.YtphcaholhacnpaaGreat
namespace Go.Proofs.YtphcaholhacnpaaGreat
open Go.E
set_option maxRecDepth 100000
set_option maxHeartbeats 4000000
open Go Go.Sort Go.RowKit Go.Lib Go.Shelf Go.Proofs
def B2b:Go.Shelf.Ren:=⟨fun | 6=>176 | 10=>218 | 11=>219 | 12=>220 | 13=>221 | 14=>222 | 24=>253 | 25=>254 | 26=>255 | 27=>256 | 28=>257 | 29=>258 | 30=>259 | 31=>260 | 32=>261 | 33=>262 | 34=>278 | 35=>279 | 36=>280 | 37=>281 | 38=>282 | 39=>290 | n=>n,
 fun | 0=>0 | 3=>3 | 4=>4 | 5=>5 | 9=>9 | 12=>12 | 17=>17 | 20=>20 | 26=>219 | 32=>246 | 33=>247 | 35=>249 | 37=>251 | 41=>255 | 44=>258 | 49=>270 | 51=>51 | 53=>273 | 54=>274 | 58=>278 | 60=>292 | 64=>296 | 66=>302 | 67=>127 | 75=>320 | 76=>321 | 77=>322 | 78=>323 | 79=>324 | 80=>325 | 82=>327 | n=>n,fun n=>n⟩
theorem Au8:Go.Proofs.LaysGg.n6 Tryz.prog B2b:={
 mixed:=(by kernel_rfl),
 f6:=Tryz.func176.trans (congrArg some (by kernel_rfl)),
 f10:=Tryz.func218.trans (congrArg some (by kernel_rfl)),
 f11:=Tryz.func219.trans (congrArg some (by kernel_rfl)),
 f12:=Tryz.func220.trans (congrArg some (by kernel_rfl)),
 f13:=Tryz.func221.trans (congrArg some (by kernel_rfl)),
 f14:=Tryz.func222.trans (congrArg some (by kernel_rfl)),
 f24:=Tryz.func253.trans (congrArg some (by kernel_rfl)),
 f25:=Tryz.func254.trans (congrArg some (by kernel_rfl)),
 f26:=Tryz.func255.trans (congrArg some (by kernel_rfl)),
 f27:=Tryz.func256.trans (congrArg some (by kernel_rfl)),
 f28:=Tryz.func257.trans (congrArg some (by kernel_rfl)),
 f29:=Tryz.func258.trans (congrArg some (by kernel_rfl)),
 f30:=Tryz.func259.trans (congrArg some (by kernel_rfl)),
 f31:=Tryz.func260.trans (congrArg some (by kernel_rfl)),
 f32:=Tryz.func261.trans (congrArg some (by kernel_rfl)),
 f33:=Tryz.func262.trans (congrArg some (by kernel_rfl)),
 f34:=Tryz.func278.trans (congrArg some (by kernel_rfl)),
 f35:=Tryz.func279.trans (congrArg some (by kernel_rfl)),
 f36:=Tryz.func280.trans (congrArg some (by kernel_rfl)),
 f37:=Tryz.func281.trans (congrArg some (by kernel_rfl)),
 f38:=Tryz.func282.trans (congrArg some (by kernel_rfl)),
 f39:=Tryz.func290.trans (congrArg some (by kernel_rfl)),
 t0:=Tryz.underlying0,a0:=Tryz.isAgg0,z0:=Tryz.sizeOf0,v0:=Tryz.zeroValue0,i0:=(by kernel_rfl),
 t3:=Tryz.underlying3,a3:=Tryz.isAgg3,z3:=Tryz.sizeOf3,v3:=Tryz.zeroValue3,i3:=(by kernel_rfl),
 t4:=Tryz.underlying4,a4:=Tryz.isAgg4,z4:=Tryz.sizeOf4,v4:=Tryz.zeroValue4,i4:=(by kernel_rfl),
 t5:=Tryz.underlying5,a5:=Tryz.isAgg5,z5:=Tryz.sizeOf5,v5:=Tryz.zeroValue5,i5:=(by kernel_rfl),
 t9:=Tryz.underlying9,a9:=Tryz.isAgg9,z9:=Tryz.sizeOf9,v9:=Tryz.zeroValue9,i9:=(by kernel_rfl),
 t12:=Tryz.underlying12,a12:=Tryz.isAgg12,z12:=Tryz.sizeOf12,v12:=Tryz.zeroValue12,i12:=(by kernel_rfl),
 t17:=Tryz.underlying17,a17:=Tryz.isAgg17,z17:=Tryz.sizeOf17,v17:=Tryz.zeroValue17,i17:=(by kernel_rfl),
 t20:=Tryz.underlying20,a20:=Tryz.isAgg20,z20:=Tryz.sizeOf20,v20:=Tryz.zeroValue20,i20:=(by kernel_rfl),
 t26:=Tryz.underlying219,a26:=Tryz.isAgg219,z26:=Tryz.sizeOf219,v26:=Tryz.zeroValue219,i26:=(by kernel_rfl),
 t32:=Tryz.underlying246,a32:=Tryz.isAgg246,z32:=Tryz.sizeOf246,v32:=Tryz.zeroValue246,i32:=(by kernel_rfl),
 t33:=Tryz.underlying247,a33:=Tryz.isAgg247,z33:=Tryz.sizeOf247,v33:=Tryz.zeroValue247,i33:=(by kernel_rfl),
 t35:=Tryz.underlying249,a35:=Tryz.isAgg249,z35:=Tryz.sizeOf249,v35:=Tryz.zeroValue249,i35:=(by kernel_rfl),
 t37:=Tryz.underlying251,a37:=Tryz.isAgg251,z37:=Tryz.sizeOf251,v37:=Tryz.zeroValue251,i37:=(by kernel_rfl),
 t41:=Tryz.underlying255,a41:=Tryz.isAgg255,z41:=Tryz.sizeOf255,v41:=Tryz.zeroValue255,i41:=(by kernel_rfl),
 t44:=Tryz.underlying258,a44:=Tryz.isAgg258,z44:=Tryz.sizeOf258,v44:=Tryz.zeroValue258,i44:=(by kernel_rfl),
 t49:=Tryz.underlying270,a49:=Tryz.isAgg270,z49:=Tryz.sizeOf270,v49:=Tryz.zeroValue270,i49:=(by kernel_rfl),
 t51:=Tryz.underlying51,a51:=Tryz.isAgg51,z51:=Tryz.sizeOf51,v51:=Tryz.zeroValue51,i51:=(by kernel_rfl),
 t53:=Tryz.underlying273,a53:=Tryz.isAgg273,z53:=Tryz.sizeOf273,v53:=Tryz.zeroValue273,i53:=(by kernel_rfl),
 t54:=Tryz.underlying274,a54:=Tryz.isAgg274,z54:=Tryz.sizeOf274,v54:=Tryz.zeroValue274,i54:=(by kernel_rfl),
 t58:=Tryz.underlying278,a58:=Tryz.isAgg278,z58:=Tryz.sizeOf278,v58:=Tryz.zeroValue278,i58:=(by kernel_rfl),
 t60:=Tryz.underlying292,a60:=Tryz.isAgg292,z60:=Tryz.sizeOf292,v60:=Tryz.zeroValue292,i60:=(by kernel_rfl),
 t64:=Tryz.underlying296,a64:=Tryz.isAgg296,z64:=Tryz.sizeOf296,v64:=Tryz.zeroValue296,i64:=(by kernel_rfl),
 t66:=Tryz.underlying302,a66:=Tryz.isAgg302,z66:=Tryz.sizeOf302,v66:=Tryz.zeroValue302,i66:=(by kernel_rfl),
 t67:=Tryz.underlying127,a67:=Tryz.isAgg127,z67:=Tryz.sizeOf127,v67:=Tryz.zeroValue127,i67:=(by kernel_rfl),
 t75:=Tryz.underlying320,a75:=Tryz.isAgg320,z75:=Tryz.sizeOf320,v75:=Tryz.zeroValue320,i75:=(by kernel_rfl),
 t76:=Tryz.underlying321,a76:=Tryz.isAgg321,z76:=Tryz.sizeOf321,v76:=Tryz.zeroValue321,i76:=(by kernel_rfl),
 t77:=Tryz.underlying322,a77:=Tryz.isAgg322,z77:=Tryz.sizeOf322,v77:=Tryz.zeroValue322,i77:=(by kernel_rfl),
 t78:=Tryz.underlying323,a78:=Tryz.isAgg323,z78:=Tryz.sizeOf323,v78:=Tryz.zeroValue323,i78:=(by kernel_rfl),
 t79:=Tryz.underlying324,a79:=Tryz.isAgg324,z79:=Tryz.sizeOf324,v79:=Tryz.zeroValue324,i79:=(by kernel_rfl),
 t80:=Tryz.underlying325,a80:=Tryz.isAgg325,z80:=Tryz.sizeOf325,v80:=Tryz.zeroValue325,i80:=(by kernel_rfl),
 t82:=Tryz.underlying327,a82:=Tryz.isAgg327,z82:=Tryz.sizeOf327,v82:=Tryz.zeroValue327,i82:=(by kernel_rfl) }
noncomputable def Au9:TypeInfo:=(Tryz.prog.info? 167).get!
noncomputable def tiL:TypeInfo:=(Tryz.prog.info? 61).get!
def swL(n:Nat):Nat:=if n=0 then 244 else if n=1 then 245 else 252
theorem swKL(n:Nat)(h2:2≤n):swapperK n tiL 25=9:=by
 have b:tiL.bytes=32:=by kernel_rfl
 have c:(n == 0)=false:=by simp;omega
 have d:(n == 1)=false:=by simp;omega
 simp [swapperK,b,c,d]
theorem A6o(n:Nat):Tryz.prog.funcs.findIdx? (fun g=>g.name == "internal/reflectlite"++".Swapper$"++toString (swapperK n tiL 25))=some (swL n):=by
 match n with
 | 0=>show _=some 244;kernel_rfl
 | 1=>show _=some 245;kernel_rfl
 | n+2 =>
  rw[swKL _ (by omega)]
  simp only [swL]
  rw[if_neg (by omega),if_neg (by omega)]
  show _=some 252
  kernel_rfl
def ltL(a b:Line):Bool:=sLt a.sku b.sku
theorem Aa8:SWO ltL:=by
 refine⟨fun x=>?_,fun x y z h1 h2=>?_,fun x y z h1 h2=>?_⟩
 ·exact Bool.eq_false_iff.2 (V6 _)
 ·exact Q8 h1 h2
 ·unfold ltL at *
  rw[Bool.eq_false_iff]at *
  intro h
  by_cases k:sLt z.sku y.sku=true
  ·exact h1 (Q8 h k)
  ·exact h1 (by rw[A0l h2 k];exact h)
def A3h(x:Line):List Value:=(c61 x).map valA
theorem A53(d:List Line):(d.map A3h).flatten=((d.map c61).flatten).map valA:=by
 induction d with
 | nil=>rfl
 | cons x d ih=>simp only [List.map_cons,List.flatten_cons,List.map_append,ih,A3h]
theorem lessL(W:World)(gv blk n cap:Nat)(i j:Nat)(x y:ByteArray)(hi:i < n)(hj:j < n)
  (hc:W.cell? ⟨gv,0,none⟩=some (.slice (some ⟨blk,0,none⟩) n cap)) (hx:W.cell? ⟨blk,i*3,none⟩=some (.string x)) (hy:W.cell? ⟨blk,j*3,none⟩=some (.string y)) :
  Calls Tryz.prog 177 #[.int .i64 i,.int .i64 j,.pointer (some ⟨gv,0,none⟩)] W fun e w'=>e=.returned (.bool (Go.Op.bytesLess x.toList y.toList))∧∃ q,w'=W.drewN q:=by
 go_enter Tryz.func177,Tryz.ntmps177
 go_wp2
 go_region
 go_wp2
 go_ret
 exact⟨rfl,1,rfl⟩
def A1f(l:List Line):List Line:=(pdq ltL l.toArray 0 l.toArray.size (Lib.bitLen l.toArray.size) true true).toList
theorem A0u(l:List Line):(A1f l).Perm l:=by
 have h:=(pdq_sorts ltL Aa8 l.toArray 0 l.toArray.size (Lib.bitLen l.toArray.size) true true (Nat.zero_le _) (Nat.le_refl _) (Or.inl rfl)).1
 obtain⟨hsz,_,hp⟩:=h
 unfold A1f
 generalize pdq ltL l.toArray 0 l.toArray.size (Lib.bitLen l.toArray.size) true true=d at hsz hp ⊢
 have e1:d.extract 0 l.toArray.size=d:=by rw[← hsz];exact Array.extract_size
 rw[e1,Array.extract_size]at hp
 exact hp
theorem Ak7(l:List Line):(A1f l).Pairwise fun x y=>ltL y x=false:=by
 have h:=pdq_sorts ltL Aa8 l.toArray 0 l.toArray.size (Lib.bitLen l.toArray.size) true true (Nat.zero_le _) (Nat.le_refl _) (Or.inl rfl)
 have hs:=h.1.1
 have h2:=h.2
 unfold A1f
 rw[List.pairwise_iff_getElem]
 intro i j hi hj hij
 rw[Array.length_toList]at hi hj
 have:=h2 i j (Nat.zero_le _) hij (by omega)
 rw[getElem!_pos _ j hj,getElem!_pos _ i hi]at this
 rw[Array.getElem_toList,Array.getElem_toList]
 exact this
theorem B2c(l:List Line):(A1f l).length=l.length:=(A0u l).length_eq
theorem A3i(x:Line):(A3h x).length=3:=rfl
theorem A54(x:Line):∀ a∈c61 x,Y2 a=true:=by
 intro a ha
 simp only [c61,List.mem_cons,List.not_mem_nil,or_false]at ha
 rcases ha with rfl | rfl | rfl <;> rfl
theorem io176(l:List Line)(hlen:l.length < 4611686018427387904) :
  A1i Tryz.prog 176 177 (some 167) true 61 3 (l.map c61) ((A1f l).map c61):=by
 have hpm:=A0u l
 have hone:∀ x,∀ v∈A3h x,v.oneCell'=true:=by
  intro x v hv
  obtain⟨a,ha,rfl⟩:=List.mem_map.1 hv
  exact A05 (A54 x a ha)
 have hpl:∀ m:List Line,∀ a∈(m.map c61).flatten,Y2 a=true:=by
  intro m a ha
  obtain⟨r,hr,har⟩:=List.mem_flatten.1 ha
  obtain⟨x,_,rfl⟩:=List.mem_map.1 hr
  exact A54 x a har
 have hsz:∀ r∈l.map c61,r.length=3:=fun r hr=>by obtain⟨x,_,rfl⟩:=List.mem_map.1 hr;rfl
 refine⟨⟨_,Tryz.func176,by kernel_rfl,by kernel_rfl⟩,by rw[List.length_map,List.length_map,hpm.length_eq],fun r hr=>by obtain⟨x,_,rfl⟩:=List.mem_map.1 hr;rfl,fun w base v cv S xs hS hb ho hx1 hxr hcap=>?_⟩
 obtain⟨gv,rfl,q1,q2,q3⟩:=hcap rfl
 have hxs:xs=(l.map c61).flatten.map valA:=by
  apply List.ext_getElem?
  intro j
  by_cases hj:j < xs.length
  ·have hj':j <(l.map c61).flatten.length:=by rw[C7 hsz,← ho.1];exact hj
   rw[List.getElem?_eq_getElem hj,List.getElem?_map,List.getElem?_eq_getElem hj',Option.map_some]
   have:=hxr j _ _ (List.getElem?_eq_getElem hj') (List.getElem?_eq_getElem hj)
   rw[A7d (hpl _ _ (List.getElem_mem hj')) this]
  ·rw[List.getElem?_eq_none (by omega),List.getElem?_eq_none (by rw[List.length_map,C7 hsz,← ho.1];omega)]
 rw[hxs,List.length_map]at ho
 rw[List.length_map]
 simp only [if_true,Am4]
 have hout:∀(w':World),∀(j:Nat) (a:AV) (u:Value),((A1f l).map c61).flatten[j]?=some a→(((A1f l).map c61).flatten.map valA)[j]?=some u→RelV0 S w' a u:=by
  intro w' j a u ha hu
  rw[List.getElem?_map,ha,Option.map_some,Option.some.injEq]at hu
  rw[← hu]
  exact A7e (hpl _ a (List.mem_of_getElem? ha))
 have hout1:∀ u∈((A1f l).map c61).flatten.map valA,u.oneCell'=true:=by
  intro u hu
  obtain⟨x,hx,rfl⟩:=List.mem_map.1 hu
  exact A05 (hpl _ x hx)
 have hfam:∀(b cap:Nat) (w':World) (hbl:b < w.heap.size) (ho':w.ownsRow base 61 3 (.slice (some ⟨b,0,none⟩) l.length cap) l.length ((l.map A3h).flatten)),Fam A3h 3 b 0 w (A1f l).toArray w' →
   Ending.returned (.tuple #[])=.returned (.tuple #[])∧∃ xs',w'.ownsRow base 61 3 (.slice (some ⟨b,0,none⟩) l.length cap) l.length xs'∧(∀ u∈xs',u.oneCell'=true)∧(∀(j:Nat) (a:AV) (u:Value),((A1f l).map c61).flatten[j]?=some a→xs'[j]?=some u→RelV0 S w' a u) ∧
   (∀ k,k < w.heap.size→blkOf (.slice (some ⟨b,0,none⟩) l.length cap)≠some k→w'.heap[k]?=w.heap[k]?)∧w'.os=w.os∧w'.tape=w.tape∧w'.output=w.output∧w.heap.size≤w'.heap.size:=by
  intro b cap w' hbl ho' hF
  have f:=hF.facts
  have ow:=hF.owns (d:=l.toArray) A3i (by simpa using hpm.length_eq) (by simp) (by simp) ho'
  refine⟨rfl,((A1f l).map c61).flatten.map valA,?_,hout1,hout w',fun j hj hjb=>f.2.2.2 j hj (fun e=>hjb (by rw[e];rfl)),f.1,f.2.1,f.2.2.1,hF.size⟩
  rw[← A53]
  simpa using ow
 rcases ho.2 with⟨rfl,h0⟩ | ⟨b,cap,cur,rfl,hb',hh,h1,h2,h3,h4⟩
 ·have:l=[]:=List.eq_nil_of_length_eq_zero h0
  subst this
  refine(Any.sort_Slice_tiny (P:=Tryz.prog) (ρ:=B2b) Au8 167 61 Au9 tiL (by kernel_rfl) (by kernel_rfl) (by kernel_rfl) (by kernel_rfl) 25 (fun _=>by kernel_rfl) none 0 0 (by omega) (swL 0) (A6o 0) _ _ _ w).mono ?_
  rintro e' w' ⟨rfl,os,rfl⟩
  have e0:A1f []=[]:=List.eq_nil_of_length_eq_zero (by rw[hpm.length_eq];rfl)
  refine⟨rfl,[],⟨by simp,.inl ⟨rfl,rfl⟩⟩,fun u hu=>by simp at hu,fun j a u ha hu=>by simp at hu,fun j hj _=>?_,rfl,rfl,rfl,?_⟩
  ·exact Go.Sort.heap_grow_old w os hj
  ·rw[Go.Sort.size_grow];omega
 ·have hbl:b < w.heap.size:=(Array.getElem?_eq_some_iff.1 hh).1
  have hne:gv≠b:=fun e=>q3 (by rw[e];rfl)
  have hflat:(l.map c61).flatten.map valA=(l.map A3h).flatten:=by rw[← A53]
  rw[hflat]at ho
  have hHd:HoldsK A3h 3 w b 0 l.toArray:=S9 A3i ho (by simp) (by simp)
  by_cases hl2:l.length≤1
  ·refine(Any.sort_Slice_tiny (P:=Tryz.prog) (ρ:=B2b) Au8 167 61 Au9 tiL (by kernel_rfl) (by kernel_rfl) (by kernel_rfl) (by kernel_rfl) 25 (fun _=>by kernel_rfl) (some ⟨b,0,none⟩) l.length cap hl2 (swL l.length) (A6o l.length) _ _ _ w).mono ?_
   rintro e' w' ⟨rfl,os,rfl⟩
   refine hfam b cap _ hbl ho ?_
   have e1:A1f l=l:=by
    match l,hl2 with
    | [],_=>exact List.eq_nil_of_length_eq_zero (by rw[hpm.length_eq];rfl)
    | [x],_=>exact List.perm_singleton.1 hpm
   rw[e1]
   exact(Fam.start hHd).grown w.drawn os
  ·have hw:=Any.sort_Slice_cells_eq (P:=Tryz.prog) (ρ:=B2b) Au8 167 61 Au9 tiL (by kernel_rfl) (by kernel_rfl) (by kernel_rfl) (by kernel_rfl) 25 (fun _=>by kernel_rfl)
    A3h 3 A3i (by kernel_rfl) (fun _=>by kernel_rfl) hone ltL Aa8 177 #[.pointer (some ⟨gv,0,none⟩)] (enters_of Tryz.func177 (by kernel_rfl) rfl) b 0 cap l.toArray (by simp;omega) (by simpa using hlen)
    252 (by have:=A6o l.toArray.size;rw[this];congr 1;unfold swL;rw[if_neg (by rw[List.size_toArray];omega),if_neg (by rw[List.size_toArray];omega)]) false
    (fun args W=>run_callFunc_extern Tryz.func252 (by kernel_rfl) (by kernel_rfl) (by kernel_rfl) (e:=Extern.ReflectliteSwapper.swap false) (by kernel_rfl) args W) w
    (fun m os dk hs i j hi hj=>by
     have hF:Fam A3h 3 b 0 w dk (sortWorldK A3h 3 w b 0 m dk os):=⟨w.drawn+m,os,rfl⟩
     have hc:=(hF.cell (a:=⟨gv,0,none⟩) q1 hne).trans q2
     have hK:=hF.holds hbl hHd hs
     have hx:=(hK.cell (i:=i) (c:=0) (by omega) (by omega)).1
     have hy:=(hK.cell (i:=j) (c:=0) (by omega) (by omega)).1
     rw[Nat.zero_add,Nat.add_zero]at hx hy
     have hsz':l.toArray.size=l.length:=by simp
     exact lessL _ gv b l.length cap i j dk[i]!.sku dk[j]!.sku (hsz' ▸ hi) (hsz' ▸ hj) hc hx hy) hHd hbl
   have hsize:l.toArray.size=l.length:=by simp
   rw[hsize]at hw
   refine hw.mono ?_
   rintro e' w' ⟨rfl,n,os,hw'⟩
   exact hfam b cap w' hbl ho ⟨w.drawn+n,os,by rw[hw'];unfold A1f;rw[hsize];rfl⟩
end Go.Proofs.YtphcaholhacnpaaGreat
namespace Go.Proofs.YtphcaholhacnpaaGreat
open Go.E
set_option maxRecDepth 100000
set_option maxHeartbeats 4000000
def A3j(es:List Entry)(s:ByteArray):List Entry:=es.filter (fun e=>decide (e.sku=s))
def K9:List Entry→Int
 | []=>0
 | e :: l=>e.qty+K9 l
def lineOf(es:List Entry)(s:ByteArray):Line:=⟨s,K9 (A3j es s),(A3j es s).length⟩
theorem A6p(a b:List Entry):K9 (a++b)=K9 a+K9 b:=by
 induction a with
 | nil=>simp [K9]
 | cons e a ih=>simp only [List.cons_append,K9,ih];omega
theorem A8l(a:List Entry)(e:Entry)(s:ByteArray):A3j (a++[e]) s=if e.sku=s then A3j a s++[e]else A3j a s:=by
 unfold A3j
 rw[List.filter_append]
 by_cases h:e.sku=s
 ·rw[if_pos h,List.filter_cons_of_pos (by simpa using h),List.filter_nil]
 ·rw[if_neg h,List.filter_cons_of_neg (by simpa using h),List.filter_nil,List.append_nil]
theorem Aa9(a:List Entry)(e:Entry):lineOf (a++[e]) e.sku=⟨e.sku,(lineOf a e.sku).qty+e.qty,(lineOf a e.sku).parts+1⟩:=by
 unfold lineOf
 rw[A8l,if_pos rfl,A6p,List.length_append]
 simp only [K9,List.length_cons,List.length_nil]
 congr 1
 omega
theorem A8m{a:List Entry}{e:Entry}{s:ByteArray}(h:¬ e.sku=s):lineOf (a++[e]) s=lineOf a s:=by
 unfold lineOf
 rw[A8l,if_neg h]
theorem Av0{es:List Entry}{s:ByteArray}(h:∀ e∈es,¬ e.sku=s):A3j es s=[]:=by
 unfold A3j
 rw[List.filter_eq_nil_iff]
 intro e he
 simpa using h e he
def Av1(e:Entry)(l:Line):Line:=⟨e.sku,l.qty+e.qty,l.parts+1⟩
def K1(es:List Entry):List (ByteArray×Line):=es.foldl (fun m e=>A06 e.sku (Av1 e (lkp e.sku m)) m) []
theorem A3k(a:List Entry)(e:Entry):K1 (a++[e])=A06 e.sku (Av1 e (lkp e.sku (K1 a))) (K1 a):=by
 unfold K1
 rw[List.foldl_append]
 rfl
theorem V9{β:Type}(k:ByteArray)(v:β):∀ m:List (ByteArray×β),(k∈m.map (·.1)∧(A06 k v m).map (·.1)=m.map (·.1))∨(¬ k∈m.map (·.1)∧(A06 k v m).map (·.1)=m.map (·.1)++[k])
 | []=>.inr ⟨by simp,by simp [A06]⟩
 | p :: m=>by
  have ih:=V9 k v m
  rw[A06]
  by_cases h:p.1=k
  ·rw[if_pos h]
   exact .inl ⟨by simp [h],by simp⟩
  ·rw[if_neg h,List.map_cons,List.map_cons]
   rcases ih with⟨h1,h2⟩ | ⟨h1,h2⟩
   ·exact .inl ⟨List.mem_cons_of_mem _ h1,by rw[h2]⟩
   ·refine .inr ⟨fun hk=>?_,by rw[h2];rfl⟩
    rcases List.mem_cons.1 hk with a | a
    ·exact h a.symm
    ·exact h1 a
theorem Ak8{β:Type}{k:ByteArray}{v:β}{m:List (ByteArray×β)}(h:(m.map (·.1)).Nodup):((A06 k v m).map (·.1)).Nodup:=by
 rcases V9 k v m with⟨_,h2⟩ | ⟨hk,h2⟩
 ·rw[h2];exact h
 ·rw[h2,List.nodup_append]
  refine⟨h,by simp,fun a ha b hb e=>?_⟩
  have:b=k:=by simpa using hb
  rw[← this,← e]at hk
  exact hk ha
theorem A0v{β:Type}{k:ByteArray}{v:β}:∀ {m:List (ByteArray×β)},(m.map (·.1)).Nodup→∀ p,p∈A06 k v m↔p=(k,v)∨(p∈m∧¬ p.1=k)
 | [],_,p=>by simp [A06]
 | q :: m,h,p=>by
  rw[List.map_cons,List.nodup_cons]at h
  rw[A06]
  by_cases hq:q.1=k
  ·rw[if_pos hq,List.mem_cons,hq]
   constructor
   ·rintro(a | a)
    ·exact .inl a
    ·refine .inr ⟨List.mem_cons_of_mem _ a,fun e=>h.1 ?_⟩
     rw[hq,← e]
     exact List.mem_map.2 ⟨p,a,rfl⟩
   ·rintro(a | ⟨a,b⟩)
    ·exact .inl a
    ·rcases List.mem_cons.1 a with c | c
     ·rw[c]at b;exact absurd hq b
     ·exact .inr c
  ·rw[if_neg hq,List.mem_cons,A0v h.2]
   constructor
   ·rintro(a | a | ⟨a,b⟩)
    ·rw[a];exact .inr ⟨List.mem_cons_self,hq⟩
    ·exact .inl a
    ·exact .inr ⟨List.mem_cons_of_mem _ a,b⟩
   ·rintro(a | ⟨a,b⟩)
    ·exact .inr (.inl a)
    ·rcases List.mem_cons.1 a with c | c
     ·exact .inl c
     ·exact .inr (.inr ⟨c,b⟩)
theorem A6q{β:Type}(k:ByteArray)(v:β)(m:List (ByteArray×β)):(A06 k v m).length≤m.length+1:=by
 rcases V9 k v m with⟨_,h2⟩ | ⟨_,h2⟩
 ·have:=congrArg List.length h2
  rw[List.length_map,List.length_map]at this
  omega
 ·have:=congrArg List.length h2
  rw[List.length_append,List.length_map,List.length_map]at this
  simp at this
  omega
theorem A3l(es:List Entry):(K1 es).length≤es.length:=by
 have h:∀ n,n≤es.length→(K1 (es.take n)).length≤n:=by
  intro n
  induction n with
  | zero=>intro _;simp [K1]
  | succ n ih =>
   intro hn
   rw[List.take_succ_eq_append_getElem (by omega),A3k]
   have:=ih (by omega)
   have:=A6q es[n].sku (Av1 es[n] (lkp es[n].sku (K1 (es.take n)))) (K1 (es.take n))
   omega
 have:=h es.length (Nat.le_refl _)
 rwa [List.take_length]at this
structure IsFill (l:List Entry) (m:List (ByteArray×Line)):Prop where
 keys:(m.map (·.1)).Nodup
 val:∀ p∈m,p.2=lineOf l p.1∧∃ e∈l,e.sku=p.1
 all:∀ e∈l,∃ p∈m,p.1=e.sku
theorem IsFill.lkp{l:List Entry}{m:List (ByteArray×Line)}(h:IsFill l m)(s:ByteArray):(lkp s m).qty=(lineOf l s).qty∧(lkp s m).parts=(lineOf l s).parts:=by
 unfold E.lkp
 cases hf:m.find? (fun p=>decide (p.1=s))with
 | some p =>
  have h1:=List.find?_some hf
  have h2:=List.mem_of_find?_eq_some hf
  have h3:=(h.val p h2).1
  have h4:p.1=s:=by simpa using h1
  simp only
  rw[h3,h4]
  exact⟨rfl,rfl⟩
 | none =>
  rw[List.find?_eq_none]at hf
  have:A3j l s=[]:=Av0 fun e he hs=>by
   obtain⟨p,hp,hpe⟩:=h.all e he
   have:=hf p hp
   rw[hpe,hs]at this
   simp at this
  unfold lineOf
  rw[this]
  exact⟨rfl,rfl⟩
theorem IsFill.step{l:List Entry}{m:List (ByteArray×Line)}(h:IsFill l m)(e:Entry):IsFill (l++[e]) (A06 e.sku (Av1 e (E.lkp e.sku m)) m):=by
 have hv:Av1 e (E.lkp e.sku m)=lineOf (l++[e]) e.sku:=by
  rw[Aa9]
  unfold Av1
  rw[(h.lkp e.sku).1,(h.lkp e.sku).2]
 refine⟨Ak8 h.keys,fun p hp=>?_,fun x hx=>?_⟩
 ·rw[A0v h.keys]at hp
  rcases hp with rfl | ⟨hp,hne⟩
  ·exact⟨hv,e,by simp,rfl⟩
  ·obtain⟨h1,x,hx,hxe⟩:=h.val p hp
   exact⟨by rw[A8m (fun k=>hne k.symm),h1],x,by simp [hx],hxe⟩
 ·rcases List.mem_append.1 hx with hx | hx
  ·obtain⟨p,hp,hpe⟩:=h.all x hx
   by_cases hk:p.1=e.sku
   ·exact⟨(e.sku,Av1 e (E.lkp e.sku m)),(A0v h.keys _).2 (.inl rfl),by rw[← hk,hpe]⟩
   ·exact⟨p,(A0v h.keys _).2 (.inr ⟨hp,hk⟩),hpe⟩
  ·have:x=e:=by simpa using hx
   subst this
   exact⟨_,(A0v h.keys _).2 (.inl rfl),rfl⟩
theorem Av2(es:List Entry):IsFill es (K1 es):=by
 have h:∀ n,n≤es.length→IsFill (es.take n) (K1 (es.take n)):=by
  intro n
  induction n with
  | zero=>intro _;exact⟨by simp [K1],fun p hp=>by simp [K1]at hp,fun e he=>by simp at he⟩
  | succ n ih =>
   intro hn
   rw[List.take_succ_eq_append_getElem (by omega),A3k]
   exact(ih (by omega)).step _
 have:=h es.length (Nat.le_refl _)
 rwa [List.take_length]at this
def upL(l:List Line):Prop:=l.Pairwise (fun a b=>sLt a.sku b.sku=true)
structure IsLines (es:List Entry) (l:List Line):Prop where
 up:upL l
 mem:∀ x,x∈l↔(∃ e∈es,e.sku=x.sku)∧x=lineOf es x.sku
theorem A55:∀ {a b:List Line},upL a→upL b→(∀ e,e∈a↔e∈b)→a=b
 | [],[],_,_,_=>rfl
 | [],y :: b,_,_,h=>by have:=(h y).2 (by simp);cases this
 | x :: a,[],_,_,h=>by have:=(h x).1 (by simp);cases this
 | x :: a,y :: b,ha,hb,h=>by
  have pa:=List.pairwise_cons.1 ha
  have pb:=List.pairwise_cons.1 hb
  have e:x=y:=by
   apply Classical.byContradiction
   intro hne
   have h1:x∈b:=by
    rcases List.mem_cons.1 ((h x).1 (by simp))with k | k
    ·exact absurd k hne
    ·exact k
   have h2:y∈a:=by
    rcases List.mem_cons.1 ((h y).2 (by simp))with k | k
    ·exact absurd k.symm hne
    ·exact k
   exact V6 _ (Q8 (pa.1 y h2) (pb.1 x h1))
  subst e
  rw[A55 pa.2 pb.2 fun e=>?_]
  constructor
  ·intro he
   rcases List.mem_cons.1 ((h e).1 (by simp [he]))with k | k
   ·subst k;exact absurd (pa.1 e he) (V6 _)
   ·exact k
  ·intro he
   rcases List.mem_cons.1 ((h e).2 (by simp [he]))with k | k
   ·subst k;exact absurd (pb.1 e he) (V6 _)
   ·exact k
theorem IsLines.unique{es:List Entry}{a b:List Line}(ha:IsLines es a)(hb:IsLines es b):a=b:=A55 ha.up hb.up fun x=>(ha.mem x).trans (hb.mem x).symm
theorem A8n{es:List Entry}{l:List Line}(h:l.Perm ((K1 es).map (·.2))):IsLines es (A1f l):=by
 have hf:=Av2 es
 have hp:(A1f l).Perm ((K1 es).map (·.2)):=(A0u l).trans h
 have hm:∀ x,x∈A1f l↔(∃ e∈es,e.sku=x.sku)∧x=lineOf es x.sku:=fun x=>by
  rw[hp.mem_iff,List.mem_map]
  constructor
  ·rintro⟨p,hp,rfl⟩
   obtain⟨h1,e,he,h2⟩:=hf.val p hp
   have h3:p.2.sku=p.1:=by rw[h1];rfl
   rw[h3]
   exact⟨⟨e,he,h2⟩,h1⟩
  ·rintro⟨⟨e,he,h1⟩,h2⟩
   obtain⟨p,hp,hpe⟩:=hf.all e he
   refine⟨p,hp,?_⟩
   rw[(hf.val p hp).1,hpe,h1,← h2]
 refine⟨?_,hm⟩
 have hs:((A1f l).map (·.sku)).Nodup:=by
  have e1:((K1 es).map (·.2)).map (·.sku)=(K1 es).map (·.1):=by
   rw[List.map_map]
   refine List.map_congr_left fun p hp=>?_
   show p.2.sku=p.1
   rw[(hf.val p hp).1]
   rfl
  have:=(hp.map (·.sku)).nodup_iff.2
  rw[e1]at this
  exact this hf.keys
 have hr:=Ak7 l
 unfold upL
 rw[List.pairwise_iff_getElem]at hr ⊢
 intro i j hi hj hij
 have h1:=hr i j hi hj hij
 apply Classical.byContradiction
 intro h2
 have h3:¬ sLt (A1f l)[j].sku (A1f l)[i].sku=true:=by
  unfold ltL at h1
  rw[h1]
  simp
 have h4:=A0l h2 h3
 have:=(List.pairwise_iff_getElem.1 hs) i j (by simpa using hi) (by simpa using hj) hij
 simp only [List.getElem_map]at this
 exact this h4
def A3m(es:List Entry):List Line:=A1f ((K1 es).map (·.2))
theorem Av3(es:List Entry):IsLines es (A3m es):=A8n (List.Perm.refl _)
theorem Ab0{es:List Entry}{l:List Line}(h:l.Perm ((K1 es).map (·.2))):A1f l=A3m es:=(A8n h).unique (Av3 es)
def M0(es:List Entry):List Line×Int:=if C1 es=0 then(A3m es,0)else([],1)
theorem A3n{es:List Entry}(h:C1 es=0):M0 es=(A3m es,0):=by unfold M0;rw[if_pos h]
theorem A8o{es:List Entry}(h:¬ C1 es=0):M0 es=([],1):=by unfold M0;rw[if_neg h]
theorem A6r:∀(n:Nat) (seen:List Nat),seen.Nodup→(∀ j∈seen,j < n)→seen.length≤n
 | 0,seen,_,hb=>by
  cases seen with
  | nil=>simp
  | cons j l=>exact absurd (hb j (by simp)) (by omega)
 | n+1,seen,hn,hb=>by
  by_cases h:n∈seen
  ·have h1:=A6r n (seen.erase n) (hn.erase n) fun j hj=>by
    have:=(hn.mem_erase_iff).1 hj
    have:=hb j this.2
    omega
   rw[List.length_erase_of_mem h]at h1
   omega
  ·have:=A6r n seen hn fun j hj=>by
    have:=hb j hj
    have:j≠n:=fun e=>h (e ▸ hj)
    omega
   omega
theorem Av4{n:Nat}{seen:List Nat}(hn:seen.Nodup)(hb:∀ j∈seen,j < n)(ha:∀ j,j < n→j∈seen):seen.Perm (List.range n) :=
 (List.perm_ext_iff_of_nodup hn List.nodup_range).2 fun j=>⟨fun h=>List.mem_range.2 (hb j h),fun h=>ha j (List.mem_range.1 h)⟩
theorem Av5{β:Type}[Inhabited β](m:List β):(List.range m.length).map (fun j=>m[j]!)=m:=by
 apply List.ext_getElem
 ·simp
 ·intro i h1 h2
  rw[List.getElem_map,List.getElem_range,getElem!_pos m i h2]
end Go.Proofs.YtphcaholhacnpaaGreat
namespace Go.Proofs.YtphcaholhacnpaaGreat
open Go.E
set_option maxRecDepth 100000
set_option maxHeartbeats 4000000
def ofV(es:List Entry)(sku:ByteArray):List Entry×Int :=
 if okL es=true then(if G2 sku=true then(es.filter (fun e=>decide (e.sku=sku)),0)else([],5))else([],1)
def I6(es:List Entry)(rep:Int)(sku:ByteArray):List Entry×Int :=
 if okL es=true then(if 0≤rep∧rep < 16 then(if G2 sku=true then(es.filter (fun e=>decide (e.sku=sku∧e.dot.rep=rep)),0)else([],5))else([],3))else([],1)
def Ab1(p:Entry→Bool)(es:List Entry)(i:Int)(l:List Entry):Prop:=0≤i∧i≤es.length∧l=(es.take i.toNat).filter p∧(l.length:Int)≤i
def decP(es:List Entry)(i:Int)(l:List Entry):Nat:=(es.length-i).toNat
theorem A3o{p:Entry→Bool}{es:List Entry}{i:Int}(h0:0≤i)(h:i < es.length):(es.take (i+1).toNat).filter p=if p es[i.toNat]! = true then(es.take i.toNat).filter p++[es[i.toNat]!]else(es.take i.toNat).filter p:=by
 rw[← D6 h0 h,List.filter_append]
 by_cases hp:p es[i.toNat]! = true
 ·rw[if_pos hp,List.filter_cons_of_pos hp,List.filter_nil]
 ·rw[if_neg hp,List.filter_cons_of_neg hp,List.filter_nil,List.append_nil]
theorem O1(es:List Entry)(sku:ByteArray):(ofV es sku).1.length≤es.length:=by
 unfold ofV
 split
 ·split
  ·exact List.length_filter_le _ _
  ·simp
 ·simp
theorem Ak9(es:List Entry):(okL es=true∧C1 es=0)∨(¬ okL es=true∧C1 es=1):=by
 unfold C1
 by_cases h:okL es=true
 ·rw[if_pos h];exact .inl ⟨h,rfl⟩
 ·rw[if_neg h];exact .inr ⟨h,rfl⟩
theorem Ah0{es:List Entry}{sku:ByteArray}(h:¬ C1 es=0):ofV es sku=([],1):=by
 unfold ofV;rw[if_neg];intro k;exact h (by unfold C1;rw[if_pos k])
theorem A8p{es:List Entry}(h:C1 es=0):okL es=true:=by
 rcases Ak9 es with⟨a,b⟩ | ⟨a,b⟩
 ·exact a
 ·omega
theorem Av6{es:List Entry}{sku:ByteArray}(h:C1 es=0)(g:¬ G2 sku=true):ofV es sku=([],5):=by
 unfold ofV;rw[if_pos (A8p h),if_neg g]
theorem Av7{es:List Entry}{sku:ByteArray}(h:C1 es=0)(g:G2 sku=true):ofV es sku=(es.filter (fun e=>decide (e.sku=sku)),0):=by
 unfold ofV;rw[if_pos (A8p h),if_pos g]
theorem A3p{es:List Entry}{rep:Int}{sku:ByteArray}(h:¬ C1 es=0):I6 es rep sku=([],1):=by
 unfold I6;rw[if_neg];intro k;exact h (by unfold C1;rw[if_pos k])
theorem A6s{es:List Entry}{rep:Int}{sku:ByteArray}(h:C1 es=0)(r:rep < 0∨16≤rep):I6 es rep sku=([],3):=by
 unfold I6;rw[if_pos (A8p h),if_neg (by omega)]
theorem A6t{es:List Entry}{rep:Int}{sku:ByteArray}(h:C1 es=0)(r:¬(rep < 0∨16≤rep))(g:¬ G2 sku=true):I6 es rep sku=([],5):=by
 unfold I6;rw[if_pos (A8p h),if_pos (by omega),if_neg g]
theorem A6u{es:List Entry}{rep:Int}{sku:ByteArray}(h:C1 es=0)(r:¬(rep < 0∨16≤rep))(g:G2 sku=true):I6 es rep sku=(es.filter (fun e=>decide (e.sku=sku∧e.dot.rep=rep)),0):=by
 unfold I6;rw[if_pos (A8p h),if_pos (by omega),if_pos g]
theorem A3q(p:Entry→Bool)(es:List Entry):Ab1 p es 0 []:=⟨by omega,by omega,by simp,by simp⟩
theorem A6v{p:Entry→Bool}{es l:List Entry}{i:Int}(h0:0≤i)(h2:l=(es.take i.toNat).filter p)(h3:(l.length:Int)≤i)(h4:i < es.length)(h:p es[i.toNat]! = true):Ab1 p es (i+1) (l++[es[i.toNat]!]) :=
 ⟨by omega,by omega,by rw[A3o h0 h4,if_pos h,h2],by rw[List.length_append,List.length_cons,List.length_nil];omega⟩
theorem A3r{p:Entry→Bool}{es l:List Entry}{i:Int}(h0:0≤i)(h2:l=(es.take i.toNat).filter p)(h3:(l.length:Int)≤i)(h4:i < es.length)(h:¬ p es[i.toNat]! = true):Ab1 p es (i+1) l :=
 ⟨by omega,by omega,by rw[A3o h0 h4,if_neg h,h2],by omega⟩
theorem A3s{p:Entry→Bool}{es l:List Entry}{i:Int}(h2:l=(es.take i.toNat).filter p)(h4:¬ i < es.length):l=es.filter p:=by
 rw[h2,List.take_of_length_le (by omega)]
theorem B3w(e:Entry)(sku:ByteArray):Con Tryz.prog 170 [.agg (c46 e),.eptr [.s sku]] (.b (decide (e.sku=sku))) :=
 by
 refine sC B3 [.tmp 3] 8 Tryz.func170 ?_
 intro e0 cx
 refine sq<|rG cx [1,2] [2] z0<|sn<|sq<|rG cx [3] [] (tT 3 (Ad4:AV.b (e.sku.toList == sku.toList)=AV.b (decide (e.sku=sku))) z0)<|sn<|rT ?_
 exact X8 (r:=.b (decide (e.sku=sku))) (obl:=[]) (by kernel_rfl) trivial (A5.refl _)
theorem B3x(e:Entry)(sku:ByteArray)(rep:Int):Con Tryz.prog 104 [.agg (c46 e),.eptr [.s sku],.eptr [.i .i64 rep]] (.b (decide (e.sku=sku∧e.dot.rep=rep))) :=
 by
 refine sC B3 [.tmp 4] 16 Tryz.func104 ?_
 intro e0 cx
 refine sq<|rG cx [1,2,3] [3] z0<|sn<|sq<|A9 (σ':=⟨[(4,.b (decide (e.sku=sku∧e.dot.rep=rep)))],[]⟩) ?_ ?_
 refine A4 (e.sku=sku) (fun h_1=>?_) (fun h_1=>?_)
 refine rG cx [4] [] (tT 3 (N4 h_1:AV.b (e.sku.toList == sku.toList)=AV.b true) (tB 9 (e.dot.rep=rep) (tD 11 (decide (e.dot.rep=rep)) (e.sku=sku∧e.dot.rep=rep) (by simp only [eq_true h_1,tsl]) z0))) ?_
 exact⟨rfl,by kernel_rfl⟩
 refine rG cx [4] [] (tT 3 (Q0 h_1:AV.b (e.sku.toList == sku.toList)=AV.b false) (tD 11 false (e.sku=sku∧e.dot.rep=rep) (by simp only [eq_false h_1,tsl]) z0)) ?_
 exact⟨rfl,by kernel_rfl⟩
 refine sn<|rT ?_
 exact X8 (r:=.b (decide (e.sku=sku∧e.dot.rep=rep))) (obl:=[]) (by kernel_rfl) trivial (A5.refl _)
theorem B2d(es:List Entry)(sku:ByteArray)(hs:es.length*40≤140737488351232):Con Tryz.prog 103 [.sl (es.map c46),.fn (.func 170) [] [.eptr [.s sku]]] (.sl ((es.filter (fun e=>decide (e.sku=sku))).map c46)) :=
 by
 refine lN 0 c46 (es) Tryz.func103 fun hl_0=>sC B3 [.tmp 4] 23 Tryz.func103 ?_
 intro e0 cx
 refine sq<|rG cx [0,1] [] z0<|sn<|sq<|rG cx [0,1,5] [] z0<|sn<|sq<|sq<|rG cx [1,5,8,9,10] [] (tL 1 c46 es z0)<|sn<|bL 0<|I7 5 1005 46 4 (σ':=⟨[(1,.fn (Fn.func (170:FuncId)) [] [.eptr [.s (sku)]]),(5,.own 1005 0),(8,.sl (List.map c46 es)),(9,.i .i64 ((↑es.length:Int))),(10,.i .i64 ((0:Int)))],[(1005,⟨0,46,.row 4 (List.map c46 [])⟩)]⟩) (by kernel_rfl)<|sL (X:=Int×List Entry) (fun x=>⟨[(1,.fn (Fn.func (170:FuncId)) [] [.eptr [.s (sku)]]),(5,.own 1005 0),(8,.sl (List.map c46 es)),(9,.i .i64 ((↑es.length:Int))),(10,.i .i64 (x.1))],[(1005,⟨0,46,.row 4 (List.map c46 x.2)⟩)]⟩) (fun x ↦ decP es x.1 x.2) (fun x ↦ Ab1 (fun e ↦ decide (e.sku=sku)) es x.1 x.2) [1,5,8,9,10] [1005] (((0:Int),[])) (show Ab1 (fun e ↦ decide (e.sku=sku)) es (0:Int) []from(by exact(A3q _ _))) ?_
 rintro⟨i0,l1⟩ h_2
 obtain⟨hh3,hh4,hh5,h6⟩:0≤i0∧i0≤(↑es.length:Int)∧l1=List.filter (fun e ↦ decide (e.sku=sku)) (List.take i0.toNat es)∧(↑l1.length:Int)≤i0:=h_2
 refine rE cx [1,5,8,9,10,11] [1005] (zB 0 (i0 <(↑es.length:Int))) (fun h7=>?_) fun h7=>?_
 refine sK<|sn<|sq<|bL 1<|sq<|rG cx [1,5,8,9,10,7] [1005,7] (fA (0≤i0) (fG c46 es i0.toNat (fR 4 (fN 4 4 (oR 0 (c46 es[i0.toNat]!) z0)))))<|sn<|sq<|rG cx [1,5,8,9,10,7,16] [1005,7] (fT (B3w (es[i0.toNat]!) (sku)) (oA 2 (A95 (B3w (es[i0.toNat]!) (sku))) z0))<|sn<|dC (es[i0.toNat]!.sku=sku) (fun h8=>?_) fun h8=>?_
 refine rG cx [1,5,8,9,10] [1005] (fR 46 (fR 4 (fR 4 (fX c46 [es[i0.toNat]!] 4 (fS c46 l1 c46 [es[i0.toNat]!] (fP (((List.map c46 l1).length+(List.map c46 [es[i0.toNat]!]).length)*(40:Nat)≤(140737488355328:Nat)) (by(simp only [Go.maxLen,List.length_map,List.length_append,List.length_cons,List.length_nil];omega)) (fM c46 l1 [es[i0.toNat]!] (oV 3 { rows:=some (List.map c46 (l1++[es[i0.toNat]!])) } z0))))))))<|bN<|sn<|rG cx [1,5,8,9,10] [1005] (tW 0 (i0+1) z0)<|sn<|nX ((i0+1,l1++[es[i0.toNat]!])) (show((↑es.length:Int)-(i0+1)).toNat <((↑es.length:Int)-i0).toNat from(by omega)) (show Ab1 (fun e ↦ decide (e.sku=sku)) es (i0+1) (l1++[es[i0.toNat]!])from(by exact(A6v hh3 hh5 h6 h7 (decide_eq_true h8))))
 refine sK<|bN<|sn<|rG cx [1,5,8,9,10] [1005] (tW 0 (i0+1) z0)<|sn<|nX ((i0+1,l1)) (show((↑es.length:Int)-(i0+1)).toNat <((↑es.length:Int)-i0).toNat from(by omega)) (show Ab1 (fun e ↦ decide (e.sku=sku)) es (i0+1) l1 from(by exact(A3r hh3 hh5 h6 h7 (by simpa using h8))))
 refine eX 0<|nE<|nE<|bH<|sn<|sq<|rG cx [4] [1005] z0<|sn<|rT<|qR (.sl (List.map c46 l1)) (.eq (by exact(by rw[A3s hh5 h7])))
theorem B2e(es:List Entry)(sku:ByteArray)(rep:Int)(hs:es.length*40≤140737488351232):Con Tryz.prog 103 [.sl (es.map c46),.fn (.func 104) [] [.eptr [.s sku],.eptr [.i .i64 rep]]] (.sl ((es.filter (fun e=>decide (e.sku=sku∧e.dot.rep=rep))).map c46)) :=
 by
 refine lN 0 c46 (es) Tryz.func103 fun hl_0=>sC B3 [.tmp 4] 23 Tryz.func103 ?_
 intro e0 cx
 refine sq<|rG cx [0,1] [] z0<|sn<|sq<|rG cx [0,1,5] [] z0<|sn<|sq<|sq<|rG cx [1,5,8,9,10] [] (tL 1 c46 es z0)<|sn<|bL 0<|I7 5 1005 46 4 (σ':=⟨[(1,.fn (Fn.func (104:FuncId)) [] [.eptr [.s (sku)],.eptr [.i .i64 (rep)]]),(5,.own 1005 0),(8,.sl (List.map c46 es)),(9,.i .i64 ((↑es.length:Int))),(10,.i .i64 ((0:Int)))],[(1005,⟨0,46,.row 4 (List.map c46 [])⟩)]⟩) (by kernel_rfl)<|sL (X:=Int×List Entry) (fun x=>⟨[(1,.fn (Fn.func (104:FuncId)) [] [.eptr [.s (sku)],.eptr [.i .i64 (rep)]]),(5,.own 1005 0),(8,.sl (List.map c46 es)),(9,.i .i64 ((↑es.length:Int))),(10,.i .i64 (x.1))],[(1005,⟨0,46,.row 4 (List.map c46 x.2)⟩)]⟩) (fun x ↦ decP es x.1 x.2) (fun x ↦ Ab1 (fun e ↦ decide (e.sku=sku∧e.dot.rep=rep)) es x.1 x.2) [1,5,8,9,10] [1005] (((0:Int),[])) (show Ab1 (fun e ↦ decide (e.sku=sku∧e.dot.rep=rep)) es (0:Int) []from(by exact(A3q _ _))) ?_
 rintro⟨i0,l1⟩ h_2
 obtain⟨hh3,hh4,hh5,h6⟩:0≤i0∧i0≤(↑es.length:Int)∧l1=List.filter (fun e ↦ decide (e.sku=sku∧e.dot.rep=rep)) (List.take i0.toNat es)∧(↑l1.length:Int)≤i0:=h_2
 refine rE cx [1,5,8,9,10,11] [1005] (zB 0 (i0 <(↑es.length:Int))) (fun h7=>?_) fun h7=>?_
 refine sK<|sn<|sq<|bL 1<|sq<|rG cx [1,5,8,9,10,7] [1005,7] (fA (0≤i0) (fG c46 es i0.toNat (fR 4 (fN 4 4 (oR 0 (c46 es[i0.toNat]!) z0)))))<|sn<|sq<|rG cx [1,5,8,9,10,7,16] [1005,7] (fT (B3x (es[i0.toNat]!) (sku) (rep)) (oA 2 (A95 (B3x (es[i0.toNat]!) (sku) (rep))) z0))<|sn<|dC (es[i0.toNat]!.sku=sku∧es[i0.toNat]!.dot.rep=rep) (fun h8=>?_) fun h8=>?_
 refine rG cx [1,5,8,9,10] [1005] (fR 46 (fR 4 (fR 4 (fX c46 [es[i0.toNat]!] 4 (fS c46 l1 c46 [es[i0.toNat]!] (fP (((List.map c46 l1).length+(List.map c46 [es[i0.toNat]!]).length)*(40:Nat)≤(140737488355328:Nat)) (by(simp only [Go.maxLen,List.length_map,List.length_append,List.length_cons,List.length_nil];omega)) (fM c46 l1 [es[i0.toNat]!] (oV 3 { rows:=some (List.map c46 (l1++[es[i0.toNat]!])) } z0))))))))<|bN<|sn<|rG cx [1,5,8,9,10] [1005] (tW 0 (i0+1) z0)<|sn<|nX ((i0+1,l1++[es[i0.toNat]!])) (show((↑es.length:Int)-(i0+1)).toNat <((↑es.length:Int)-i0).toNat from(by omega)) (show Ab1 (fun e ↦ decide (e.sku=sku∧e.dot.rep=rep)) es (i0+1) (l1++[es[i0.toNat]!])from(by exact(A6v hh3 hh5 h6 h7 (decide_eq_true h8))))
 refine sK<|bN<|sn<|rG cx [1,5,8,9,10] [1005] (tW 0 (i0+1) z0)<|sn<|nX ((i0+1,l1)) (show((↑es.length:Int)-(i0+1)).toNat <((↑es.length:Int)-i0).toNat from(by omega)) (show Ab1 (fun e ↦ decide (e.sku=sku∧e.dot.rep=rep)) es (i0+1) l1 from(by exact(A3r hh3 hh5 h6 h7 (by simpa using h8))))
 refine eX 0<|nE<|nE<|bH<|sn<|sq<|rG cx [4] [1005] z0<|sn<|rT<|qR (.sl (List.map c46 l1)) (.eq (by exact(by rw[A3s hh5 h7])))
theorem con100(es:List Entry)(sku:ByteArray)(hs:es.length*40≤140737488351232):Con Tryz.prog 100 [.sl (es.map c46),.s sku] (.tup [.sl ((ofV es sku).1.map c46),.i .i64 (ofV es sku).2]) :=
 by
 refine lN 0 c46 (es) Tryz.func100 fun hl_0=>sC B3 [.tmp 4,.tmp 5] 15 Tryz.func100 ?_
 intro e0 cx
 refine sq<|rG cx [0,3] [3] z0<|sn<|sq<|sq<|rG cx [0,3,8] [3] (fT (M7 (es)) (tN 2 (C1 es) (0:Int) (oA 1 (.i .i64 (C1 es)) z0)))<|sn<|dC (¬C1 es=0) (fun h0=>?_) fun h0=>?_
 refine sq<|rG cx [4,5] [] z0<|sn<|rT<|nR<|qR (.tup [.nl,.i .i64 ((1:Int))]) (A5.tup (ZLe.cons (A5.nl' (show List.map c46 (ofV es sku).1=[]from(by exact(by rw[Ah0 h0];rfl)))) (ZLe.cons (A5.eq (show AV.i .i64 1=AV.i .i64 (ofV es sku).2 from(by exact(by rw[Ah0 h0])))) ZLe.nil)))
 refine sK<|sn<|sq<|sq<|rG cx [0,3,11] [3] (fT (A86 (sku)) (tT 2 (E7:(AV.b !G2 sku)=AV.b (decide ¬G2 sku=true)) (oA 1 (.b (G2 sku)) z0)))<|sn<|dC (¬G2 sku=true) (fun h1=>?_) fun h1=>?_
 refine sq<|rG cx [4,5] [] z0<|sn<|rT<|nR<|qR (.tup [.nl,.i .i64 ((5:Int))]) (A5.tup (ZLe.cons (A5.nl' (show List.map c46 (ofV es sku).1=[]from(by exact(by rw[Av6 (Classical.not_not.1 h0) h1];rfl)))) (ZLe.cons (A5.eq (show AV.i .i64 5=AV.i .i64 (ofV es sku).2 from(by exact(by rw[Av6 (Classical.not_not.1 h0) h1])))) ZLe.nil)))
 refine sK<|sn<|sq<|rG cx [4,5] [] (fT (B2d (es) (sku) (by(with_reducible assumption))) (oA 2 (.sl (List.map c46 (List.filter (fun e ↦ decide (e.sku=sku)) es))) z0))<|sn<|rT<|qR (.tup [.sl (List.map c46 (List.filter (fun e ↦ decide (e.sku=sku)) es)),.i .i64 ((0:Int))]) (A5.tup (ZLe.cons (A5.eq (show AV.sl (List.map c46 (List.filter (fun e ↦ decide (e.sku=sku)) es))=AV.sl (List.map c46 (ofV es sku).1)from(by exact(by rw[Av7 (Classical.not_not.1 h0) (Classical.not_not.1 h1)])))) (ZLe.cons (A5.eq (show AV.i .i64 0=AV.i .i64 (ofV es sku).2 from(by exact(by rw[Av7 (Classical.not_not.1 h0) (Classical.not_not.1 h1)])))) ZLe.nil)))
theorem con26(es:List Entry)(rep:Int)(sku:ByteArray)(hs:es.length*40≤140737488351232):Con Tryz.prog 26 [.sl (es.map c46),.i .i64 rep,.s sku] (.tup [.sl ((I6 es rep sku).1.map c46),.i .i64 (I6 es rep sku).2]) :=
 by
 refine lN 0 c46 (es) Tryz.func26 fun hl_0=>sC B3 [.tmp 6,.tmp 7] 23 Tryz.func26 ?_
 intro e0 cx
 refine sq<|rG cx [0,4,5] [4,5] z0<|sn<|sq<|sq<|rG cx [0,4,5,10] [4,5] (fT (M7 (es)) (tN 2 (C1 es) (0:Int) (oA 1 (.i .i64 (C1 es)) z0)))<|sn<|dC (¬C1 es=0) (fun h0=>?_) fun h0=>?_
 refine sq<|rG cx [6,7] [] z0<|sn<|rT<|nR<|qR (.tup [.nl,.i .i64 ((1:Int))]) (A5.tup (ZLe.cons (A5.nl' (show List.map c46 (I6 es rep sku).1=[]from(by exact(by rw[A3p h0];rfl)))) (ZLe.cons (A5.eq (show AV.i .i64 1=AV.i .i64 (I6 es rep sku).2 from(by exact(by rw[A3p h0])))) ZLe.nil)))
 refine sK<|sn<|sq<|sq<|A9 (σ':=⟨[(0,.sl (List.map c46 es)),(4,.ptr (4) (0) (0) (0)),(5,.ptr (5) (0) (0) (0)),(16,.b (decide (rep <(0:Int)∨16≤rep)))],[(4,⟨0,3,.var [.i .i64 (rep)]⟩),(5,⟨0,9,.var [.s (sku)]⟩)]⟩) ?_ ?_
 refine A4 (rep <(0:Int)) (fun h_2=>?_) (fun h_2=>?_)
 refine rG cx [0,4,5,16] [4,5] (tT 1 (A3 h_2) (tD 5 true (rep <(0:Int)∨16≤rep) (by simp only [eq_true h_2,tsl]) z0)) ?_
 exact⟨rfl,by kernel_rfl⟩
 refine rG cx [0,4,5,16] [4,5] (tT 1 (A0 h_2) (tB 4 (16≤rep) (tD 5 (decide (16≤rep)) (rep <(0:Int)∨16≤rep) (by simp only [eq_false h_2,tsl]) z0))) ?_
 exact⟨rfl,by kernel_rfl⟩
 refine sn<|dC (rep <(0:Int)∨16≤rep) (fun h3=>?_) fun h3=>?_
 refine sq<|rG cx [6,7] [] z0<|sn<|rT<|nR<|qR (.tup [.nl,.i .i64 ((3:Int))]) (A5.tup (ZLe.cons (A5.nl' (show List.map c46 (I6 es rep sku).1=[]from(by exact(by rw[A6s (Classical.not_not.1 h0) h3];rfl)))) (ZLe.cons (A5.eq (show AV.i .i64 3=AV.i .i64 (I6 es rep sku).2 from(by exact(by rw[A6s (Classical.not_not.1 h0) h3])))) ZLe.nil)))
 refine sK<|sn<|sq<|sq<|rG cx [0,4,5,19] [4,5] (fT (A86 (sku)) (tT 2 (E7:(AV.b !G2 sku)=AV.b (decide ¬G2 sku=true)) (oA 1 (.b (G2 sku)) z0)))<|sn<|dC (¬G2 sku=true) (fun h4=>?_) fun h4=>?_
 refine sq<|rG cx [6,7] [] z0<|sn<|rT<|nR<|qR (.tup [.nl,.i .i64 ((5:Int))]) (A5.tup (ZLe.cons (A5.nl' (show List.map c46 (I6 es rep sku).1=[]from(by exact(by rw[A6t (Classical.not_not.1 h0) h3 h4];rfl)))) (ZLe.cons (A5.eq (show AV.i .i64 5=AV.i .i64 (I6 es rep sku).2 from(by exact(by rw[A6t (Classical.not_not.1 h0) h3 h4])))) ZLe.nil)))
 refine sK<|sn<|sq<|rG cx [6,7] [] (fT (B2e (es) (sku) (rep) (by(with_reducible assumption))) (oA 2 (.sl (List.map c46 (List.filter (fun e ↦ decide (e.sku=sku∧e.dot.rep=rep)) es))) z0))<|sn<|rT<|qR (.tup [.sl (List.map c46 (List.filter (fun e ↦ decide (e.sku=sku∧e.dot.rep=rep)) es)),.i .i64 ((0:Int))]) (A5.tup (ZLe.cons (A5.eq (show AV.sl (List.map c46 (List.filter (fun e ↦ decide (e.sku=sku∧e.dot.rep=rep)) es))=AV.sl (List.map c46 (I6 es rep sku).1)from(by exact(by rw[A6u (Classical.not_not.1 h0) h3 (Classical.not_not.1 h4)])))) (ZLe.cons (A5.eq (show AV.i .i64 0=AV.i .i64 (I6 es rep sku).2 from(by exact(by rw[A6u (Classical.not_not.1 h0) h3 (Classical.not_not.1 h4)])))) ZLe.nil)))
end Go.Proofs.YtphcaholhacnpaaGreat
namespace Go.Proofs.YtphcaholhacnpaaGreat
open Go.E
set_option maxRecDepth 100000
set_option maxHeartbeats 4000000
theorem Ah1{e:Entry}(h:U5 e=0):0≤e.dot.rep∧e.dot.rep < 16∧1≤e.dot.num∧e.dot.num≤1000000000:=by
 unfold U5 at h
 split at h
 ·cases h
 ·split at h
  ·cases h
  ·omega
theorem Y6{es:List Entry}(h:okL es=true){i:Nat}(hi:i < es.length):U5 es[i]! = 0∧(i=0∨dLt es[i-1]!.dot es[i]!.dot=true):=(X4 _ _).1 ((I8 _ _).1 h i hi)
theorem Av8{es:List Entry}(h:okL es=true):∀ i:Nat,i < es.length→(i:Int)+1≤es[i]!.dot.rep*1000000000+es[i]!.dot.num
 | 0,hi=>by have:=Ah1 (Y6 h hi).1;omega
 | i+1,hi=>by
  have h1:=Av8 h i (by omega)
  have h2:=Ah1 (Y6 h hi).1
  have h3:=Ah1 (Y6 h (show i < es.length by omega)).1
  have h4:=(Y6 h hi).2
  rcases h4 with h4 | h4
  ·omega
  ·simp only [Nat.add_sub_cancel,dLt,decide_eq_true_eq]at h4
   omega
theorem Av9{es:List Entry}(h:okL es=true):es.length≤16000000000:=by
 by_cases h0:es.length=0
 ·omega
 ·have h1:=Av8 h (es.length-1) (by omega)
  have h2:=Ah1 (Y6 h (show es.length-1 < es.length by omega)).1
  omega
theorem A3t{es:List Entry}(h:C1 es=0):okL es=true:=by
 unfold C1 at h
 split at h
 ·assumption
 ·cases h
theorem B3y{es:List Entry}(h:¬ C1 es=0):¬ okL es=true:=fun k=>h (by unfold C1;rw[if_pos k])
end Go.Proofs.YtphcaholhacnpaaGreat
namespace Go.E
open Go.RowKit
def Ah2(c:Code):Option (Nat×Nat):=match c with
 | .region _ ops false=>(match ops.toList with
  | o :: _=>(match o.op,o.dst,o.guard with
   | .next (.tmp t) false,some d,none=>some (t,d)
   | _,_,_=>none)
  | []=>none)
 | _=>none
def Ah3(σ:St)(d it:Nat)(B:Blk)(m:AV)(n:Nat)(seen:List Nat):Option Nat→St
 | none=>⟨put σ.slots d (.tup [.b false]),σ.hp⟩
 | some j=>⟨put σ.slots d (.tup [.b true,.dead,.dead]),put σ.hp it { B with k:=.iter m n (seen++[j]) }⟩
def B2f(P:Program)(T:Tab)(nt:Nat)(c:Code)(σ:St)(ks kb:List Nat):Option St:=match A5p P T [] nt (cO c) 1 ((cO c).toList.drop 1) σ with
 | some (rs,[])=>some ((σ.recs rs).norm [] ks kb)
 | _=>none
section
variable {P : Program} {E : Env} {T : Tab} {σ : St} {Q : Exit → St → Prop} {c : Code} {nt : Nat}
theorem B64(cx:Ctx P T E nt)(t0 d it m mv n:Nat)(B M:Blk)(seen:List Nat)(rows:List (List AV))(ks kb:List Nat){σ0:St}{σ1:Nat→St}(hn:n=rows.length)
  (k0:(∀ j,j < rows.length→j∈seen)→Q .normal σ0) (k1:∀ j,j < rows.length→j ∉ seen→Q .normal (σ1 j))
  (h:Ah2 c=some (t0,d)) (hdn:Nat.blt d nt=true) (hs:look σ.slots t0=some (.own it B.ver)) (hB:look σ.hp it=some B) (hBk:B.k=.iter (.own m mv) n seen)
  (hM:look σ.hp m=some M) (hMk:M.k=.map rows) (hMv:M.ver=mv)
  (h0:B2f P T nt c (Ah3 σ d it B (.own m mv) n seen none) ks kb=some σ0) (h1:∀ j,B2f P T nt c (Ah3 σ d it B (.own m mv) n seen (some j)) ks kb=some (σ1 j)):AWP P E c Q σ:=by
 intro a w hr
 cases c with
 | region i ops dr =>
  cases dr with
  | true=>simp [Ah2]at h
  | false =>
   simp only [Ah2]at h
   cases hl:ops.toList with
   | nil=>rw[hl]at h;cases h
   | cons o l =>
    rw[hl]at h
    simp only at h
    split at h
    ·rename_i t' d' ho hd hg
     simp only [Option.some.injEq,Prod.mk.injEq]at h
     obtain⟨rfl,rfl⟩:=h
     have hops:∀ j,(o :: l)[j]?=ops[j]?:=fun j=>by rw[← hl,Array.getElem?_toList]
     have hlen:ops.size=l.length+1:=by rw[← Array.length_toList,hl];rfl
     refine wp_region ?_
     rw[hlen,List.range_eq_range',List.range'_succ,wpOps_cons]
     have h0':ops[0]?=some o:=by rw[← hops];rfl
     unfold wpOp
     rw[h0']
     simp only
     have hw:Region.wanted o (yielded ops a.tmps)=true:=by unfold Region.wanted;rw[hg]
     rw[hw]
     simp only [if_true]
     -- the rest
     have tail:∀(σ' σ2:St),B2f P T nt (.region i ops false) σ' ks kb=some σ2→Q .normal σ2→∀ a' w',Rel E σ' a' w'→wpOps P ops (fun e a' w'=>∃ σ',Q e σ'∧Rel E σ' a' w') (List.range' 1 l.length) a' w':=by
      intro σ' σ2 hR hQ a' w' hrel
      unfold B2f at hR
      have e1:(cO (.region i ops false))=ops:=rfl
      rw[e1,hl]at hR
      simp only [List.drop_succ_cons,List.drop_zero]at hR
      split at hR
      ·rename_i rs hrun
       simp only [Option.some.injEq]at hR
       subst hR
       refine A2i (P:=P) (E:=E) (ovs:=[]) cx.hT l 1 σ' rs [] (fun j=>by rw[← hops,Nat.add_comm 1 j,List.getElem?_cons_succ]) (by rw[cx.hnt];exact hrun) (fun p hp=>by cases hp) (fun a'' w'' h''=>⟨_,hQ,h''.norm [] ks kb⟩) a' w' hrel
      ·cases hR
     obtain⟨pl,hx⟩:=hr
     have hBl:B.live=true:=by simp [Blk.live,hBk]
     have hMl:M.live=true:=by simp [Blk.live,hMk]
     have he:=E1 (hx.ev (x:=.tmp t') hs) hB rfl hBl
     have hb:=hx.blks it B hB
     unfold BlkRel at hb
     rw[hBk]at hb
     obtain⟨gi,r,i1,i0,i2,i3⟩:=hb
     have hm:=E1 i3 hM hMv hMl
     obtain⟨g,es,e1,e0,e2,e3,e4⟩:=hx.mapAt hM hMk
     rw[e1]at hm
     simp only [Value.map.injEq,Option.some.injEq]at hm
     subst hm
     rw[i1]at he
     have hborn:∀(i:Nat) (x:MapEntry),es[i]?=some x→x.born=i∧i < rows.length:=fun i x hx=>by
      have hi':i < rows.length:=by rw[← e3];exact(Array.getElem?_eq_some_iff.1 hx).1
      obtain⟨_,_,e',_,p2,p3,_⟩:=e4 i rows[i] (List.getElem?_eq_getElem hi')
      rw[hx]at p2
      cases p2
      exact⟨p3,hi'⟩
     have hdq:∀ q,o.dst=some q→q < E.nt:=fun q hq=>by
      rw[hd]at hq
      cases hq
      rw[cx.hnt]
      simpa using hdn
     have hnx:=run_next_at (P:=P) w o.type gi r n n seen.toArray es rows.length i2 e2 (fun x hx=>by
      obtain⟨i,hi,rfl⟩:=List.mem_iff_getElem.1 hx
      have hi':i < es.size:=by simpa using hi
      have:=hborn i es[i] (Array.getElem?_eq_getElem hi')
      have e0:es.toList[i]=es[i]:=rfl
      rw[e0]
      omega) (Nat.le_refl _)
     rcases hnx with⟨q0,hrun⟩ | ⟨e,he',w1,hal,hrun⟩
     ·have hall:∀ j,j < rows.length→j∈seen:=fun j hj=>by
       obtain⟨_,_,e,_,p2,p3,_⟩:=e4 j rows[j] (List.getElem?_eq_getElem hj)
       have:=all_seen es seen.toArray q0 e (by simpa using Array.mem_of_getElem? p2)
       rw[p3]at this
       simpa using this
      have hop:(execOp a.eval o).run P w=.ok (.value (.tuple #[.bool false])) w:=by simp [execOp,ho,he,hrun]
      refine .inl <| (Ok.value (σ':=Ah3 σ d' it B (.own m mv) n seen none) hop ⟨pl,?_⟩) _ _ fun a' w' h'=>tail _ _ h0 (k0 hall) a' w' h'
      have:=hx.put (some d') (fun q hq=>hdq q (by rw[hd];exact hq)) (av:=.tup [.b false]) (v:=.tuple #[.bool false]) (.pure _ _ (.tup [_] [_] rfl fun j c u hc hu=>by
       match j with
       | 0=>simp at hc hu;subst hc hu;exact .b _
       | j+1=>simp at hc))
      rw[hd]
      exact this
     ·obtain⟨hem,hes⟩:=mem_left he'
      obtain⟨j,hj,hje⟩:=List.mem_iff_getElem.1 hem
      have hje':es[j]?=some e:=by rw[← hje];simpa using Array.getElem?_eq_getElem (by simpa using hj)
      obtain⟨b1,b2⟩:=hborn j e hje'
      have hns:j ∉ seen:=by rw[b1]at hes;simpa using hes
      have hop:(execOp a.eval o).run P w=.ok (.value (.tuple #[.bool true,e.key,e.val])) (Al5 w1 gi (.mapIter (some r) n (seen.toArray.push e.born) n)):=by
       simp [execOp,ho,he,hrun,hn]
       rfl
      have hx1:RelX E σ pl a w1∧w1.heap=w.heap:=by
       rcases hal with rfl | rfl
       ·exact⟨hx,rfl⟩
       ·exact⟨(hx.grow (w':=w.drew) ⟨rfl,rfl,rfl,Nat.le_refl _,fun _ _=>rfl⟩).1,rfl⟩
      obtain⟨hx1,hh1⟩:=hx1
      have i2':w1.heap[gi]?=some (.mapIter (some r) n seen.toArray n):=by rw[hh1];exact i2
      have hblk:blkOf (pl it)=some gi:=by rw[i1];rfl
      have hb1:=hx1.blks it B hB
      unfold BlkRel at hb1
      rw[hBk]at hb1
      obtain⟨gi',r',j1,_,j2,j3⟩:=hb1
      have egi:gi'=gi:=by rw[i1]at j1;simpa using j1.symm
      subst egi
      rw[i2']at j2
      simp only [Option.some.injEq,Obj.mapIter.injEq]at j2
      obtain⟨rfl,_⟩:=j2
      have hS:∀ k,SS E (look σ.hp) pl w1 k→(Al5 w1 gi' (.mapIter (some r) n (seen.toArray.push e.born) n)).heap[k]?=w1.heap[k]?:=fun k hk=>by
       rw[W3]
       intro e
       subst e
       rcases hk with hk | ⟨_,_,h3⟩
       ·have:=E.hS0 _ hk
        omega
       ·exact h3 it B hB hBl hblk
      have hz:=(hx1.chg (w':=Al5 w1 gi' (.mapIter (some r) n (seen.toArray.push e.born) n)) it { B with k:=.iter (.own m mv) n (seen++[j]) } (pl it)
       (.inr ⟨B,hB,hBl,rfl,by funext r c;simp [Blk.off,hBk],rfl,by simp [Blk.len,hBk]⟩)
       (fun k hk' hne=>by rw[W3];intro e;subst e;exact hne B hB hBl hblk) rfl rfl rfl (by simp [Al5]) (fun k hk'=>.inr ⟨B,hB,hBl,hk'⟩)
       ⟨gi',r,i1,i0,by rw[A7g i2',b1];simp,j3.mono (A70.refl _ _) (fun _ hk=>by
        rcases hk with hk | ⟨q1,q2,q3⟩
        ·exact .inl hk
        ·exact .inr ⟨q1,q2,q3⟩) hS⟩).1
      have epl:D7 pl it (pl it)=pl:=by funext i;unfold D7;split <;> simp_all
      rw[epl]at hz
      refine .inl <| (Ok.value (σ':=Ah3 σ d' it B (.own m mv) n seen (some j)) hop ⟨pl,?_⟩) _ _ fun a' w' h'=>tail _ _ (h1 j) (k1 j b2 hns) a' w' h'
      have:=hz.put (some d') (fun q hq=>hdq q (by rw[hd];exact hq)) (av:=.tup [.b true,.dead,.dead]) (v:=.tuple #[.bool true,e.key,e.val]) (.pure _ _ (.tup [_,_,_] [_,_,_] rfl fun j c u hc hu=>by
       match j with
       | 0=>simp at hc hu;subst hc hu;exact .b _
       | 1=>simp at hc hu;subst hc hu;exact .dead _
       | 2=>simp at hc hu;subst hc hu;exact .dead _
       | j+3=>simp at hc))
      rw[hd]
      exact this
    ·cases h
 | _=>simp [Ah2]at h
end
end Go.E
