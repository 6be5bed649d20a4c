/- EV: slices.Clone at any element type: it hands back a row of the caller's own. Conditions: how its body is laid; sizes. Pd: span: Norm, Lead, and the library's Clone at runs. Conditions: sizes. Pn: span: the canonical form in plain words. Conditions: none. Pe: past: what the sets come to. Conditions: sizes. Pf: past: dots, and the set of dots. Conditions: sizes. Pg: past: the sets that pasts mean. Conditions: sizes. Ph: past: Norm. Conditions: sizes. Pi: past: the library's Equal, IsNorm. Conditions: sizes. Pj: past: Has. Conditions: none. Rh: the past in plain words: what is in a set in form. Conditions: none. Pp: span: what is in both, what is in neither, in plain words. Conditions: none. Pq: the total order of contexts, in plain words. Conditions: none. Pr: past.Compare, with the library's cmp.Compare, cmp.Or and slices.CompareFunc. Conditions: sizes. Sa: texts: their order is total. Conditions: none. Ps: strings.Compare. Conditions: none. Pl: runs: how many numbers, the greatest. Conditions: none. Pu: how many dots; the greatest of a replica: in plain words. Conditions: none. Ga: goods: is a text a SKU. Conditions: none. Kp: records: their order and form, in plain words. Conditions: none. Pk: span.Size, span.Last, past.Size, Empty, Last, Next. Conditions: sizes. Ka: keep.CheckRecord, Compare, Check. Conditions: sizes. La: lines: entries in form. Conditions: none. Lc: walks, written by a program of this claim's own, and what each function hands back. Conditions: none. Lq: entries in form: how many there are. Conditions: none. Kf: keep.Covers, Bars, Fold, Apply. Conditions: sizes. Pm: span.Meet, others, Minus; past.Minus, Join. Conditions: sizes. -/
import Derived.Below
import Derived.OwnWalk
import Derived.WalkKit
import Derived.KernelRfl
import Derived.Laws.MakeOwn
import Derived.Laws.OwnMore
import Derived.Laws.Slices
import Derived.Laws.CopyOwn
import Derived.Laws.AppendOwnNone
import Derived.Laws.Rows
import Derived.Orders
import Derived.Lib.Walk
import Derived.Shelf.SlLaysE0
import Derived.Shelf.RegionOpenPlain
import Derived.Deep.LoopGhost
import Derived.Lib.SliceRun
import Derived.Test.YtokhjapfekbobaaGreatProg
import Derived.DataReads
import Derived.ChangeOld
import Derived.DataElems
import Derived.SizedLaws
import Derived.ChangeKeysEq
import Derived.Sort.LotA
import Derived.Shelf.SlSortFuncK.RowK2
import Derived.Shelf.SlSortCmp.NoneTotal
import Derived.Lib.Bytealg
import Derived.Test.YtokhjapfekbobaaGreatZi2
set_option linter.unusedVariables false
set_option linter.unusedSimpArgs false
namespace Go.E
open Go Go.Proofs Go.Shelf Go.RowKit Go.Lib
variable {P : Program} {ρ : Ren}
set_option maxHeartbeats 2000000 in
set_option maxRecDepth 100000 in
theorem B0o (L:SlLaysE0.n41 P ρ) (i0:TypeInfo) (z:Value) (size bytes:Nat) (hi:P.info? (ρ.t 23)=some i0) (hz0:i0.zero=some z) (hz1:i0.size=size) (hz2:i0.bytes=bytes) (hzs:z.cells.size=size) (hsz:0 < size) (z23:∀ w,(Go.sizeOf (ρ.t 23)).run P w=.ok size w)
  (ad:Addr) (n c:Nat) (news:List Value) (w:World) (hl:news.length=n*size) (hn:n≤maxLen) (hbig:n*bytes≤140737488355328)
  (hc:∀ j u,news[j]?=some u→w.cell? (ad.add j)=some u) (h1:∀ u∈news,u.oneCell'=true) :
  Calls P (ρ.f 41) #[.slice (some ad) n c] w fun e w'=>∃ v',e=.returned v'∧w'.ownsRow w.heap.size (ρ.t 23) size v' n news∧Below w.heap.size w w':=by
 have mixed:=L.mixed;have t4:=L.t4;have a4:=L.a4;have z4:=L.z4;have v4:=L.v4;have t22:=L.t22;have a22:=L.a22;have z22:=L.z22;have v22:=L.v22
 have q22:∀(w:World) (a:Option Addr) (n c n' c':Nat),(binOp .eql (ρ.t 22) (.slice a n c) (.slice none n' c')).run P w=.ok (.bool a.isNone) w:=fun w a n c n' c'=>Lib.run_eql_slice_nil w _ _ a n c n' c' L.t22
 have u22:∀ w,Sem.run P (underlying (ρ.t 22)) w=.ok (TypeDesc.slice (ρ.t 23)) w:=run_underlying t22
 have A:Aside (∀ j u,news[j]?=some u→w.cell? (ad.add j)=some u):=hc
 clear hc
 obtain⟨_,_,FG⟩:=L.f41
 go_enter FG,SlBodyN.n41_ntmps ρ
 go_wp2_with (at_builtin;refine wpList_append_own _ rfl _ _ (ρ.t 22) rfl w.heap.size (ρ.t 23) i0 z size bytes t22 hi hz0 hz1 hz2 hzs hsz _ _ _ rfl (World.ownsRow_made w #[] 0 (Nat.le_refl _) (Nat.zero_le _) (by simp)) ad n c news rfl ?qc1 ?qc2 ?qc3 ?qc4 ?qc5 ?qc6 ?_)
 case qc1=>exact hl
 case qc2 =>
  intro j u hj
  exact Lib.cell?_alloc_some _ (A.out j u hj)
 case qc3=>exact h1
 case qc4=>rw[Nat.zero_add];exact hn
 case qc5=>rw[Nat.zero_add];exact hbig
 case qc6=>simp
 intro v' w1 hown hgrow hnil
 go_wp2
 go_ret
 refine⟨v',rfl,by simpa using hown,?_⟩
 exact((Below.refl _ w).alloc (Nat.le_refl _) _).grown hgrow (by simp) (by intro k hk;simp [Value.ownBlock]at hk;omega)
set_option maxHeartbeats 1000000 in
theorem B0p (L:SlLaysE0.n41 P ρ) (n c:Nat) (w:World) :
  Calls P (ρ.f 41) #[.slice none n c] w fun e w'=>e=.returned (.slice none 0 0)∧w'=w:=by
 have mixed:=L.mixed;have t4:=L.t4;have a4:=L.a4;have z4:=L.z4;have v4:=L.v4;have t22:=L.t22;have a22:=L.a22;have z22:=L.z22;have v22:=L.v22
 have q22:∀(w:World) (a:Option Addr) (n c n' c':Nat),(binOp .eql (ρ.t 22) (.slice a n c) (.slice none n' c')).run P w=.ok (.bool a.isNone) w:=fun w a n c n' c'=>Lib.run_eql_slice_nil w _ _ a n c n' c' L.t22
 obtain⟨_,_,FG⟩:=L.f41
 go_enter FG,SlBodyN.n41_ntmps ρ
 go_wp2
 go_ret
 exact⟨rfl,rfl⟩
theorem A3e(L:SlLaysE0.n41 P ρ){T:Tab}(hT:TabOk P T){te:TI}(hte:look T (ρ.t 23)=some te)(hcl:E6 P (ρ.f 41))(hz:te.zero.length=te.size)(h0:0 < te.size){rows:List (List AV)}(hsz:∀ r∈rows,r.length=te.size)
  (hbig:rows.length*te.bytes≤140737488355328):A48 P (ρ.f 41) [.sl rows] (ρ.t 23) (.row te.size rows):=by
 refine⟨hcl,fun w S0 vs hS hl hv=>?_⟩
 obtain⟨v,rfl⟩:∃ v,vs=[v]:=by
  match vs,hl with
  | [v],_=>exact⟨v,rfl⟩
 have hr:=hv 0 _ v rfl rfl
 have hm:rows.length≤maxLen:=by cases hr with | sl _ A cap sz u hc hm=>exact hm
 obtain⟨i,zv,i1,i2,i3,i4,i5⟩:=inf hT hte
 rcases(As4 hr).flat hsz with⟨rfl,rfl⟩ | ⟨ad,cap,xs,rfl,x1,x2,x3,x4⟩
 ·refine(B0p L 0 0 w).mono ?_
  rintro e w' ⟨rfl,rfl⟩
  exact⟨_,rfl,⟨fun r hr=>by simp at hr,[],World.ownsRow_nil _ _ _ _,fun u hu=>by simp at hu,fun j b u hb=>by simp at hb⟩,Below.refl _ _⟩
 ·have hzl:zv.cells.size=te.size:=by
   have:=congrArg List.length i5
   simpa [hz]using this
  refine(B0o L i zv te.size te.bytes i1 i4 i2 i3 hzl h0 (Ac9 hT hte) ad rows.length cap xs w x1 hm hbig x2 x3).mono ?_
  rintro e w' ⟨v',rfl,ho,hb⟩
  refine⟨v',rfl,⟨hsz,xs,ho,x3,fun j b u hb' hu=>(x4 j b u hb' hu).mono (fun k hk=>⟨.inl hk,fun e=>?_⟩) (fun k hk=>hb.block k (hS k hk))⟩,hb⟩
  have:=hS k hk
  rcases ho.2 with⟨rfl,_⟩ | ⟨g,cap',cur,rfl,g1,_⟩
  ·simp [blkOf]at e
  ·simp [blkOf]at e;omega
end Go.E
namespace Go.Proofs.YtokhjapfekbobaaGreat
open Go.E
set_option maxRecDepth 100000
set_option maxHeartbeats 4000000
open Go Go.Shelf Go.Proofs
def renClR:Go.Shelf.Ren:=⟨fun | 41=>195 | n=>n,fun | 4=>4 | 22=>139 | 23=>181 | n=>n,fun n=>n⟩
theorem Bi4:Go.Proofs.SlLaysE0.n41 Tryz.prog renClR:={ mixed:=by kernel_rfl,f41:=⟨Tryz.f195.name,by decide,Tryz.func195.trans (congrArg some (by kernel_rfl))⟩,t4:=Tryz.underlying4,a4:=Tryz.isAgg4,z4:=Tryz.sizeOf4,v4:=Tryz.zeroValue4,t22:=Tryz.underlying139,a22:=Tryz.isAgg139,z22:=Tryz.sizeOf139,v22:=Tryz.zeroValue139 }
theorem con195(es:List Run)(hl:es.length*16≤140737488355328):A48 Tryz.prog 195 [.sl (es.map c181)] 181 (.row 2 (es.map c181)) :=
 A3e (T:=tab) Bi4 A9 (te:=_) rfl ⟨_,Tryz.func195,by kernel_rfl,by kernel_rfl⟩ (by kernel_rfl) (by decide +kernel) (fun r hr=>by obtain⟨x,_,rfl⟩:=List.mem_map.1 hr;kernel_rfl) (by rw[List.length_map];exact hl)
def renClI:Go.Shelf.Ren:=⟨fun | 41=>155 | n=>n,fun | 4=>4 | 22=>23 | 23=>3 | n=>n,fun n=>n⟩
theorem Bi5:Go.Proofs.SlLaysE0.n41 Tryz.prog renClI:={ mixed:=by kernel_rfl,f41:=⟨Tryz.f155.name,by decide,Tryz.func155.trans (congrArg some (by kernel_rfl))⟩,t4:=Tryz.underlying4,a4:=Tryz.isAgg4,z4:=Tryz.sizeOf4,v4:=Tryz.zeroValue4,t22:=Tryz.underlying23,a22:=Tryz.isAgg23,z22:=Tryz.sizeOf23,v22:=Tryz.zeroValue23 }
theorem con155(es:List Int)(hl:es.length*8≤140737488355328):A48 Tryz.prog 155 [.sl (es.map c3)] 3 (.row 1 (es.map c3)) :=
 A3e (T:=tab) Bi5 A9 (te:=_) rfl ⟨_,Tryz.func155,by kernel_rfl,by kernel_rfl⟩ (by kernel_rfl) (by decide +kernel) (fun r hr=>by obtain⟨x,_,rfl⟩:=List.mem_map.1 hr;kernel_rfl) (by rw[List.length_map];exact hl)
def nrm(a:List Run):List Run:=unR [a]
def C1(n:List Run):Int×List Run:=if n.length=0∨¬ n[0]!.lo=1 then(0,n)else(n[0]!.hi,n.drop 1)
theorem B34(l:List Run):(B0m l).length≤l.length:=by
 have:∀(l out:List Run),(l.foldl A44 out).length≤out.length+l.length:=by
  intro l
  induction l with
  | nil=>intro out;simp
  | cons r l ih =>
   intro out
   have h1:=ih (A44 out r)
   have h2:=Au4 out r
   simp only [List.foldl_cons,List.length_cons]
   omega
 have h:=this l []
 simpa [B0m]using h
theorem X7(a:List Run):(nrm a).length≤a.length:=by
 have h1:=B34 (A11 (L5 [a].flatten))
 have h2:=(V6 (l:=L5 [a].flatten) fun r hr=>(I8 r hr).1).length_eq
 have h3:=A08 [a].flatten
 unfold nrm unR
 simp only [List.flatten_cons,List.flatten_nil,List.append_nil]at *
 omega
theorem Af7(a:List Run)(hb:a.length*16≤140737488351232):Con Tryz.prog 144 [.sl (a.map c181)] (.sl ((nrm a).map c181)) :=
 by
 refine lN 0 c181 (a) Tryz.func144 fun hl_0=>sC A9 [.tmp 2] 6 Tryz.func144 ?_
 intro e0 cx
 refine sq<|rG cx [0] [] z0<|sn<|sq<|rG cx [2] [5] (fT (con191 ([a]) ?g0) (oV 2 { val:=some (.own (181:Nat) (2:Nat)),rows:=some (List.map c181 (unR [a])) } z0)) ?_;rotate_left
 refine sn<|rT<|qR (.sl (((E.look [(2,{ val:=some (AV.own (181:Nat) (2:Nat)),rows:=some (List.map c181 (unR [a])):Ov })] (2)).getD {:Ov }).rows.getD [])) (.eq ?g1);rotate_left
 case g0=>exact(by simpa using hb)
 case g1=>exact rfl
theorem con154(a:List Run)(hb:a.length*16≤140737488351232):Con Tryz.prog 154 [.sl (a.map c181)] (.tup [.i .i64 (C1 (nrm a)).1,.sl ((C1 (nrm a)).2.map c181)]) :=
 by
 have hn:=X7 a
 refine lN 0 c181 (a) Tryz.func154 fun hl_0=>sC A9 [.tmp 2,.tmp 3] 25 Tryz.func154 ?_
 intro e0 cx
 refine sq<|rG cx [0] [] z0<|sn<|sq ?_
 have hl_0:=(X7 a)
 refine rG cx [4] [] (fT (Af7 (a) (by(with_reducible assumption))) (oA 1 (.sl (List.map c181 (nrm a))) z0))<|sn<|sq<|sq<|B3 (σ':=⟨[(4,.sl (List.map c181 (nrm a))),(16,.b (decide ((↑(nrm a).length:Int)=0∨¬(nrm a)[(0:Nat)]!.lo=1)))],[]⟩) ?_ ?_
 refine A4 ((↑(nrm a).length:Int)=0) (fun h2=>?_) (fun h2=>?_)
 refine rG cx [4,16] [] (tL 1 c181 (nrm a) (tT 2 (A3 h2) (tD 9 true ((↑(nrm a).length:Int)=0∨¬(nrm a)[(0:Nat)]!.lo=1) (by simp only [eq_true h2,tsl]) z0))) ?_
 exact⟨rfl,by kernel_rfl⟩
 refine rG cx [4,16] [] (tL 1 c181 (nrm a) (tT 2 (A0 h2) (fO ((0:Int)≤(0:Int)) (fP ((List.map c181 (nrm a))[Int.toNat (0:Int)]?=some (c181 (nrm a)[(0:Nat)]!)) (by exact F7 (by omega)) (fR 2 (tN 8 ((nrm a)[(0:Nat)]!.lo) (1:Int) (tD 9 (decide ¬(nrm a)[(0:Nat)]!.lo=1) ((↑(nrm a).length:Int)=0∨¬(nrm a)[(0:Nat)]!.lo=1) (by simp only [eq_false h2,tsl]) (oR 5 (c181 (nrm a)[(0:Nat)]!) z0)))))))) ?_
 exact⟨rfl,by kernel_rfl⟩
 refine sn<|dC ((↑(nrm a).length:Int)=0∨¬(nrm a)[(0:Nat)]!.lo=1) (fun h3=>?_) fun h3=>?_
 refine sq<|rG cx [2,3] [] z0<|sn<|rT<|nR<|qR (.tup [.i .i64 ((0:Int)),.sl (List.map c181 (nrm a))]) (B9.tup (ZLe.cons (B9.eq (show AV.i .i64 0=AV.i .i64 (C1 (nrm a)).1 from(by unfold C1;rw[if_pos (h3.imp (fun k=>by omega) id)]))) (ZLe.cons (B9.eq (show AV.sl (List.map c181 (nrm a))=AV.sl (List.map c181 (C1 (nrm a)).2)from(by unfold C1;rw[if_pos (h3.imp (fun k=>by omega) id)]))) ZLe.nil)))
 refine sK<|sn<|sq<|rA cx [2,3] [24] (fO ((0:Int)≤(0:Int)) (fP ((List.map c181 (nrm a))[Int.toNat (0:Int)]?=some (c181 (nrm a)[(0:Nat)]!)) (by exact F7 (by omega)) (fR 2 (tT 5 (At7 c181 (nrm a) (Int.toNat (1:Int)):AV.sl (List.drop (Int.toNat (1:Int)) (List.take (none.getD (↑(List.map c181 (nrm a)).length:Int)).toNat (List.map c181 (nrm a))))=AV.sl (List.map c181 (List.drop (Int.toNat (1:Int)) (nrm a)))) (fO ((0:Int)≤(1:Int)) (fP (1≤none.getD (↑(List.map c181 (nrm a)).length:Int)) (by have:¬((nrm a).length:Int)=0:=fun k=>h3 (.inl k);simp only [Option.getD_none,List.length_map];omega) (fP (none.getD (↑(List.map c181 (nrm a)).length:Int)≤(↑(List.map c181 (nrm a)).length:Int)) (by exact Int.le_refl _) (fX c181 (nrm a) 2 (fT (con195 (List.drop (Int.toNat (1:Int)) (nrm a)) (by rw[List.length_drop];omega)) (oR 1 (c181 (nrm a)[(0:Nat)]!) (oV 6 { val:=some (.own (181:Nat) (2:Nat)),rows:=some (List.map c181 (List.drop (Int.toNat (1:Int)) (nrm a))) } z0))))))))))) ?_
 refine sn<|rT<|qR (.tup [.i .i64 ((nrm a)[(0:Nat)]!.hi),.sl (((E.look [(6,{ val:=some (AV.own (181:Nat) (2:Nat)),rows:=some (List.map c181 (List.drop (Int.toNat (1:Int)) (nrm a))):Ov })] (6)).getD {:Ov }).rows.getD [])]) (B9.tup (ZLe.cons (B9.eq (show AV.i .i64 (nrm a)[(0:Nat)]!.hi=AV.i .i64 (C1 (nrm a)).1 from(by unfold C1;rw[if_neg (fun k=>h3 (k.imp (fun k=>by omega) id))]))) (ZLe.cons (B9.eq (show AV.sl (((E.look [(6,{ val:=some (AV.own (181:Nat) (2:Nat)),rows:=some (List.map c181 (List.drop (Int.toNat (1:Int)) (nrm a))):Ov })] (6)).getD {:Ov }).rows.getD [])=AV.sl (List.map c181 (C1 (nrm a)).2)from(by show AV.sl (List.map c181 (List.drop 1 (nrm a)))=_;unfold C1;rw[if_neg (fun k=>h3 (k.imp (fun k=>by omega) id))]))) ZLe.nil)))
end Go.Proofs.YtokhjapfekbobaaGreat
namespace Go.Proofs.YtokhjapfekbobaaGreat
open Go.E
set_option maxRecDepth 100000
set_option maxHeartbeats 4000000
def N7(l:List Run):Prop:=l.Pairwise (fun x y=>x.hi+1 < y.lo)∧∀ r∈l,1≤r.lo∧r.lo≤r.hi∧r.hi≤1000000000
def inR(l:List Run)(n:Int):Prop:=∃ r∈l,r.lo≤n∧n≤r.hi
theorem B36{α:Type}[Inhabited α]{l:List α}(h:0 <(l.length:Int)):∃ p,l=p++[l[((l.length:Int)-1).toNat]!]:=by
 refine⟨l.take (l.length-1),?_⟩
 have e:((l.length:Int)-1).toNat=l.length-1:=by omega
 rw[e]
 have h1:=List.take_succ_eq_append_getElem (l:=l) (i:=l.length-1) (by omega)
 rw[getElem!_pos l (l.length-1) (by omega),← h1,List.take_of_length_le (by omega)]
theorem Af8(p:List Run)(x r:Run):A44 (p++[x]) r=if r.lo≤x.hi+1 then p++[⟨x.lo,max x.hi r.hi⟩]else p++[x]++[r]:=by
 have e:(((p++[x]).length:Int)-1).toNat=p.length:=by rw[List.length_append,List.length_singleton];omega
 have hx:A96 (p++[x])=x:=by unfold A96;rw[e];simp
 unfold A44
 rw[hx,e]
 by_cases h:r.lo≤x.hi+1
 ·rw[if_pos ⟨by rw[List.length_append,List.length_singleton];omega,h⟩,if_pos h]
  simp
 ·rw[if_neg (fun k=>h k.2),if_neg h]
theorem Au5(r:Run):A44 [] r=[r]:=by simp [A44]
theorem S9:N7 []:=⟨List.Pairwise.nil,fun r hr=>by cases hr⟩
theorem B7p {out : List Run} {r : Run} (h : N7 out) (hr : A27 r) : N7 (A44 out r) := by
  unfold A27 okR at hr
  by_cases h0:out=[]
  · subst h0
    rw[Au5]
    exact ⟨by simp, fun x hx => by have : x = r := by simpa using hx
                                   subst this;omega⟩
  · obtain ⟨p, hp⟩ := B36 (l := out) (by have := List.length_pos_iff.2 h0; omega)
    generalize out[((out.length:Int)-1).toNat]! = x at hp
    subst hp
    obtain⟨h1,h2⟩:=h
    rw[List.pairwise_append]at h1
    obtain⟨q1,_,q3⟩:=h1
    have hx:=h2 x (by simp)
    rw[Af8]
    split
    · refine ⟨List.pairwise_append.2 ⟨q1, by simp, fun a ha b hb => ?_⟩, fun a ha => ?_⟩
      · have : b = ⟨x.lo, max x.hi r.hi⟩ := by simpa using hb
        subst this
        exact q3 a ha x (by simp)
      · rcases List.mem_append.1 ha with ha | ha
        · exact h2 a (by simp [ha])
        · have : a = ⟨x.lo, max x.hi r.hi⟩ := by simpa using ha
          subst this
          simp only
          omega
    · rename_i hn
      refine⟨List.pairwise_append.2 ⟨List.pairwise_append.2 ⟨q1,by simp,q3⟩,by simp,fun a ha b hb=>?_⟩,fun a ha=>?_⟩
      · have : b = r := by simpa using hb
        subst this
        rcases List.mem_append.1 ha with ha | ha
        · have:=q3 a ha x (by simp);omega
        · have : a = x := by simpa using ha
          subst this
          omega
      · rcases List.mem_append.1 ha with ha | ha
        · exact h2 a ha
        · have : a = r := by simpa using ha
          subst this
          omega
theorem Bi6{out:List Run}{r:Run}(hl:∀ x∈out,x.lo≤r.lo)(hs:N7 out)(n:Int):inR (A44 out r) n↔inR out n∨(r.lo≤n∧n≤r.hi):=by
 by_cases h0:out=[]
 ·subst h0
  rw[Au5]
  simp [inR]
 ·obtain⟨p,hp⟩:=B36 (l:=out) (by have:=List.length_pos_iff.2 h0;omega)
  generalize out[((out.length:Int)-1).toNat]! = x at hp
  subst hp
  have hx:=hs.2 x (by simp)
  have hlx:=hl x (by simp)
  rw[Af8]
  have app:∀(a b:List Run),inR (a++b) n↔inR a n∨inR b n:=by
   intro a b
   unfold inR
   constructor
   ·rintro⟨y,hy,h⟩
    rcases List.mem_append.1 hy with hy | hy
    ·exact .inl ⟨y,hy,h⟩
    ·exact .inr ⟨y,hy,h⟩
   ·rintro(⟨y,hy,h⟩ | ⟨y,hy,h⟩)
    ·exact⟨y,List.mem_append.2 (.inl hy),h⟩
    ·exact⟨y,List.mem_append.2 (.inr hy),h⟩
  have one:∀ y:Run,inR [y] n↔(y.lo≤n∧n≤y.hi):=by intro y;simp [inR]
  split
  ·rw[app,app,one,one,or_assoc]
   refine or_congr_right ?_
   simp only
   omega
  ·rw[app,one]
theorem A7q(l:List Run):∀(out:List Run),N7 out→(∀ r∈l,A27 r)→l.Pairwise (fun x y=>x.lo≤y.lo)→(∀ x∈out,∀ r∈l,x.lo≤r.lo) →
  N7 (l.foldl A44 out)∧∀ n,inR (l.foldl A44 out) n↔inR out n∨inR l n:=by
 induction l with
 | nil=>intro out h _ _ _;exact⟨h,fun n=>by simp [inR]⟩
 | cons r l ih =>
  intro out h hg hp hl
  rw[List.pairwise_cons]at hp
  have hlo:∀ x∈A44 out r,∀ y∈l,x.lo≤y.lo:=by
   intro x hx y hy
   have hy1:=hp.1 y hy
   unfold A44 at hx
   split at hx
   ·rename_i hc
    rcases List.mem_or_eq_of_mem_set hx with hx | rfl
    ·have:=hl x hx r (by simp);omega
    ·have:=hl _ (E2 (l:=out) (i:=((out.length:Int)-1).toNat) (by omega)) r (by simp)
     unfold A96
     simp only
     omega
   ·rcases List.mem_append.1 hx with hx | hx
    ·have:=hl x hx r (by simp);omega
    ·have:x=r:=by simpa using hx
     subst this
     exact hy1
  obtain⟨g1,g2⟩:=ih (A44 out r) (B7p h (hg r (by simp))) (fun y hy=>hg y (by simp [hy])) hp.2 hlo
  refine⟨g1,fun n=>?_⟩
  rw[List.foldl_cons,g2 n,Bi6 (fun x hx=>hl x hx r (by simp)) h n,or_assoc]
  refine or_congr_right ?_
  simp [inR]
theorem Bi7(ss:List (List Run)):N7 (unR ss):=by
 have hg:∀ r∈L5 ss.flatten,A27 r:=I8
 exact(A7q _ [] S9 (A1i hg) (A7m _) (fun x hx=>by cases hx)).1
theorem unR_in(ss:List (List Run))(n:Int):inR (unR ss) n↔1≤n∧n≤1000000000∧inR ss.flatten n:=by
 have hg:∀ r∈L5 ss.flatten,A27 r:=I8
 have h:=(A7q _ [] S9 (A1i hg) (A7m _) (fun x hx=>by cases hx)).2 n
 unfold unR B0m
 rw[h]
 have hp:=V6 (l:=L5 ss.flatten) fun r hr=>(hg r hr).1
 constructor
 ·rintro(⟨r,hr,_⟩ | ⟨r,hr,h1,h2⟩)
  ·cases hr
  ·have hr:=hp.subset hr
   unfold L5 at hr
   obtain⟨hr,_⟩:=List.mem_filter.1 hr
   obtain⟨x,hx,rfl⟩:=List.mem_map.1 hr
   simp only [F3]at h1 h2
   exact⟨by omega,by omega,x,hx,by omega,by omega⟩
 ·rintro⟨h1,h2,x,hx,h3,h4⟩
  refine .inr ⟨F3 x,hp.symm.subset ?_,?_,?_⟩
  ·unfold L5
   refine List.mem_filter.2 ⟨List.mem_map.2 ⟨x,hx,rfl⟩,?_⟩
   show decide ((F3 x).lo≤(F3 x).hi)=true
   rw[decide_eq_true_iff]
   show max x.lo 1≤min x.hi 1000000000
   omega
  ·simp only [F3];omega
  ·simp only [F3];omega
theorem Ao2{l:List Run}(h:N7 l):∀ i:Nat,i < l.length→2*(i:Int)+1≤l[i]!.lo
 | 0,hi=>by have:=h.2 _ (E2 hi);omega
 | i+1,hi=>by
  have h1:=Ao2 h i (by omega)
  have h2:=List.pairwise_iff_getElem.1 h.1 i (i+1) (by omega) hi (by omega)
  rw[← getElem!_pos l i (by omega),← getElem!_pos l (i+1) hi]at h2
  have h3:=h.2 _ (E2 (l:=l) (i:=i) (by omega))
  omega
theorem N2{l:List Run}(h:N7 l):l.length≤500000000:=by
 by_cases h0:l.length=0
 ·omega
 ·have h1:=Ao2 h (l.length-1) (by omega)
  have h2:=h.2 _ (E2 (l:=l) (i:=l.length-1) (by omega))
  omega
theorem F1(a:List Run):N7 (nrm a):=Bi7 [a]
theorem Z6(a:List Run)(n:Int):inR (nrm a) n↔1≤n∧n≤1000000000∧inR a n:=by
 have:=unR_in [a] n
 simpa [nrm]using this
theorem V7:∀ {a b:List Run},N7 a→N7 b→(∀ n,inR a n↔inR b n)→a=b
 | [],[],_,_,_=>rfl
 | [],y :: b,_,hb,h=>by
  have:=hb.2 y (by simp)
  obtain⟨r,hr,_⟩:=(h y.lo).2 ⟨y,by simp,by omega,by omega⟩
  cases hr
 | x :: a,[],ha,_,h=>by
  have:=ha.2 x (by simp)
  obtain⟨r,hr,_⟩:=(h x.lo).1 ⟨x,by simp,by omega,by omega⟩
  cases hr
 | x :: a,y :: b,ha,hb,h=>by
  have hx:=ha.2 x (by simp)
  have hy:=hb.2 y (by simp)
  have pa:=List.pairwise_cons.1 ha.1
  have pb:=List.pairwise_cons.1 hb.1
  have la:∀ n,inR a n→x.hi+1 < n:=fun n ⟨r,hr,h1,_⟩=>by have:=pa.1 r hr;omega
  have lb:∀ n,inR b n→y.hi+1 < n:=fun n ⟨r,hr,h1,_⟩=>by have:=pb.1 r hr;omega
  have ca:∀ n,inR (x :: a) n↔(x.lo≤n∧n≤x.hi)∨inR a n:=fun n=>by simp [inR]
  have cb:∀ n,inR (y :: b) n↔(y.lo≤n∧n≤y.hi)∨inR b n:=fun n=>by simp [inR]
  have e1:x.lo=y.lo:=by
   have h1:=(cb x.lo).1 ((h x.lo).1 ((ca x.lo).2 (.inl (by omega))))
   have h2:=(ca y.lo).1 ((h y.lo).2 ((cb y.lo).2 (.inl (by omega))))
   rcases h1 with h1 | h1
   ·rcases h2 with h2 | h2
    ·omega
    ·have:=la _ h2;omega
   ·have:=lb _ h1
    rcases h2 with h2 | h2
    ·omega
    ·have:=la _ h2;omega
  have e2:x.hi=y.hi:=by
   have h1:=(cb x.hi).1 ((h x.hi).1 ((ca x.hi).2 (.inl (by omega))))
   have h2:=(ca y.hi).1 ((h y.hi).2 ((cb y.hi).2 (.inl (by omega))))
   have h3:¬ x.hi < y.hi:=fun k=>by
    have:=(ca (x.hi+1)).1 ((h (x.hi+1)).2 ((cb (x.hi+1)).2 (.inl (by omega))))
    rcases this with g | g
    ·omega
    ·have:=la _ g;omega
   have h4:¬ y.hi < x.hi:=fun k=>by
    have:=(cb (y.hi+1)).1 ((h (y.hi+1)).1 ((ca (y.hi+1)).2 (.inl (by omega))))
    rcases this with g | g
    ·omega
    ·have:=lb _ g;omega
   omega
  have e:x=y:=by cases x;cases y;simp only at e1 e2;rw[e1,e2]
  subst e
  rw[V7 (a:=a) (b:=b) ⟨pa.2,fun r hr=>ha.2 r (by simp [hr])⟩ ⟨pb.2,fun r hr=>hb.2 r (by simp [hr])⟩ fun n=>?_]
  have:=h n
  rw[ca,cb]at this
  constructor
  ·intro g
   have g1:=la n g
   rcases this.1 (.inr g)with k | k
   ·omega
   ·exact k
  ·intro g
   have g1:=lb n g
   rcases this.2 (.inr g)with k | k
   ·omega
   ·exact k
end Go.Proofs.YtokhjapfekbobaaGreat
namespace Go.Proofs.YtokhjapfekbobaaGreat
open Go.E
set_option maxRecDepth 100000
set_option maxHeartbeats 4000000
def A12(T:Nat→List Run)(r:Nat):Int:=(C1 (nrm (T r))).1
def X8(T:Nat→List Run)(r:Nat):List Span:=(C1 (nrm (T r))).2.map fun x=>⟨r,x.lo,x.hi⟩
def szT(T:Nat→List Run):Nat→Int
 | 0=>0
 | n+1=>if 0 < A12 T n then n+1 else szT T n
def I9(T:Nat→List Run):Nat→List Span
 | 0=>[]
 | n+1=>I9 T n++X8 T n
def A7r(T:Nat→List Run)(n:Nat):List Int:=(List.range n).map (A12 T)++List.replicate (16-n) 0
def G1(T:Nat→List Run):Past:=⟨(A7r T 16).take (szT T 16).toNat,I9 T 16⟩
def B37(T:Nat→List Run)(r s:Int):Prop:=s=szT T r.toNat
def A1j(T:Nat→List Run)(r:Int)(v:List Int):Prop:=v=A7r T r.toNat
def K7(T:Nat→List Run)(r:Int)(c:List Span):Prop:=c=I9 T r.toNat
def K2(T:Nat→List Run)(r j:Int)(c:List Span):Prop:=c=I9 T r.toNat++(X8 T r.toNat).take j.toNat
def Au6(T:Nat→List Run)(s r:Int)(v:List Int)(c:List Span):Prop:=0≤r∧r≤16∧0≤s∧s≤r∧v.length=16∧B37 T r s∧A1j T r v∧K7 T r c
def dec81a(s r:Int)(v:List Int)(c:List Span):Nat:=(16-r).toNat
def A7s(T:Nat→List Run)(r:Int)(w:List Int)(j:Int)(v:List Int)(c:List Span):Prop:=v=w∧0≤j∧j≤(C1 (nrm (T r.toNat))).2.length∧K2 T r j c
def Bb9(T:Nat→List Run)(r:Int)(j:Int)(v:List Int)(c:List Span):Nat:=((C1 (nrm (T r.toNat))).2.length-j).toNat
theorem A4h(T:Nat→List Run)(r:Nat):(C1 (nrm (T r))).2.length≤500000000:=by
 have h:=N2 (F1 (T r))
 unfold C1
 split
 ·exact h
 ·simp only [List.length_drop];omega
theorem A29(T:Nat→List Run):∀ n:Nat,(I9 T n).length≤n*500000000
 | 0=>by simp [I9]
 | n+1=>by
  have h1:=A29 T n
  have h2:=A4h T n
  rw[I9,List.length_append,X8,List.length_map]
  omega
theorem A0n{T:Nat→List Run}{r j:Int}{c:List Span}(h0:0≤r)(h1:r < 16)(hc:K2 T r j c):c.length≤8000000000:=by
 unfold K2 at hc
 have h2:=A29 T r.toNat
 have h3:=A4h T r.toNat
 rw[hc,List.length_append,List.length_take,X8,List.length_map]
 omega
theorem A3v{T:Nat→List Run}{r:Int}{c:List Span}(hc:K7 T r c):K2 T r 0 c:=by
 unfold K7 K2 at *
 simpa using hc
theorem A59{T:Nat→List Run}{r j:Int}{c:List Span}(h0:0≤r)(j0:0≤j)(jl:j <(C1 (nrm (T r.toNat))).2.length)(hc:K2 T r j c) :
  K2 T r (j+1) (c++[⟨r,((C1 (nrm (T r.toNat))).2[j.toNat]!).lo,((C1 (nrm (T r.toNat))).2[j.toNat]!).hi⟩]):=by
 unfold K2 at *
 have hl:(j:Int) <(X8 T r.toNat).length:=by rw[X8,List.length_map];exact jl
 rw[← E1 j0 hl,← List.append_assoc,← hc]
 have e:(X8 T r.toNat)[j.toNat]! =⟨r,((C1 (nrm (T r.toNat))).2[j.toNat]!).lo,((C1 (nrm (T r.toNat))).2[j.toNat]!).hi⟩:=by
  have hj:j.toNat <(C1 (nrm (T r.toNat))).2.length:=by omega
  rw[getElem!_pos (X8 T r.toNat) j.toNat (by omega),getElem!_pos (C1 (nrm (T r.toNat))).2 j.toNat hj]
  simp only [X8,List.getElem_map]
  congr 1
  omega
 rw[e]
theorem A7t{T:Nat→List Run}{r j:Int}{c:List Span}(h0:0≤r)(jl:¬ j <(C1 (nrm (T r.toNat))).2.length)(hc:K2 T r j c):K7 T (r+1) c:=by
 unfold K2 K7 at *
 rw[hc,show(r+1).toNat=r.toNat+1 by omega,I9,List.take_of_length_le (by rw[X8,List.length_map];omega)]
theorem A98{T:Nat→List Run}{r:Int}{v:List Int}(h0:0≤r)(h1:r < 16)(hv:A1j T r v):A1j T (r+1) (v.set r.toNat (C1 (nrm (T r.toNat))).1):=by
 unfold A1j at *
 rw[hv,show(r+1).toNat=r.toNat+1 by omega]
 unfold A7r
 generalize hn:r.toNat=n
 have hn':n < 16:=by omega
 rw[List.set_append_right _ _ (by simp),List.length_map,List.length_range,Nat.sub_self,show 16-n=(16-(n+1))+1 by omega,List.replicate_succ,List.set_cons_zero,List.range_succ,List.map_append,List.append_assoc]
 rfl
theorem Ao3{T:Nat→List Run}{r s:Int}(h0:0≤r)(hs:B37 T r s):B37 T (r+1) (if 0 <(C1 (nrm (T r.toNat))).1 then r+1 else s):=by
 unfold B37 at *
 rw[show(r+1).toNat=r.toNat+1 by omega,szT,A12,hs]
 split
 ·omega
 ·rfl
theorem A99{T:Nat→List Run}{r s:Int}{v:List Int}{c:List Span}(h1:r≤16)(h:¬ r < 16)(hs:B37 T r s)(hv:A1j T r v)(hc:K7 T r c):G1 T=⟨v.take s.toNat,c⟩:=by
 unfold B37 A1j K7 at *
 have:r.toNat=16:=by omega
 rw[this]at hs hv hc
 unfold G1
 rw[hs,hv,hc]
theorem Au7(t:Nat→List Run)(hb:∀ r:Nat,r < 16→(t r).length*16≤140737488351232):Con Tryz.prog 110 [.eptr (E8 c181 16 t)] (.agg (c26 (G1 t))) :=
 by
 refine sC A9 [.cell 2 26] 59 Tryz.func110 ?_
 intro e0 cx
 refine sq<|rG cx [0,2] [2] z0<|sn<|sq<|rG cx [0,2,3] [2,3] z0<|sn<|sq<|rG cx [0,2,3,4] [2,3,11] (fR (↑(16:Nat):Int) (fR (↑(16:Nat):Int) (fO ((8:Nat)*(16:Nat)≤(281474976710656:Nat)) (fP ((16:Nat)≤maxLen) (by(simp only [Go.maxLen];omega)) (fR 1 (fP (ZLe [AV.i .i64 (0:Int)] [AV.i .i64 (0:Int)]) (by(with_reducible exact ZLe.refl _)) (fP (List.replicate (16:Nat) [AV.i .i64 (0:Int)]=List.map c3 (List.replicate (16:Nat) (0:Int))) (by(with_reducible refine An2 ?_;kernel_rfl)) (oV 0 { row:=[.i .i64 ((0:Int))],rows:=some (List.map c3 (List.replicate (16:Nat) (0:Int))),n:=(16:Nat) } z0)))))))) ?_
 refine sn<|sq<|rG cx [0,2,3,4,5] [2,3,11] z0<|sn<|sq<|sq<|rG cx [0,2,3,4,5,12] [2,3,11] z0<|sn<|bL 0<|A7i 3 109 3 1 5301 (σ':=⟨[(0,.eptr (E8 c181 16 t)),(2,.ptr (2) (0) (0) (0)),(3,.ptr (3) (0) (0) (0)),(4,.own 11 0),(5,.i .i64 ((0:Int))),(12,.i .i64 ((0:Int)))],[(2,⟨0,26,.var [.nl,.nl]⟩),(3,⟨0,26,.var [.nl,.own 5301 0]⟩),(11,⟨0,3,.row 1 (List.map c3 (List.replicate (16:Nat) (0:Int)))⟩),(5301,⟨0,109,.row 3 (List.map B5 [])⟩)]⟩) (by kernel_rfl)<|sL (X:=Int×Int×List Int×List Span) (fun x=>⟨[(0,.eptr (E8 c181 16 t)),(2,.ptr (2) (0) (0) (0)),(3,.ptr (3) (0) (0) (0)),(4,.own 11 0),(5,.i .i64 (x.1)),(12,.i .i64 (x.2.1))],[(2,⟨0,26,.var [.nl,.nl]⟩),(3,⟨0,26,.var [.nl,.own 5301 0]⟩),(11,⟨0,3,.row 1 (List.map c3 x.2.2.1)⟩),(5301,⟨0,109,.row 3 (List.map B5 x.2.2.2)⟩)]⟩) (fun x ↦ dec81a x.1 x.2.1 x.2.2.1 x.2.2.2) (fun x ↦ Au6 t x.1 x.2.1 x.2.2.1 x.2.2.2) [0,2,3,4,5,12] [2,3,11,5301] (((0:Int),(0:Int),List.replicate (16:Nat) (0:Int),[])) (show Au6 t (0:Int) (0:Int) (List.replicate (16:Nat) (0:Int)) []from ?g0) ?_;rotate_left
 rintro⟨s0,r1,v2,cc3⟩ h_4
 obtain⟨hh5,hh6,hh7,hh8,hh9,h10,h11,h12⟩:0≤r1∧r1≤16∧0≤s0∧s0≤r1∧v2.length=(16:Nat)∧B37 t r1 s0∧A1j t r1 v2∧K7 t r1 cc3:=h_4
 refine rE cx [0,2,3,4,5,12,13] [2,3,11,5301] (zB 0 (r1 <(16:Int))) (fun h13=>?_) fun h13=>?_
 refine sK<|sn<|sq<|bL 1<|sq<|rG cx [0,2,3,4,5,12,6] [2,3,11,5301] z0<|sn<|sq ?_
 have hl_14:=(X7 (t r1.toNat))
 refine rG cx [0,2,3,4,5,12,6,7,8] [2,3,11,5301] (fA (0≤r1) (fO (r1 <(↑(16:Nat):Int)) (fP ((List.drop (r1.toNat*(1:Nat)) (E8 c181 16 t))[(0:Nat)]?=some (AV.sl (List.map c181 (t r1.toNat)))) (by(exact A8z (by omega))) (fT (con154 (t r1.toNat) ?g1) (oR 4 [.sl (List.map c181 (t r1.toNat))] (oA 5 (.tup [.i .i64 ((C1 (nrm (t r1.toNat))).1),.sl (List.map c181 (C1 (nrm (t r1.toNat))).2)]) z0)))))) ?_;rotate_left
 refine sn<|sq<|rG cx [0,2,3,4,5,12,6,7,8] [2,3,11,5301] (fA (0≤r1) (fP (r1.toNat <(List.map c3 v2).length) (by(first | omega | (simp only [List.length_map];omega))) (fR 1 (fG c3 v2 r1.toNat (fR 1 (fP (0+(1:Nat)≤1) (by(first | omega | (simp only [List.length_map];omega))) (fP ((List.map c3 v2).set r1.toNat (List.take (0) (c3 v2[r1.toNat]!)++E0 (AV.i .i64 (C1 (nrm (t r1.toNat))).1)++List.drop (0+(1:Nat)) (c3 v2[r1.toNat]!))=List.map c3 (v2.set r1.toNat (C1 (nrm (t r1.toNat))).1)) (by(with_reducible refine A3d ?_;kernel_rfl)) (oV 4 { row:=(c3 v2[r1.toNat]!),rows:=some (List.map c3 (v2.set r1.toNat (C1 (nrm (t r1.toNat))).1)) } z0)))))))) ?_
 refine sn<|sq<|rD cx [0,2,3,4,5,12,6,8,29] [2,3,11,5301] (zB 1 ((0:Int) <(C1 (nrm (t r1.toNat))).1)) (fun h_15=>?_) fun h_15=>?_
 refine rG cx [0,2,3,4,5,12,6,8] [2,3,11,5301] (tW 1 (r1+1) z0)<|sn<|sq<|rG cx [0,2,3,4,5,12,6,32,33,34] [2,3,11,5301] (tL 1 c181 ((C1 (nrm (t r1.toNat))).2) z0)<|sn<|bL 2<|sL (X:=Int×List Int×List Span) (fun x=>⟨[(0,.eptr (E8 c181 16 t)),(2,.ptr (2) (0) (0) (0)),(3,.ptr (3) (0) (0) (0)),(4,.own 11 0),(5,.i .i64 (r1+1)),(12,.i .i64 (r1)),(6,.i .i64 (r1)),(32,.sl (List.map c181 (C1 (nrm (t r1.toNat))).2)),(33,.i .i64 ((↑(C1 (nrm (t r1.toNat))).2.length:Int))),(34,.i .i64 (x.1))],[(2,⟨0,26,.var [.nl,.nl]⟩),(3,⟨0,26,.var [.nl,.own 5301 0]⟩),(11,⟨0,3,.row 1 (List.map c3 x.2.1)⟩),(5301,⟨0,109,.row 3 (List.map B5 x.2.2)⟩)]⟩) (fun x ↦ Bb9 t r1 x.1 x.2.1 x.2.2) (fun x ↦ A7s t r1 (v2.set r1.toNat (C1 (nrm (t r1.toNat))).1) x.1 x.2.1 x.2.2) [0,2,3,4,5,12,6,32,33,34] [2,3,11,5301] (((0:Int),v2.set r1.toNat (C1 (nrm (t r1.toNat))).1,cc3)) (show A7s t r1 (v2.set r1.toNat (C1 (nrm (t r1.toNat))).1) (0:Int) (v2.set r1.toNat (C1 (nrm (t r1.toNat))).1) cc3 from ?g2) ?_;rotate_left
 rintro⟨j_16,v_17,c_18⟩ h_19
 obtain⟨h_20,h_21,h_22,h_23⟩:v_17=v2.set r1.toNat (C1 (nrm (t r1.toNat))).1∧0≤j_16∧j_16≤(↑(C1 (nrm (t r1.toNat))).2.length:Int)∧K2 t r1 j_16 c_18:=h_19
 refine rE cx [0,2,3,4,5,12,6,32,33,34,35] [2,3,11,5301] (zB 0 (j_16 <(↑(C1 (nrm (t r1.toNat))).2.length:Int))) (fun h_24=>?_) fun h_24=>?_
 refine sK<|sn<|sq<|bL 3<|sq<|rG cx [0,2,3,4,5,12,6,32,33,34,10] [2,3,11,5301,10] (fA (0≤j_16) (fG c181 ((C1 (nrm (t r1.toNat))).2) j_16.toNat (fR 2 (fN 2 2 (oR 0 (c181 (C1 (nrm (t r1.toNat))).2[j_16.toNat]!) z0)))))<|sn<|rG cx [0,2,3,4,5,12,6,32,33,34] [2,3,11,5301] (fR 109 (fR 3 (fR 3 (fX B5 [{ rep:=r1,lo:=(C1 (nrm (t r1.toNat))).2[j_16.toNat]!.lo,hi:=(C1 (nrm (t r1.toNat))).2[j_16.toNat]!.hi:Span }] 3 (fP ((List.map B5 c_18).length+(List.map B5 [{ rep:=r1,lo:=(C1 (nrm (t r1.toNat))).2[j_16.toNat]!.lo,hi:=(C1 (nrm (t r1.toNat))).2[j_16.toNat]!.hi:Span }]).length≤maxLen) ?g3 (fP (((List.map B5 c_18).length+(List.map B5 [{ rep:=r1,lo:=(C1 (nrm (t r1.toNat))).2[j_16.toNat]!.lo,hi:=(C1 (nrm (t r1.toNat))).2[j_16.toNat]!.hi:Span }]).length)*(24:Nat)≤(140737488355328:Nat)) ?g4 (fM B5 c_18 [{ rep:=r1,lo:=(C1 (nrm (t r1.toNat))).2[j_16.toNat]!.lo,hi:=(C1 (nrm (t r1.toNat))).2[j_16.toNat]!.hi:Span }] (oV 9 { rows:=some (List.map B5 (c_18++[{ rep:=r1,lo:=(C1 (nrm (t r1.toNat))).2[j_16.toNat]!.lo,hi:=(C1 (nrm (t r1.toNat))).2[j_16.toNat]!.hi:Span }])) } z0)))))))) ?_;rotate_left 2
 refine bN<|sn<|rG cx [0,2,3,4,5,12,6,32,33,34] [2,3,11,5301] (tT 0 (B7 (by omega) ?g5:AV.i .i64 (IntKind.i64.wrap (j_16+1))=AV.i .i64 (j_16+1)) z0) ?_;rotate_left
 refine sn<|nX ((j_16+1,v_17,c_18++[{ rep:=r1,lo:=(C1 (nrm (t r1.toNat))).2[j_16.toNat]!.lo,hi:=(C1 (nrm (t r1.toNat))).2[j_16.toNat]!.hi:Span }])) (show((↑(C1 (nrm (t r1.toNat))).2.length:Int)-(j_16+1)).toNat <((↑(C1 (nrm (t r1.toNat))).2.length:Int)-j_16).toNat from(by omega)) (show A7s t r1 (v2.set r1.toNat (C1 (nrm (t r1.toNat))).1) (j_16+1) v_17 (c_18++[{ rep:=r1,lo:=(C1 (nrm (t r1.toNat))).2[j_16.toNat]!.lo,hi:=(C1 (nrm (t r1.toNat))).2[j_16.toNat]!.hi:Span }])from ?g6);rotate_left
 refine eX 2<|nE<|nE<|bH<|bN<|sn<|rG cx [0,2,3,4,5,12] [2,3,11,5301] (tW 0 (r1+1) z0)<|sn<|nX ((r1+1,r1+1,v_17,c_18)) (show(16-(r1+1)).toNat <(16-r1).toNat from(by omega)) (show Au6 t (r1+1) (r1+1) v_17 c_18 from ?g7);rotate_left
 refine sK<|sn<|sq<|rG cx [0,2,3,4,5,12,6,32,33,34] [2,3,11,5301] (tL 1 c181 ((C1 (nrm (t r1.toNat))).2) z0)<|sn<|bL 2<|sL (X:=Int×List Int×List Span) (fun x=>⟨[(0,.eptr (E8 c181 16 t)),(2,.ptr (2) (0) (0) (0)),(3,.ptr (3) (0) (0) (0)),(4,.own 11 0),(5,.i .i64 (s0)),(12,.i .i64 (r1)),(6,.i .i64 (r1)),(32,.sl (List.map c181 (C1 (nrm (t r1.toNat))).2)),(33,.i .i64 ((↑(C1 (nrm (t r1.toNat))).2.length:Int))),(34,.i .i64 (x.1))],[(2,⟨0,26,.var [.nl,.nl]⟩),(3,⟨0,26,.var [.nl,.own 5301 0]⟩),(11,⟨0,3,.row 1 (List.map c3 x.2.1)⟩),(5301,⟨0,109,.row 3 (List.map B5 x.2.2)⟩)]⟩) (fun x ↦ Bb9 t r1 x.1 x.2.1 x.2.2) (fun x ↦ A7s t r1 (v2.set r1.toNat (C1 (nrm (t r1.toNat))).1) x.1 x.2.1 x.2.2) [0,2,3,4,5,12,6,32,33,34] [2,3,11,5301] (((0:Int),v2.set r1.toNat (C1 (nrm (t r1.toNat))).1,cc3)) (show A7s t r1 (v2.set r1.toNat (C1 (nrm (t r1.toNat))).1) (0:Int) (v2.set r1.toNat (C1 (nrm (t r1.toNat))).1) cc3 from ?g8) ?_;rotate_left
 rintro⟨j_25,v_26,c_27⟩ h_28
 obtain⟨h_29,h_30,h_31,h_32⟩:v_26=v2.set r1.toNat (C1 (nrm (t r1.toNat))).1∧0≤j_25∧j_25≤(↑(C1 (nrm (t r1.toNat))).2.length:Int)∧K2 t r1 j_25 c_27:=h_28
 refine rE cx [0,2,3,4,5,12,6,32,33,34,35] [2,3,11,5301] (zB 0 (j_25 <(↑(C1 (nrm (t r1.toNat))).2.length:Int))) (fun h_33=>?_) fun h_33=>?_
 refine sK<|sn<|sq<|bL 3<|sq<|rG cx [0,2,3,4,5,12,6,32,33,34,10] [2,3,11,5301,10] (fA (0≤j_25) (fG c181 ((C1 (nrm (t r1.toNat))).2) j_25.toNat (fR 2 (fN 2 2 (oR 0 (c181 (C1 (nrm (t r1.toNat))).2[j_25.toNat]!) z0)))))<|sn<|rG cx [0,2,3,4,5,12,6,32,33,34] [2,3,11,5301] (fR 109 (fR 3 (fR 3 (fX B5 [{ rep:=r1,lo:=(C1 (nrm (t r1.toNat))).2[j_25.toNat]!.lo,hi:=(C1 (nrm (t r1.toNat))).2[j_25.toNat]!.hi:Span }] 3 (fP ((List.map B5 c_27).length+(List.map B5 [{ rep:=r1,lo:=(C1 (nrm (t r1.toNat))).2[j_25.toNat]!.lo,hi:=(C1 (nrm (t r1.toNat))).2[j_25.toNat]!.hi:Span }]).length≤maxLen) ?g9 (fP (((List.map B5 c_27).length+(List.map B5 [{ rep:=r1,lo:=(C1 (nrm (t r1.toNat))).2[j_25.toNat]!.lo,hi:=(C1 (nrm (t r1.toNat))).2[j_25.toNat]!.hi:Span }]).length)*(24:Nat)≤(140737488355328:Nat)) ?g10 (fM B5 c_27 [{ rep:=r1,lo:=(C1 (nrm (t r1.toNat))).2[j_25.toNat]!.lo,hi:=(C1 (nrm (t r1.toNat))).2[j_25.toNat]!.hi:Span }] (oV 9 { rows:=some (List.map B5 (c_27++[{ rep:=r1,lo:=(C1 (nrm (t r1.toNat))).2[j_25.toNat]!.lo,hi:=(C1 (nrm (t r1.toNat))).2[j_25.toNat]!.hi:Span }])) } z0)))))))) ?_;rotate_left 2
 refine bN<|sn<|rG cx [0,2,3,4,5,12,6,32,33,34] [2,3,11,5301] (tT 0 (B7 (by omega) ?g11:AV.i .i64 (IntKind.i64.wrap (j_25+1))=AV.i .i64 (j_25+1)) z0) ?_;rotate_left
 refine sn<|nX ((j_25+1,v_26,c_27++[{ rep:=r1,lo:=(C1 (nrm (t r1.toNat))).2[j_25.toNat]!.lo,hi:=(C1 (nrm (t r1.toNat))).2[j_25.toNat]!.hi:Span }])) (show((↑(C1 (nrm (t r1.toNat))).2.length:Int)-(j_25+1)).toNat <((↑(C1 (nrm (t r1.toNat))).2.length:Int)-j_25).toNat from(by omega)) (show A7s t r1 (v2.set r1.toNat (C1 (nrm (t r1.toNat))).1) (j_25+1) v_26 (c_27++[{ rep:=r1,lo:=(C1 (nrm (t r1.toNat))).2[j_25.toNat]!.lo,hi:=(C1 (nrm (t r1.toNat))).2[j_25.toNat]!.hi:Span }])from ?g12);rotate_left
 refine eX 2<|nE<|nE<|bH<|bN<|sn<|rG cx [0,2,3,4,5,12] [2,3,11,5301] (tW 0 (r1+1) z0)<|sn<|nX ((s0,r1+1,v_26,c_27)) (show(16-(r1+1)).toNat <(16-r1).toNat from(by omega)) (show Au6 t s0 (r1+1) v_26 c_27 from ?g13);rotate_left
 refine eX 0<|nE<|nE<|bH<|sn<|sq<|rD cx [2,3,4,5,52] [2,3,11,5301] (zB 1 ((0:Int) < s0)) (fun h34=>?_) fun h34=>?_
 refine rG cx [2,3] [2,3,5301,56] (fO ((0:Int)≤(0:Int)) (fA (0≤s0) (fP (s0≤(↑(List.map c3 v2).length:Int)) (by(first | omega | (simp only [List.length_map];omega))) (fP ((0:Int) <(↑(List.map c3 v2).length:Int)) (by(first | omega | (simp only [List.length_map];omega))) (fR (some (1)) (fP (A48 Tryz.prog (155:Nat) [AV.sl (List.take (s0-0).toNat (List.drop (0) (List.map c3 v2)))] (3:Nat) (BK.row (1:Nat) (List.map c3 (List.take (s0-0).toNat (List.drop (0) v2))))) (A48.le (con155 (List.take (s0-0).toNat (List.drop (0) v2)) ?g14) (ZLe.cons (B9.eq (by simp only [List.map_take,List.map_drop])) ZLe.nil)) (oV 3 { val:=some (.own (3:Nat) (1:Nat)),rows:=some (List.map c3 (List.take (s0-0).toNat (List.drop (0) v2))) } z0))))))) ?_;rotate_left
 refine sn<|sq<|S5 [56,5301] [2,3] [2,3] (σ':=⟨[(2,.ptr (2) (0) (0) (0)),(3,.ptr (3) (0) (0) (0))],[(2,⟨0,26,.var [.nl,.nl]⟩),(3,⟨0,26,.var [.sl (((E.look [(3,{ val:=some (AV.own (3:Nat) (1:Nat)),rows:=some (List.map c3 (List.take (s0-0).toNat (List.drop (0) v2))):Ov })] (3)).getD {:Ov }).rows.getD []),.sl (List.map B5 cc3)]⟩)]⟩) (by kernel_rfl)<|rG cx [2] [2,3] z0<|sn<|rT<|qR (.agg [.sl (((E.look [(3,{ val:=some (AV.own (3:Nat) (1:Nat)),rows:=some (List.map c3 (List.take (s0-0).toNat (List.drop (0) v2))):Ov })] (3)).getD {:Ov }).rows.getD []),.sl (List.map B5 cc3)]) (.eq ?g15);rotate_left
 refine sK<|sn<|sq<|S5 [5301] [2,3,4,5,52] [2,3,11] (σ':=⟨[(2,.ptr (2) (0) (0) (0)),(3,.ptr (3) (0) (0) (0)),(4,.own 11 0),(5,.i .i64 (s0)),(52,.b (decide ((0:Int) < s0)))],[(2,⟨0,26,.var [.nl,.nl]⟩),(3,⟨0,26,.var [.nl,.sl (List.map B5 cc3)]⟩),(11,⟨0,3,.row 1 (List.map c3 v2)⟩)]⟩) (by kernel_rfl)<|rG cx [2] [2] z0<|sn<|rT<|qR (.agg [.nl,.sl (List.map B5 cc3)]) (B9.agg (ZLe.cons (B9.nl' (show List.map c3 (G1 t).vec=[]from ?g17)) (ZLe.cons (B9.eq (show AV.sl (List.map B5 cc3)=AV.sl (List.map B5 (G1 t).cloud)from ?g16)) ZLe.nil)));rotate_left 2
 rotate_left
 clear hl_14;revert s0 r1 v2 cc3 hh5 hh6 hh7 hh8 hh9 h10 h11 h12 h13;rotate_left
 clear hl_14;revert s0 r1 v2 cc3 hh5 hh6 hh7 hh8 hh9 h10 h11 h12 h13 h_15;rotate_left
 clear hl_14;revert s0 r1 v2 cc3 hh5 hh6 hh7 hh8 hh9 h10 h11 h12 h13 h_15 j_16 v_17 c_18 h_20 h_21 h_22 h_23 h_24;rotate_left
 clear hl_14;revert s0 r1 v2 cc3 hh5 hh6 hh7 hh8 hh9 h10 h11 h12 h13 h_15 j_16 v_17 c_18 h_20 h_21 h_22 h_23 h_24;rotate_left
 clear hl_14;revert s0 r1 v2 cc3 hh5 hh6 hh7 hh8 hh9 h10 h11 h12 h13 h_15 j_16 v_17 c_18 h_20 h_21 h_22 h_23 h_24;rotate_left
 clear hl_14;revert s0 r1 v2 cc3 hh5 hh6 hh7 hh8 hh9 h10 h11 h12 h13 h_15 j_16 v_17 c_18 h_20 h_21 h_22 h_23 h_24;rotate_left
 clear hl_14;revert s0 r1 v2 cc3 hh5 hh6 hh7 hh8 hh9 h10 h11 h12 h13 h_15 j_16 v_17 c_18 h_20 h_21 h_22 h_23 h_24;rotate_left
 clear hl_14;revert s0 r1 v2 cc3 hh5 hh6 hh7 hh8 hh9 h10 h11 h12 h13 h_15;rotate_left
 clear hl_14;revert s0 r1 v2 cc3 hh5 hh6 hh7 hh8 hh9 h10 h11 h12 h13 h_15 j_25 v_26 c_27 h_29 h_30 h_31 h_32 h_33;rotate_left
 clear hl_14;revert s0 r1 v2 cc3 hh5 hh6 hh7 hh8 hh9 h10 h11 h12 h13 h_15 j_25 v_26 c_27 h_29 h_30 h_31 h_32 h_33;rotate_left
 clear hl_14;revert s0 r1 v2 cc3 hh5 hh6 hh7 hh8 hh9 h10 h11 h12 h13 h_15 j_25 v_26 c_27 h_29 h_30 h_31 h_32 h_33;rotate_left
 clear hl_14;revert s0 r1 v2 cc3 hh5 hh6 hh7 hh8 hh9 h10 h11 h12 h13 h_15 j_25 v_26 c_27 h_29 h_30 h_31 h_32 h_33;rotate_left
 clear hl_14;revert s0 r1 v2 cc3 hh5 hh6 hh7 hh8 hh9 h10 h11 h12 h13 h_15 j_25 v_26 c_27 h_29 h_30 h_31 h_32 h_33;rotate_left
 revert s0 r1 v2 cc3 hh5 hh6 hh7 hh8 hh9 h10 h11 h12 h13 h34;rotate_left
 revert s0 r1 v2 cc3 hh5 hh6 hh7 hh8 hh9 h10 h11 h12 h13 h34;rotate_left
 revert s0 r1 v2 cc3 hh5 hh6 hh7 hh8 hh9 h10 h11 h12 h13 h34;rotate_left
 revert s0 r1 v2 cc3 hh5 hh6 hh7 hh8 hh9 h10 h11 h12 h13 h34;rotate_left
 case g0=>exact⟨by omega,by omega,by omega,by omega,by simp,rfl,by simp [A1j,A7r],rfl⟩
 case g1=>intro s r v c h0 h1 h2 h3 h4 h5 h6 h7 h8;exact hb _ (by omega)
 case g2=>intro s r v c h0 h1 h2 h3 h4 h5 h6 h7 h8 h9;exact⟨rfl,by omega,by omega,A3v h7⟩
 case g8=>intro s r v c h0 h1 h2 h3 h4 h5 h6 h7 h8 h9;exact⟨rfl,by omega,by omega,A3v h7⟩
 case g3=>intro s r v c h0 h1 h2 h3 h4 h5 h6 h7 h8 h9 j w d k0 k1 k2 k3 k4;have:=A0n h0 h8 k3;simp only [List.length_map,List.length_cons,List.length_nil,Go.maxLen];omega
 case g9=>intro s r v c h0 h1 h2 h3 h4 h5 h6 h7 h8 h9 j w d k0 k1 k2 k3 k4;have:=A0n h0 h8 k3;simp only [List.length_map,List.length_cons,List.length_nil,Go.maxLen];omega
 case g4=>intro s r v c h0 h1 h2 h3 h4 h5 h6 h7 h8 h9 j w d k0 k1 k2 k3 k4;have:=A0n h0 h8 k3;simp only [List.length_map,List.length_cons,List.length_nil];omega
 case g10=>intro s r v c h0 h1 h2 h3 h4 h5 h6 h7 h8 h9 j w d k0 k1 k2 k3 k4;have:=A0n h0 h8 k3;simp only [List.length_map,List.length_cons,List.length_nil];omega
 case g5=>intro s r v c h0 h1 h2 h3 h4 h5 h6 h7 h8 h9 j w d k0 k1 k2 k3 k4;have:=A4h t r.toNat;omega
 case g11=>intro s r v c h0 h1 h2 h3 h4 h5 h6 h7 h8 h9 j w d k0 k1 k2 k3 k4;have:=A4h t r.toNat;omega
 case g6=>intro s r v c h0 h1 h2 h3 h4 h5 h6 h7 h8 h9 j w d k0 k1 k2 k3 k4;exact⟨k0,by omega,by omega,A59 h0 k1 k4 k3⟩
 case g12=>intro s r v c h0 h1 h2 h3 h4 h5 h6 h7 h8 h9 j w d k0 k1 k2 k3 k4;exact⟨k0,by omega,by omega,A59 h0 k1 k4 k3⟩
 case g7 =>
  intro s r v c h0 h1 h2 h3 h4 h5 h6 h7 h8 h9 j w d k0 k1 k2 k3 k4
  have hs:=Ao3 h0 h5
  rw[if_pos h9]at hs
  subst k0
  exact⟨by omega,by omega,by omega,by omega,by simpa using h4,hs,A98 h0 h8 h6,A7t h0 k4 k3⟩
 case g13 =>
  intro s r v c h0 h1 h2 h3 h4 h5 h6 h7 h8 h9 j w d k0 k1 k2 k3 k4
  have hs:=Ao3 h0 h5
  rw[if_neg h9]at hs
  subst k0
  exact⟨by omega,by omega,by omega,by omega,by simpa using h4,hs,A98 h0 h8 h6,A7t h0 k4 k3⟩
 case g14=>intro s r v c h0 h1 h2 h3 h4 h5 h6 h7 h8 h9;rw[List.drop_zero,List.length_take];omega
 case g15 =>
  intro s r v c h0 h1 h2 h3 h4 h5 h6 h7 h8 h9
  rw[A99 h1 h8 h5 h6 h7]
  show AV.agg [AV.sl (List.map c3 (List.take (s-0).toNat (List.drop 0 v))),AV.sl (List.map B5 c)]=_
  rw[List.drop_zero,Int.sub_zero]
  rfl
 case g16=>intro s r v c h0 h1 h2 h3 h4 h5 h6 h7 h8 h9;rw[A99 h1 h8 h5 h6 h7]
 case g17=>intro s r v c h0 h1 h2 h3 h4 h5 h6 h7 h8 h9;rw[A99 h1 h8 h5 h6 h7,show s.toNat=0 by omega];rfl
end Go.Proofs.YtokhjapfekbobaaGreat
namespace Go.Proofs.YtokhjapfekbobaaGreat
open Go.E
set_option maxRecDepth 100000
set_option maxHeartbeats 4000000
def M3(d:Dot):Bool:=decide (0≤d.rep∧d.rep < 16∧1≤d.num∧d.num≤1000000000)
def ofT(dots:List Dot)(r:Nat):List Run:=(dots.filter fun d=>M3 d && decide (d.rep=r)).map fun d=>⟨d.num,d.num⟩
def Ao4(dots:List Dot)(i:Int)(T:Nat→List Run):Prop:=∀ r:Nat,r < 16→T r=ofT (dots.take i.toNat) r
def B7q(dots:List Dot)(i:Int)(T:Nat→List Run):Prop:=0≤i∧i≤dots.length∧Ao4 dots i T
def dec62(dots:List Dot)(i:Int)(T:Nat→List Run):Nat:=(dots.length-i).toNat
theorem V8{T U:Nat→List Run}(h:∀ r:Nat,r < 16→T r=U r):G1 T=G1 U:=by
 have hl:∀ n:Nat,n≤16→szT T n=szT U n∧I9 T n=I9 U n:=by
  intro n
  induction n with
  | zero=>intro _;exact⟨rfl,rfl⟩
  | succ n ih =>
   intro hn
   obtain⟨h1,h2⟩:=ih (by omega)
   have e:=h n (by omega)
   exact⟨by rw[szT,szT,h1,A12,A12,e],by rw[I9,I9,h2,X8,X8,e]⟩
 have hv:A7r T 16=A7r U 16:=by
  unfold A7r
  congr 1
  refine List.map_congr_left fun r hr=>?_
  have hr:r < 16:=by simpa using hr
  rw[A12,A12,h r hr]
 unfold G1
 rw[(hl 16 (Nat.le_refl _)).1,(hl 16 (Nat.le_refl _)).2,hv]
theorem Bi8(dots:List Dot)(r:Nat):(ofT dots r).length≤dots.length:=by
 unfold ofT
 rw[List.length_map]
 exact List.length_filter_le _ _
theorem B38(a:List Dot)(d:Dot)(r:Nat):ofT (a++[d]) r=ofT a r++if M3 d=true∧d.rep=(r:Int)then[⟨d.num,d.num⟩]else[]:=by
 unfold ofT
 rw[List.filter_append,List.map_append]
 congr 1
 by_cases h:M3 d=true∧d.rep=(r:Int)
 ·rw[if_pos h];simp [List.filter_cons,h.1,h.2]
 ·rw[if_neg h]
  have:(M3 d && decide (d.rep=(r:Int)))=false:=by
   rw[Bool.and_eq_false_iff]
   by_cases h1:M3 d=true
   ·exact .inr (by simpa using fun h2=>h ⟨h1,h2⟩)
   ·exact .inl (by simpa using h1)
  simp [List.filter_cons,this]
theorem H4{d:Dot}(h:M3 d=true):0≤d.rep∧d.rep < 16∧1≤d.num∧d.num≤1000000000:=by
 unfold M3 at h
 simpa using h
theorem Ao5{dots:List Dot}{i:Int}{T:Nat→List Run}(h1:i≤dots.length)(ht:Ao4 dots i T){r:Nat}(hr:r < 16):((T r).length:Int)≤i∨(T r).length=0:=by
 rw[ht r hr]
 have:=Bi8 (dots.take i.toNat) r
 rw[List.length_take]at this
 omega
theorem tab_in{dots:List Dot}{i:Int}{T:Nat→List Run}(h0:0≤i)(h1:i < dots.length)(ht:Ao4 dots i T)(hd:M3 dots[i.toNat]! = true) :
  Ao4 dots (i+1) (L4 T dots[i.toNat]!.rep.toNat (T dots[i.toNat]!.rep.toNat++[⟨dots[i.toNat]!.num,dots[i.toNat]!.num⟩])):=by
 intro r hr
 have hb:=H4 hd
 rw[← E1 h0 h1,B38]
 unfold L4
 by_cases e:r=dots[i.toNat]!.rep.toNat
 ·rw[if_pos e,if_pos ⟨hd,by omega⟩,← e,ht r hr]
 ·rw[if_neg e,if_neg (fun k=>e (by omega)),List.append_nil,ht r hr]
theorem Bi9{dots:List Dot}{i:Int}{T:Nat→List Run}(h0:0≤i)(h1:i < dots.length)(ht:Ao4 dots i T)(hd:M3 dots[i.toNat]! = false):Ao4 dots (i+1) T:=by
 intro r hr
 rw[← E1 h0 h1,B38,if_neg (fun k=>by rw[hd]at k;cases k.1),List.append_nil,ht r hr]
theorem con74(d:Dot):Con Tryz.prog 74 [.agg (c65 d)] (.b (M3 d)) :=
 by
 refine sC A9 [.tmp 2] 21 Tryz.func74 ?_
 intro e0 cx
 refine sq<|rG cx [1] [1] z0<|sn<|sq<|B3 (σ':=⟨[(2,.b (decide (0≤d.rep∧d.rep <(16:Int)∧1≤d.num∧d.num≤1000000000)))],[]⟩) ?_ ?_
 refine A4 (0≤d.rep) (fun h_1=>?_) (fun h_1=>?_)
 refine A4 (d.rep <(16:Int)) (fun h_2=>?_) (fun h_2=>?_)
 refine A4 (1≤d.num) (fun h_3=>?_) (fun h_3=>?_)
 refine rG cx [2] [] (tT 2 (A3 h_1) (tT 6 (A3 h_2) (tT 11 (A3 h_3) (tB 16 (d.num≤1000000000) (tD 18 (decide (d.num≤1000000000)) (0≤d.rep∧d.rep <(16:Int)∧1≤d.num∧d.num≤1000000000) (by simp only [eq_true h_1,eq_true h_2,eq_true h_3,tsl]) z0))))) ?_
 exact⟨rfl,by kernel_rfl⟩
 refine rG cx [2] [] (tT 2 (A3 h_1) (tT 6 (A3 h_2) (tT 11 (A0 h_3) (tD 18 false (0≤d.rep∧d.rep <(16:Int)∧1≤d.num∧d.num≤1000000000) (by simp only [eq_true h_1,eq_true h_2,eq_false h_3,tsl]) z0)))) ?_
 exact⟨rfl,by kernel_rfl⟩
 refine rG cx [2] [] (tT 2 (A3 h_1) (tT 6 (A0 h_2) (tD 18 false (0≤d.rep∧d.rep <(16:Int)∧1≤d.num∧d.num≤1000000000) (by simp only [eq_true h_1,eq_false h_2,tsl]) z0))) ?_
 exact⟨rfl,by kernel_rfl⟩
 refine rG cx [2] [] (tT 2 (A0 h_1) (tD 18 false (0≤d.rep∧d.rep <(16:Int)∧1≤d.num∧d.num≤1000000000) (by simp only [eq_false h_1,tsl]) z0)) ?_
 exact⟨rfl,by kernel_rfl⟩
 refine sn<|rT<|qR (.b (decide (0≤d.rep∧d.rep <(16:Int)∧1≤d.num∧d.num≤1000000000))) (.eq ?g0);rotate_left
 case g0=>exact rfl
theorem con93(dots:List Dot)(hb:dots.length*16≤140737488351232):Con Tryz.prog 93 [.sl (dots.map c65)] (.agg (c26 (G1 (ofT dots)))) :=
 by
 refine lN 0 c65 (dots) Tryz.func93 fun hl_0=>sC A9 [.cell 2 26] 37 Tryz.func93 ?_
 intro e0 cx
 refine sq<|rG cx [0,2] [2] z0<|sn<|sq<|rG cx [0,2,3] [2,7] z0<|sn<|sq<|sq<|rG cx [2,3,8,9,10] [2,7] (tL 1 c65 dots z0)<|sn<|bL 0<|A25 7 181 2 100700 16 (σ':=⟨[(2,.ptr (2) (0) (0) (0)),(3,.ptr (7) (0) (0) (0)),(8,.sl (List.map c65 dots)),(9,.i .i64 ((↑dots.length:Int))),(10,.i .i64 ((0:Int)))],[(2,⟨0,26,.var [.nl,.nl]⟩),(7,⟨0,155,.var (G6 100700 16)⟩)]++C3 100700 181 2 16 (c181) (fun x ↦ [])⟩) (by kernel_rfl)<|sL (X:=Int×(Nat→List Run)) (fun x=>⟨[(2,.ptr (2) (0) (0) (0)),(3,.ptr (7) (0) (0) (0)),(8,.sl (List.map c65 dots)),(9,.i .i64 ((↑dots.length:Int))),(10,.i .i64 (x.1))],[(2,⟨0,26,.var [.nl,.nl]⟩),(7,⟨0,155,.var (G6 100700 16)⟩)]++C3 100700 181 2 16 (c181) (x.2)⟩) (fun x ↦ dec62 dots x.1 x.2) (fun x ↦ B7q dots x.1 x.2) [2,3,8,9,10] ([2,7]++List.range' 100700 16) (((0:Int),fun x ↦ [])) (show B7q dots (0:Int) fun x ↦ []from(by exact⟨by omega,by omega,fun r _=>by simp [ofT]⟩)) ?_
 rintro⟨i0,T1⟩ h_2
 obtain⟨hh3,hh4,h5⟩:0≤i0∧i0≤(↑dots.length:Int)∧Ao4 dots i0 T1:=h_2
 refine rE cx [2,3,8,9,10,11] ([2,7]++List.range' 100700 16) (zB 0 (i0 <(↑dots.length:Int))) (fun h6=>?_) fun h6=>?_
 refine sK<|sn<|sq<|bL 1<|sq<|rG cx [2,3,8,9,10,5] ([2,7]++List.range' 100700 16++[5]) (fA (0≤i0) (fG c65 dots i0.toNat (fR 2 (fN 2 2 (oR 0 (c65 dots[i0.toNat]!) z0)))))<|sn<|sq<|rG cx [2,3,8,9,10,5,15] ([2,7]++List.range' 100700 16++[5]) (fT (con74 (dots[i0.toNat]!)) (oA 1 (.b (M3 dots[i0.toNat]!)) z0))<|sn<|X5 (M3 dots[i0.toNat]!) (by kernel_rfl) (by kernel_rfl) (fun h7=>?_) (fun h7=>?_)
 refine A0k (F:=fun kx=>⟨[(2,.ptr (2) (0) (0) (0)),(3,.ptr (7) (0) (0) (0)),(8,.sl (List.map c65 dots)),(9,.i .i64 ((↑dots.length:Int))),(10,.i .i64 (i0)),(5,.ptr (5) (0) (0) (0)),(15,.b (M3 dots[i0.toNat]!))],[(2,⟨0,26,.var [.nl,.nl]⟩),(7,⟨0,155,.var (G6 100700 16)⟩)]++C3 100700 181 2 16 (c181) (T1)++[(5,⟨0,65,.var [.i .i64 (kx),.i .i64 (dots[i0.toNat]!.num)]⟩)]⟩) (G:=fun kx=>⟨[(2,.ptr (2) (0) (0) (0)),(3,.ptr (7) (0) (0) (0)),(8,.sl (List.map c65 dots)),(9,.i .i64 ((↑dots.length:Int))),(10,.i .i64 (i0))],[(2,⟨0,26,.var [.nl,.nl]⟩),(7,⟨0,155,.var (G6 100700 16)⟩)]++C3 100700 181 2 16 (c181) (L4 T1 kx.toNat (T1 kx.toNat++[{ lo:=dots[i0.toNat]!.num,hi:=dots[i0.toNat]!.num:Run }]))⟩) (A:=fun kx=>(0≤kx)∧(kx <(↑(16:Nat):Int))∧(181=(181:Nat))∧((2:Nat)=2)∧([AV.i .i64 (0:Int),AV.i .i64 (0:Int)].length=(2:Nat))∧(∀(r:List AV),r∈List.map c181 [{ lo:=dots[i0.toNat]!.num,hi:=dots[i0.toNat]!.num:Run }]→r.length=2)∧((List.map c181 (T1 kx.toNat)).length+(List.map c181 [{ lo:=dots[i0.toNat]!.num,hi:=dots[i0.toNat]!.num:Run }]).length≤maxLen)∧(((List.map c181 (T1 kx.toNat)).length+(List.map c181 [{ lo:=dots[i0.toNat]!.num,hi:=dots[i0.toNat]!.num:Run }]).length)*(16:Nat)≤(140737488355328:Nat))∧(List.map c181 (T1 kx.toNat)++List.map c181 [{ lo:=dots[i0.toNat]!.num,hi:=dots[i0.toNat]!.num:Run }]=List.map c181 (T1 kx.toNat++[{ lo:=dots[i0.toNat]!.num,hi:=dots[i0.toNat]!.num:Run }]))∧(0≤kx)∧(kx <(↑(16:Nat):Int))) cx (fun kx=>[(15,{ rows:=some (List.map c181 (T1 kx.toNat++[{ lo:=dots[i0.toNat]!.num,hi:=dots[i0.toNat]!.num:Run }])) })]) [2,3,8,9,10] ([2,7]++List.range' 100700 16) (dots[i0.toNat]!.rep) (by exact(H4 h7).1) (by exact(H4 h7).2.1) (by kernel_rfl) (by kernel_rfl) ⟨(by show _=_;kernel_rfl),(by show _=_;kernel_rfl),(by show _=_;kernel_rfl),(by show _=_;kernel_rfl),(by show _=_;kernel_rfl),(by show _=_;kernel_rfl),(by show _=_;kernel_rfl),(by show _=_;kernel_rfl),(by show _=_;kernel_rfl),(by show _=_;kernel_rfl),(by show _=_;kernel_rfl),(by show _=_;kernel_rfl),(by show _=_;kernel_rfl),(by show _=_;kernel_rfl),(by show _=_;kernel_rfl),(by show _=_;kernel_rfl)⟩ ⟨(by exact(H4 h7).1),(by exact(H4 h7).2.1),(by kernel_rfl),(by kernel_rfl),(by kernel_rfl),(by(with_reducible refine O4 (fun _=>?_) _;kernel_rfl)),(by have hd:=H4 h7;have:=Ao5 hh4 h5 (r:=dots[i0.toNat]!.rep.toNat) (by omega);simp only [List.length_map,List.length_cons,List.length_nil,Go.maxLen];omega),(by have hd:=H4 h7;have:=Ao5 hh4 h5 (r:=dots[i0.toNat]!.rep.toNat) (by omega);simp only [List.length_map,List.length_cons,List.length_nil];omega),(by(with_reducible refine A06 ?_;kernel_rfl)),(by exact(H4 h7).1),(by exact(H4 h7).2.1)⟩ ?_
 refine bN<|sn<|rG cx [2,3,8,9,10] ([2,7]++List.range' 100700 16) (tW 0 (i0+1) z0)<|sn<|nX ((i0+1,L4 T1 dots[i0.toNat]!.rep.toNat (T1 dots[i0.toNat]!.rep.toNat++[{ lo:=dots[i0.toNat]!.num,hi:=dots[i0.toNat]!.num:Run }]))) (show((↑dots.length:Int)-(i0+1)).toNat <((↑dots.length:Int)-i0).toNat from(by omega)) (show B7q dots (i0+1) (L4 T1 dots[i0.toNat]!.rep.toNat (T1 dots[i0.toNat]!.rep.toNat++[{ lo:=dots[i0.toNat]!.num,hi:=dots[i0.toNat]!.num:Run }]))from(by exact⟨by omega,by omega,tab_in hh3 h6 h5 h7⟩))
 refine sK<|bN<|sn<|rG cx [2,3,8,9,10] ([2,7]++List.range' 100700 16) (tW 0 (i0+1) z0)<|sn<|nX ((i0+1,T1)) (show((↑dots.length:Int)-(i0+1)).toNat <((↑dots.length:Int)-i0).toNat from(by omega)) (show B7q dots (i0+1) T1 from(by exact⟨by omega,by omega,Bi9 hh3 h6 h5 h7⟩))
 refine eX 0<|nE<|nE<|bH<|sn<|sq<|S5 (List.range' 100700 16) [2,3,8,9,10,11] [2,7] (σ':=⟨[(2,.ptr (2) (0) (0) (0)),(3,.ptr (7) (0) (0) (0)),(8,.sl (List.map c65 dots)),(9,.i .i64 ((↑dots.length:Int))),(10,.i .i64 (i0)),(11,.b (decide (i0 <(↑dots.length:Int))))],[(2,⟨0,26,.var [.nl,.nl]⟩),(7,⟨0,155,.var [.sl (List.map c181 (T1 (0))),.sl (List.map c181 (T1 (1))),.sl (List.map c181 (T1 (2))),.sl (List.map c181 (T1 (3))),.sl (List.map c181 (T1 (4))),.sl (List.map c181 (T1 (5))),.sl (List.map c181 (T1 (6))),.sl (List.map c181 (T1 (7))),.sl (List.map c181 (T1 (8))),.sl (List.map c181 (T1 (9))),.sl (List.map c181 (T1 (10))),.sl (List.map c181 (T1 (11))),.sl (List.map c181 (T1 (12))),.sl (List.map c181 (T1 (13))),.sl (List.map c181 (T1 (14))),.sl (List.map c181 (T1 (15)))]⟩)]⟩) (by kernel_rfl)<|I2 7 ⟨0,155,.var [.sl (List.map c181 (T1 (0))),.sl (List.map c181 (T1 (1))),.sl (List.map c181 (T1 (2))),.sl (List.map c181 (T1 (3))),.sl (List.map c181 (T1 (4))),.sl (List.map c181 (T1 (5))),.sl (List.map c181 (T1 (6))),.sl (List.map c181 (T1 (7))),.sl (List.map c181 (T1 (8))),.sl (List.map c181 (T1 (9))),.sl (List.map c181 (T1 (10))),.sl (List.map c181 (T1 (11))),.sl (List.map c181 (T1 (12))),.sl (List.map c181 (T1 (13))),.sl (List.map c181 (T1 (14))),.sl (List.map c181 (T1 (15)))]⟩ [.sl (List.map c181 (T1 (0))),.sl (List.map c181 (T1 (1))),.sl (List.map c181 (T1 (2))),.sl (List.map c181 (T1 (3))),.sl (List.map c181 (T1 (4))),.sl (List.map c181 (T1 (5))),.sl (List.map c181 (T1 (6))),.sl (List.map c181 (T1 (7))),.sl (List.map c181 (T1 (8))),.sl (List.map c181 (T1 (9))),.sl (List.map c181 (T1 (10))),.sl (List.map c181 (T1 (11))),.sl (List.map c181 (T1 (12))),.sl (List.map c181 (T1 (13))),.sl (List.map c181 (T1 (14))),.sl (List.map c181 (T1 (15)))] (E8 c181 16 T1) (σ':=⟨[(2,.ptr (2) (0) (0) (0)),(3,.ptr (7) (0) (0) (0)),(8,.sl (List.map c65 dots)),(9,.i .i64 ((↑dots.length:Int))),(10,.i .i64 (i0)),(11,.b (decide (i0 <(↑dots.length:Int))))],[(2,⟨0,26,.var [.nl,.nl]⟩),(7,⟨0,155,.arr (E8 c181 16 T1)⟩)]⟩) (by kernel_rfl) (by kernel_rfl) (by kernel_rfl) (by kernel_rfl) (ZLe.of_eq (by kernel_rfl)) (by kernel_rfl)<|rG cx [2] [2] (fT (Au7 (T1) ?g11) (oA 1 (.agg [.sl (List.map c3 (G1 T1).vec),.sl (List.map B5 (G1 T1).cloud)]) z0)) ?_;rotate_left
 refine sn<|rT<|qR (.agg [.sl (List.map c3 (G1 T1).vec),.sl (List.map B5 (G1 T1).cloud)]) (.eq ?g12);rotate_left
 case g11=>revert i0 T1 hh3 hh4 h5 h6;intro i T h0 h1 h2 h3 r hr;have:=Ao5 h1 h2 hr;omega
 case g12 =>
  have e:G1 T1=G1 (ofT dots):=V8 fun r hr=>by rw[h5 r hr,List.take_of_length_le (by omega)]
  rw[e]
  rfl
end Go.Proofs.YtokhjapfekbobaaGreat
namespace Go.Proofs.YtokhjapfekbobaaGreat
open Go.E
set_option maxRecDepth 100000
set_option maxHeartbeats 4000000
def B0q(v:List Int)(r:Nat):List Run:=if r < v.length then[⟨1,v[r]!⟩]else[]
def T0(c:List Span)(r:Nat):List Run:=(c.filter fun(s:Span)=>decide (s.rep=(r:Int))).map fun s=>⟨s.lo,s.hi⟩
def A8(ps:List Past)(r:Nat):List Run:=(ps.map fun p=>B0q p.vec r++T0 p.cloud r).flatten
def A7u(ps:List Past)(i:Int)(T:Nat→List Run):Prop:=∀ r:Nat,r < 16→T r=A8 (ps.take i.toNat) r
def X9(ps:List Past)(i j:Int)(T:Nat→List Run):Prop:=∀ r:Nat,r < 16→T r=A8 (ps.take i.toNat) r++if(r:Int) < j then B0q (ps[i.toNat]!).vec r else[]
def Q6(ps:List Past)(i j:Int)(T:Nat→List Run):Prop:=∀ r:Nat,r < 16→T r=A8 (ps.take i.toNat) r++B0q (ps[i.toNat]!).vec r++T0 ((ps[i.toNat]!).cloud.take j.toNat) r
def Ao6(ps:List Past)(i:Int)(T:Nat→List Run):Prop:=0≤i∧i≤ps.length∧A7u ps i T
def Bj0(ps:List Past)(i:Int)(T:Nat→List Run):Nat:=(ps.length-i).toNat
def Ao7(ps:List Past)(i:Int)(n:Int)(j:Int)(T:Nat→List Run)(v:List Int)(c:List Span):Prop:=v=(ps[i.toNat]!).vec∧c=(ps[i.toNat]!).cloud∧0≤j∧j≤n∧X9 ps i j T
def Bj1(n:Int)(j:Int)(T:Nat→List Run)(v:List Int)(c:List Span):Nat:=(n-j).toNat
def A9a(ps:List Past)(i:Int)(j:Int)(T:Nat→List Run):Prop:=0≤j∧j≤(ps[i.toNat]!).cloud.length∧Q6 ps i j T
def Bj2(ps:List Past)(i:Int)(j:Int)(T:Nat→List Run):Nat:=((ps[i.toNat]!).cloud.length-j).toNat
def A1k(ps:List Past):Nat:=(ps.map fun p=>p.cloud.length+1).sum
theorem B39(a:List Past)(p:Past)(r:Nat):A8 (a++[p]) r=A8 a r++(B0q p.vec r++T0 p.cloud r):=by simp [A8]
theorem Au8(v:List Int)(r:Nat):(B0q v r).length≤1:=by unfold B0q;split <;> simp
theorem A7v(c:List Span)(r:Nat):(T0 c r).length≤c.length:=by
 unfold T0
 rw[List.length_map]
 exact List.length_filter_le _ _
theorem Q7(r:Nat):∀ ps:List Past,(A8 ps r).length≤A1k ps
 | []=>by simp [A8]
 | p :: ps=>by
  have h1:=Q7 r ps
  have h2:=Au8 p.vec r
  have h3:=A7v p.cloud r
  simp only [A8,A1k,List.map_cons,List.flatten_cons,List.length_append,List.sum_cons]at *
  omega
theorem B7r(a b:List Past):A1k (a++b)=A1k a+A1k b:=by simp [A1k]
theorem Af9{ps:List Past}{i:Int}(h0:0≤i)(h:i < ps.length):A1k (ps.take i.toNat)+(ps[i.toNat]!).cloud.length+1≤A1k ps:=by
 have e:A1k ps=A1k (ps.take (i+1).toNat)+A1k (ps.drop (i+1).toNat):=by
  rw[← B7r,List.take_append_drop]
 rw[← E1 h0 h]at e
 simp only [A1k,List.map_append,List.sum_append,List.map_cons,List.map_nil,List.sum_cons,List.sum_nil]at *
 omega
theorem A5a{ps:List Past}{i:Int}{T:Nat→List Run}(h:A7u ps i T):X9 ps i 0 T:=fun r hr=>by
 rw[h r hr,if_neg (by omega),List.append_nil]
theorem A7w{ps:List Past}{i j:Int}{T:Nat→List Run}(j0:0≤j)(jl:j <(ps[i.toNat]!).vec.length)(h:X9 ps i j T) :
  X9 ps i (j+1) (L4 T j.toNat (T j.toNat++[⟨1,(ps[i.toNat]!).vec[j.toNat]!⟩])):=by
 intro r hr
 unfold L4
 by_cases e:r=j.toNat
 ·rw[if_pos e,← e,h r hr,if_neg (by omega),if_pos (by omega),List.append_nil,B0q,if_pos (by omega)]
 ·rw[if_neg e,h r hr]
  by_cases k:(r:Int) < j
  ·rw[if_pos k,if_pos (by omega)]
  ·rw[if_neg k,if_neg (by omega)]
theorem A5b{ps:List Past}{i j:Int}{T:Nat→List Run}(j1:j≤min ((ps[i.toNat]!).vec.length:Int) 16)(jl:¬ j < min ((ps[i.toNat]!).vec.length:Int) 16)(h:X9 ps i j T):Q6 ps i 0 T:=by
 intro r hr
 rw[h r hr,show(0:Int).toNat=0 from rfl,List.take_zero,show T0 [] r=[]from rfl,List.append_nil]
 by_cases k:(r:Int) < j
 ·rw[if_pos k]
 ·rw[if_neg k,B0q,if_neg (by omega)]
theorem A7x(c:List Span)(s:Span)(r:Nat):T0 (c++[s]) r=T0 c r++if s.rep=(r:Int)then[⟨s.lo,s.hi⟩]else[]:=by
 unfold T0
 rw[List.filter_append,List.map_append]
 congr 1
 by_cases h:s.rep=(r:Int)
 ·rw[if_pos h];simp [List.filter_cons,h]
 ·rw[if_neg h];simp [List.filter_cons,h]
theorem Au9{ps:List Past}{i j:Int}{T:Nat→List Run}(j0:0≤j)(jl:j <(ps[i.toNat]!).cloud.length)(hr:0≤((ps[i.toNat]!).cloud[j.toNat]!).rep∧((ps[i.toNat]!).cloud[j.toNat]!).rep < 16)(h:Q6 ps i j T) :
  Q6 ps i (j+1) (L4 T ((ps[i.toNat]!).cloud[j.toNat]!).rep.toNat (T ((ps[i.toNat]!).cloud[j.toNat]!).rep.toNat++[⟨((ps[i.toNat]!).cloud[j.toNat]!).lo,((ps[i.toNat]!).cloud[j.toNat]!).hi⟩])):=by
 intro r hr'
 rw[← E1 j0 jl,A7x]
 unfold L4
 by_cases e:r=((ps[i.toNat]!).cloud[j.toNat]!).rep.toNat
 ·rw[if_pos e,if_pos (by omega),← e,h r hr',List.append_assoc,List.append_assoc]
 ·rw[if_neg e,if_neg (by omega),List.append_nil,h r hr']
theorem Ag0{ps:List Past}{i j:Int}{T:Nat→List Run}(j0:0≤j)(jl:j <(ps[i.toNat]!).cloud.length)(hr:¬(0≤((ps[i.toNat]!).cloud[j.toNat]!).rep∧((ps[i.toNat]!).cloud[j.toNat]!).rep < 16))(h:Q6 ps i j T):Q6 ps i (j+1) T:=by
 intro r hr'
 rw[← E1 j0 jl,A7x,if_neg (by omega),List.append_nil,h r hr']
theorem Ag1{ps:List Past}{i j:Int}{T:Nat→List Run}(h0:0≤i)(h1:i < ps.length)(jl:¬ j <(ps[i.toNat]!).cloud.length)(h:Q6 ps i j T):A7u ps (i+1) T:=by
 intro r hr
 rw[← E1 h0 h1,B39,h r hr,List.take_of_length_le (l:=(ps[i.toNat]!).cloud) (by omega),List.append_assoc]
theorem A5c{ps:List Past}{i j:Int}{T:Nat→List Run}(h0:0≤i)(h1:i < ps.length)(h:X9 ps i j T){r:Nat}(hr:r < 16)(k:¬(r:Int) < j):(T r).length+1≤A1k ps:=by
 rw[h r hr,if_neg k,List.append_nil]
 have:=Q7 r (ps.take i.toNat)
 have:=Af9 h0 h1
 omega
theorem V9{ps:List Past}{i j:Int}{T:Nat→List Run}(h0:0≤i)(h1:i < ps.length)(j0:0≤j)(jl:j <(ps[i.toNat]!).cloud.length)(h:Q6 ps i j T){r:Nat}(hr:r < 16):(T r).length+1≤A1k ps+1∧j+1≤A1k ps:=by
 rw[h r hr,List.length_append,List.length_append]
 have:=Q7 r (ps.take i.toNat)
 have:=Af9 h0 h1
 have:=Au8 (ps[i.toNat]!).vec r
 have:=A7v ((ps[i.toNat]!).cloud.take j.toNat) r
 rw[List.length_take]at this
 omega
theorem A5d(ps:List Past)(hb:A1k ps*16≤140737488351232):A48 Tryz.prog 104 [.sl (ps.map c26)] 155 (.arr (E8 c181 16 (A8 ps))) :=
 by
 refine A24 0 (c26) (ps) (by kernel_rfl) Tryz.func104 (by kernel_rfl) fun hl_0=>A8y A9 (by kernel_rfl) (.tmp 2) 78 Tryz.func104 (by kernel_rfl) (by kernel_rfl) ?_
 intro e0 cx
 refine sq<|rG cx [0] [] z0<|sn<|sq<|rG cx [0,3] [10] z0<|sn<|sq<|sq<|rG cx [3,11,12,13] [10] (tL 1 c26 ps z0)<|sn<|bL 0<|A25 10 181 2 101000 16 (σ':=⟨[(3,.ptr (10) (0) (0) (0)),(11,.sl (List.map c26 ps)),(12,.i .i64 ((↑ps.length:Int))),(13,.i .i64 ((0:Int)))],[(10,⟨0,155,.var (G6 101000 16)⟩)]++C3 101000 181 2 16 (c181) (fun x ↦ [])⟩) (by kernel_rfl)<|sL (X:=Int×(Nat→List Run)) (fun x=>⟨[(3,.ptr (10) (0) (0) (0)),(11,.sl (List.map c26 ps)),(12,.i .i64 ((↑ps.length:Int))),(13,.i .i64 (x.1))],[(10,⟨0,155,.var (G6 101000 16)⟩)]++C3 101000 181 2 16 (c181) (x.2)⟩) (fun x ↦ Bj0 ps x.1 x.2) (fun x ↦ Ao6 ps x.1 x.2) [3,11,12,13] ([10]++List.range' 101000 16) (((0:Int),fun x ↦ [])) (show Ao6 ps (0:Int) fun x ↦ []from(by exact⟨by omega,by omega,fun r _=>rfl⟩)) ?_
 rintro⟨i0,T1⟩ h_2
 obtain⟨hh3,h4,h5⟩:0≤i0∧i0≤(↑ps.length:Int)∧A7u ps i0 T1:=h_2
 refine rE cx [3,11,12,13,14] ([10]++List.range' 101000 16) (zB 0 (i0 <(↑ps.length:Int))) (fun h6=>?_) fun h6=>?_
 refine sK<|sn<|sq<|bL 1<|sq<|rG cx [3,11,12,13,5] ([10]++List.range' 101000 16++[5]) (fA (0≤i0) (fG c26 ps i0.toNat (fR 2 (fN 2 2 (oR 0 (c26 ps[i0.toNat]!) z0)))))<|sn<|sq<|sq<|rG cx [3,11,12,13,5,20,21] ([10]++List.range' 101000 16++[5]) (tL 2 c3 ps[i0.toNat]!.vec (tT 3 (A4d:AV.i .i64 (if(16:Int) <(↑ps[i0.toNat]!.vec.length:Int)then(16:Int)else(↑ps[i0.toNat]!.vec.length:Int))=AV.i .i64 (min (↑ps[i0.toNat]!.vec.length:Int) (16:Int))) z0))<|sn<|bL 2<|sL (X:=Int×(Nat→List Run)×List Int×List Span) (fun x=>⟨[(3,.ptr (10) (0) (0) (0)),(11,.sl (List.map c26 ps)),(12,.i .i64 ((↑ps.length:Int))),(13,.i .i64 (i0)),(5,.ptr (5) (0) (0) (0)),(20,.i .i64 (min (↑ps[i0.toNat]!.vec.length:Int) (16:Int))),(21,.i .i64 (x.1))],[(10,⟨0,155,.var (G6 101000 16)⟩)]++C3 101000 181 2 16 (c181) (x.2.1)++[(5,⟨0,26,.var [.sl (List.map c3 x.2.2.1),.sl (List.map B5 x.2.2.2)]⟩)]⟩) (fun x ↦ Bj1 (min (↑ps[i0.toNat]!.vec.length:Int) (16:Int)) x.1 x.2.1 x.2.2.1 x.2.2.2) (fun x ↦ Ao7 ps i0 (min (↑ps[i0.toNat]!.vec.length:Int) (16:Int)) x.1 x.2.1 x.2.2.1 x.2.2.2) [3,11,12,13,5,20,21] ([10]++List.range' 101000 16++[5]) (((0:Int),T1,ps[i0.toNat]!.vec,ps[i0.toNat]!.cloud)) (show Ao7 ps i0 (min (↑ps[i0.toNat]!.vec.length:Int) (16:Int)) (0:Int) T1 ps[i0.toNat]!.vec ps[i0.toNat]!.cloud from(by exact⟨rfl,rfl,by omega,by omega,A5a h5⟩)) ?_
 rintro⟨j7,T8,v9,c10⟩ h_11
 obtain⟨h12,h13,h14,h15,h16⟩:v9=ps[i0.toNat]!.vec∧c10=ps[i0.toNat]!.cloud∧0≤j7∧j7≤min (↑ps[i0.toNat]!.vec.length:Int) (16:Int)∧X9 ps i0 j7 T8:=h_11
 refine rE cx [3,11,12,13,5,20,21,22] ([10]++List.range' 101000 16++[5]) (zB 0 (j7 < min (↑ps[i0.toNat]!.vec.length:Int) (16:Int))) (fun h17=>?_) fun h17=>?_
 refine sK<|sn<|sq<|bL 3<|sq<|rG cx [3,11,12,13,5,20,21,6] ([10]++List.range' 101000 16++[5]) z0<|sn<|A0k (F:=fun kx=>⟨[(3,.ptr (10) (0) (0) (0)),(11,.sl (List.map c26 ps)),(12,.i .i64 ((↑ps.length:Int))),(13,.i .i64 (i0)),(5,.ptr (5) (0) (0) (0)),(20,.i .i64 (min (↑ps[i0.toNat]!.vec.length:Int) (16:Int))),(21,.i .i64 (kx)),(6,.i .i64 (kx))],[(10,⟨0,155,.var (G6 101000 16)⟩)]++C3 101000 181 2 16 (c181) (T8)++[(5,⟨0,26,.var [.sl (List.map c3 v9),.sl (List.map B5 c10)]⟩)]⟩) (G:=fun kx=>⟨[(3,.ptr (10) (0) (0) (0)),(11,.sl (List.map c26 ps)),(12,.i .i64 ((↑ps.length:Int))),(13,.i .i64 (i0)),(5,.ptr (5) (0) (0) (0)),(20,.i .i64 (min (↑ps[i0.toNat]!.vec.length:Int) (16:Int))),(21,.i .i64 (kx))],[(10,⟨0,155,.var (G6 101000 16)⟩)]++C3 101000 181 2 16 (c181) (L4 T8 kx.toNat (T8 kx.toNat++[{ lo:=(1:Int),hi:=v9[kx.toNat]!:Run }]))++[(5,⟨0,26,.var [.sl (List.map c3 v9),.sl (List.map B5 c10)]⟩)]⟩) (A:=fun kx=>(0≤kx)∧(kx <(↑(16:Nat):Int))∧(0≤kx)∧((List.map c3 v9)[kx.toNat]?=some (c3 v9[kx.toNat]!))∧((c3 v9[kx.toNat]!).length=(1:Nat))∧(181=(181:Nat))∧((2:Nat)=2)∧([AV.i .i64 (0:Int),AV.i .i64 (0:Int)].length=(2:Nat))∧(∀(r:List AV),r∈List.map c181 [{ lo:=(1:Int),hi:=v9[kx.toNat]!:Run }]→r.length=2)∧((List.map c181 (T8 kx.toNat)).length+(List.map c181 [{ lo:=(1:Int),hi:=v9[kx.toNat]!:Run }]).length≤maxLen)∧(((List.map c181 (T8 kx.toNat)).length+(List.map c181 [{ lo:=(1:Int),hi:=v9[kx.toNat]!:Run }]).length)*(16:Nat)≤(140737488355328:Nat))∧(List.map c181 (T8 kx.toNat)++List.map c181 [{ lo:=(1:Int),hi:=v9[kx.toNat]!:Run }]=List.map c181 (T8 kx.toNat++[{ lo:=(1:Int),hi:=v9[kx.toNat]!:Run }]))∧(0≤kx)∧(kx <(↑(16:Nat):Int))) cx (fun kx=>[(10,{ row:=(c3 v9[kx.toNat]!) }),(14,{ rows:=some (List.map c181 (T8 kx.toNat++[{ lo:=(1:Int),hi:=v9[kx.toNat]!:Run }])) })]) [3,11,12,13,5,20,21] ([10]++List.range' 101000 16++[5]) (j7) (by(with_reducible assumption)) (by omega) (by kernel_rfl) (by kernel_rfl) ⟨(by show _=_;kernel_rfl),(by show _=_;kernel_rfl),(by show _=_;kernel_rfl),(by show _=_;kernel_rfl),(by show _=_;kernel_rfl),(by show _=_;kernel_rfl),(by show _=_;kernel_rfl),(by show _=_;kernel_rfl),(by show _=_;kernel_rfl),(by show _=_;kernel_rfl),(by show _=_;kernel_rfl),(by show _=_;kernel_rfl),(by show _=_;kernel_rfl),(by show _=_;kernel_rfl),(by show _=_;kernel_rfl),(by show _=_;kernel_rfl)⟩ ⟨(by(with_reducible assumption)),(by omega),(by(with_reducible assumption)),(by subst_vars;exact F7 (by omega)),(by kernel_rfl),(by kernel_rfl),(by kernel_rfl),(by kernel_rfl),(by(with_reducible refine O4 (fun _=>?_) _;kernel_rfl)),(by have:=A5c hh3 h6 h16 (r:=j7.toNat) (by omega) (by omega);simp only [List.length_map,List.length_cons,List.length_nil,Go.maxLen];omega),(by have:=A5c hh3 h6 h16 (r:=j7.toNat) (by omega) (by omega);simp only [List.length_map,List.length_cons,List.length_nil];omega),(by(with_reducible refine A06 ?_;kernel_rfl)),(by(with_reducible assumption)),(by omega)⟩ ?_
 refine bN<|sn<|rG cx [3,11,12,13,5,20,21] ([10]++List.range' 101000 16++[5]) (tW 0 (j7+1) z0)<|sn<|nX ((j7+1,L4 T8 j7.toNat (T8 j7.toNat++[{ lo:=(1:Int),hi:=v9[j7.toNat]!:Run }]),v9,c10)) (show(min (↑ps[i0.toNat]!.vec.length:Int) 16-(j7+1)).toNat <(min (↑ps[i0.toNat]!.vec.length:Int) 16-j7).toNat from(by omega)) (show Ao7 ps i0 (min (↑ps[i0.toNat]!.vec.length:Int) (16:Int)) (j7+1) (L4 T8 j7.toNat (T8 j7.toNat++[{ lo:=(1:Int),hi:=v9[j7.toNat]!:Run }])) v9 c10 from(by subst h12 h13;exact⟨rfl,rfl,by omega,by omega,A7w h14 (by omega) h16⟩))
 refine eX 2<|nE<|nE<|bH<|sn<|sq<|rG cx [3,11,12,13,43,44,45] ([10]++List.range' 101000 16) (tL 2 B5 c10 z0)<|sn<|bL 4<|sL (X:=Int×(Nat→List Run)) (fun x=>⟨[(3,.ptr (10) (0) (0) (0)),(11,.sl (List.map c26 ps)),(12,.i .i64 ((↑ps.length:Int))),(13,.i .i64 (i0)),(43,.sl (List.map B5 c10)),(44,.i .i64 ((↑c10.length:Int))),(45,.i .i64 (x.1))],[(10,⟨0,155,.var (G6 101000 16)⟩)]++C3 101000 181 2 16 (c181) (x.2)⟩) (fun x ↦ Bj2 ps i0 x.1 x.2) (fun x ↦ A9a ps i0 x.1 x.2) [3,11,12,13,43,44,45] ([10]++List.range' 101000 16) (((0:Int),T8)) (show A9a ps i0 (0:Int) T8 from(by exact⟨by omega,by omega,A5b h15 h17 h16⟩)) ?_
 rintro⟨j18,T19⟩ h_20
 obtain⟨h21,h22,h23⟩:0≤j18∧j18≤(↑ps[i0.toNat]!.cloud.length:Int)∧Q6 ps i0 j18 T19:=h_20
 refine rE cx [3,11,12,13,43,44,45,46] ([10]++List.range' 101000 16) (zB 0 (j18 <(↑c10.length:Int))) (fun h24=>?_) fun h24=>?_
 refine sK<|sn<|sq<|bL 5<|sq<|rG cx [3,11,12,13,43,44,45,8] ([10]++List.range' 101000 16++[8]) (fA (0≤j18) (fG B5 c10 j18.toNat (fR 3 (fN 3 3 (oR 0 (B5 c10[j18.toNat]!) z0)))))<|sn<|sq<|B3 (σ':=⟨[(3,.ptr (10) (0) (0) (0)),(11,.sl (List.map c26 ps)),(12,.i .i64 ((↑ps.length:Int))),(13,.i .i64 (i0)),(43,.sl (List.map B5 c10)),(44,.i .i64 ((↑c10.length:Int))),(45,.i .i64 (j18)),(8,.ptr (8) (0) (0) (0)),(56,.b (decide (0≤c10[j18.toNat]!.rep∧c10[j18.toNat]!.rep <(16:Int))))],[(10,⟨0,155,.var (G6 101000 16)⟩)]++C3 101000 181 2 16 (c181) (T19)++[(8,⟨0,109,.var [.i .i64 (c10[j18.toNat]!.rep),.i .i64 (c10[j18.toNat]!.lo),.i .i64 (c10[j18.toNat]!.hi)]⟩)]⟩) ?_ ?_
 refine A4 (0≤c10[j18.toNat]!.rep) (fun h_26=>?_) (fun h_26=>?_)
 refine rG cx [3,11,12,13,43,44,45,8,56] ([10]++List.range' 101000 16++[8]) (tT 2 (A3 h_26) (tB 6 (c10[j18.toNat]!.rep <(16:Int)) (tD 7 (decide (c10[j18.toNat]!.rep <(16:Int))) (0≤c10[j18.toNat]!.rep∧c10[j18.toNat]!.rep <(16:Int)) (by simp only [eq_true h_26,tsl]) z0))) ?_
 exact⟨rfl,by kernel_rfl⟩
 refine rG cx [3,11,12,13,43,44,45,8,56] ([10]++List.range' 101000 16++[8]) (tT 2 (A0 h_26) (tD 7 false (0≤c10[j18.toNat]!.rep∧c10[j18.toNat]!.rep <(16:Int)) (by simp only [eq_false h_26,tsl]) z0)) ?_
 exact⟨rfl,by kernel_rfl⟩
 refine sn<|dC (0≤c10[j18.toNat]!.rep∧c10[j18.toNat]!.rep <(16:Int)) (fun h27=>?_) fun h27=>?_
 refine A0k (F:=fun kx=>⟨[(3,.ptr (10) (0) (0) (0)),(11,.sl (List.map c26 ps)),(12,.i .i64 ((↑ps.length:Int))),(13,.i .i64 (i0)),(43,.sl (List.map B5 c10)),(44,.i .i64 ((↑c10.length:Int))),(45,.i .i64 (j18)),(8,.ptr (8) (0) (0) (0)),(56,.b (decide (0≤kx∧kx <(16:Int))))],[(10,⟨0,155,.var (G6 101000 16)⟩)]++C3 101000 181 2 16 (c181) (T19)++[(8,⟨0,109,.var [.i .i64 (kx),.i .i64 (c10[j18.toNat]!.lo),.i .i64 (c10[j18.toNat]!.hi)]⟩)]⟩) (G:=fun kx=>⟨[(3,.ptr (10) (0) (0) (0)),(11,.sl (List.map c26 ps)),(12,.i .i64 ((↑ps.length:Int))),(13,.i .i64 (i0)),(43,.sl (List.map B5 c10)),(44,.i .i64 ((↑c10.length:Int))),(45,.i .i64 (j18))],[(10,⟨0,155,.var (G6 101000 16)⟩)]++C3 101000 181 2 16 (c181) (L4 T19 kx.toNat (T19 kx.toNat++[{ lo:=c10[j18.toNat]!.lo,hi:=c10[j18.toNat]!.hi:Run }]))⟩) (A:=fun kx=>(0≤kx)∧(kx <(↑(16:Nat):Int))∧(181=(181:Nat))∧((2:Nat)=2)∧([AV.i .i64 (0:Int),AV.i .i64 (0:Int)].length=(2:Nat))∧(∀(r:List AV),r∈List.map c181 [{ lo:=c10[j18.toNat]!.lo,hi:=c10[j18.toNat]!.hi:Run }]→r.length=2)∧((List.map c181 (T19 kx.toNat)).length+(List.map c181 [{ lo:=c10[j18.toNat]!.lo,hi:=c10[j18.toNat]!.hi:Run }]).length≤maxLen)∧(((List.map c181 (T19 kx.toNat)).length+(List.map c181 [{ lo:=c10[j18.toNat]!.lo,hi:=c10[j18.toNat]!.hi:Run }]).length)*(16:Nat)≤(140737488355328:Nat))∧(List.map c181 (T19 kx.toNat)++List.map c181 [{ lo:=c10[j18.toNat]!.lo,hi:=c10[j18.toNat]!.hi:Run }]=List.map c181 (T19 kx.toNat++[{ lo:=c10[j18.toNat]!.lo,hi:=c10[j18.toNat]!.hi:Run }]))∧(0≤kx)∧(kx <(↑(16:Nat):Int))) cx (fun kx=>[(15,{ rows:=some (List.map c181 (T19 kx.toNat++[{ lo:=c10[j18.toNat]!.lo,hi:=c10[j18.toNat]!.hi:Run }])) })]) [3,11,12,13,43,44,45] ([10]++List.range' 101000 16) (c10[j18.toNat]!.rep) (by omega) (by omega) (by kernel_rfl) (by kernel_rfl) ⟨(by show _=_;kernel_rfl),(by show _=_;kernel_rfl),(by show _=_;kernel_rfl),(by show _=_;kernel_rfl),(by show _=_;kernel_rfl),(by show _=_;kernel_rfl),(by show _=_;kernel_rfl),(by show _=_;kernel_rfl),(by show _=_;kernel_rfl),(by show _=_;kernel_rfl),(by show _=_;kernel_rfl),(by show _=_;kernel_rfl),(by show _=_;kernel_rfl),(by show _=_;kernel_rfl),(by show _=_;kernel_rfl),(by show _=_;kernel_rfl)⟩ ⟨(by omega),(by omega),(by kernel_rfl),(by kernel_rfl),(by kernel_rfl),(by(with_reducible refine O4 (fun _=>?_) _;kernel_rfl)),(by subst h12 h13;have:=V9 hh3 h6 h21 h24 h23 (r:=((ps[i0.toNat]!).cloud[j18.toNat]!).rep.toNat) (by omega);simp only [List.length_map,List.length_cons,List.length_nil,Go.maxLen];omega),(by subst h12 h13;have:=V9 hh3 h6 h21 h24 h23 (r:=((ps[i0.toNat]!).cloud[j18.toNat]!).rep.toNat) (by omega);simp only [List.length_map,List.length_cons,List.length_nil];omega),(by(with_reducible refine A06 ?_;kernel_rfl)),(by omega),(by omega)⟩ ?_
 refine bN<|sn<|rG cx [3,11,12,13,43,44,45] ([10]++List.range' 101000 16) (tT 0 (B7 (by omega) (by subst h12 h13;have:=V9 hh3 h6 h21 h24 h23 (r:=0) (by omega);omega):AV.i .i64 (IntKind.i64.wrap (j18+1))=AV.i .i64 (j18+1)) z0) ?_
 refine sn<|nX ((j18+1,L4 T19 c10[j18.toNat]!.rep.toNat (T19 c10[j18.toNat]!.rep.toNat++[{ lo:=c10[j18.toNat]!.lo,hi:=c10[j18.toNat]!.hi:Run }]))) (show((↑ps[i0.toNat]!.cloud.length:Int)-(j18+1)).toNat <((↑ps[i0.toNat]!.cloud.length:Int)-j18).toNat from(by subst h12 h13;omega)) (show A9a ps i0 (j18+1) (L4 T19 c10[j18.toNat]!.rep.toNat (T19 c10[j18.toNat]!.rep.toNat++[{ lo:=c10[j18.toNat]!.lo,hi:=c10[j18.toNat]!.hi:Run }]))from(by subst h12 h13;exact⟨by omega,by omega,Au9 h21 h24 h27 h23⟩))
 refine sK<|bN<|sn<|rG cx [3,11,12,13,43,44,45] ([10]++List.range' 101000 16) (tT 0 (B7 (by omega) (by subst h12 h13;have:=V9 hh3 h6 h21 h24 h23 (r:=0) (by omega);omega):AV.i .i64 (IntKind.i64.wrap (j18+1))=AV.i .i64 (j18+1)) z0) ?_
 refine sn<|nX ((j18+1,T19)) (show((↑ps[i0.toNat]!.cloud.length:Int)-(j18+1)).toNat <((↑ps[i0.toNat]!.cloud.length:Int)-j18).toNat from(by subst h12 h13;omega)) (show A9a ps i0 (j18+1) T19 from(by subst h12 h13;exact⟨by omega,by omega,Ag0 h21 h24 h27 h23⟩))
 refine eX 4<|nE<|nE<|bH<|bN<|sn<|rG cx [3,11,12,13] ([10]++List.range' 101000 16) (tW 0 (i0+1) z0)<|sn<|nX ((i0+1,T19)) (show((↑ps.length:Int)-(i0+1)).toNat <((↑ps.length:Int)-i0).toNat from(by omega)) (show Ao6 ps (i0+1) T19 from(by subst h12 h13;exact⟨by omega,by omega,Ag1 hh3 h6 h24 h23⟩))
 refine eX 0<|nE<|nE<|bH<|sn<|sq<|S5 (List.range' 101000 16) [3,11,12,13,14] [10] (σ':=⟨[(3,.ptr (10) (0) (0) (0)),(11,.sl (List.map c26 ps)),(12,.i .i64 ((↑ps.length:Int))),(13,.i .i64 (i0)),(14,.b (decide (i0 <(↑ps.length:Int))))],[(10,⟨0,155,.var [.sl (List.map c181 (T1 (0))),.sl (List.map c181 (T1 (1))),.sl (List.map c181 (T1 (2))),.sl (List.map c181 (T1 (3))),.sl (List.map c181 (T1 (4))),.sl (List.map c181 (T1 (5))),.sl (List.map c181 (T1 (6))),.sl (List.map c181 (T1 (7))),.sl (List.map c181 (T1 (8))),.sl (List.map c181 (T1 (9))),.sl (List.map c181 (T1 (10))),.sl (List.map c181 (T1 (11))),.sl (List.map c181 (T1 (12))),.sl (List.map c181 (T1 (13))),.sl (List.map c181 (T1 (14))),.sl (List.map c181 (T1 (15)))]⟩)]⟩) (by kernel_rfl)<|I2 10 ⟨0,155,.var [.sl (List.map c181 (T1 (0))),.sl (List.map c181 (T1 (1))),.sl (List.map c181 (T1 (2))),.sl (List.map c181 (T1 (3))),.sl (List.map c181 (T1 (4))),.sl (List.map c181 (T1 (5))),.sl (List.map c181 (T1 (6))),.sl (List.map c181 (T1 (7))),.sl (List.map c181 (T1 (8))),.sl (List.map c181 (T1 (9))),.sl (List.map c181 (T1 (10))),.sl (List.map c181 (T1 (11))),.sl (List.map c181 (T1 (12))),.sl (List.map c181 (T1 (13))),.sl (List.map c181 (T1 (14))),.sl (List.map c181 (T1 (15)))]⟩ [.sl (List.map c181 (T1 (0))),.sl (List.map c181 (T1 (1))),.sl (List.map c181 (T1 (2))),.sl (List.map c181 (T1 (3))),.sl (List.map c181 (T1 (4))),.sl (List.map c181 (T1 (5))),.sl (List.map c181 (T1 (6))),.sl (List.map c181 (T1 (7))),.sl (List.map c181 (T1 (8))),.sl (List.map c181 (T1 (9))),.sl (List.map c181 (T1 (10))),.sl (List.map c181 (T1 (11))),.sl (List.map c181 (T1 (12))),.sl (List.map c181 (T1 (13))),.sl (List.map c181 (T1 (14))),.sl (List.map c181 (T1 (15)))] (E8 c181 16 T1) (σ':=⟨[(3,.ptr (10) (0) (0) (0)),(11,.sl (List.map c26 ps)),(12,.i .i64 ((↑ps.length:Int))),(13,.i .i64 (i0)),(14,.b (decide (i0 <(↑ps.length:Int))))],[(10,⟨0,155,.arr (E8 c181 16 T1)⟩)]⟩) (by kernel_rfl) (by kernel_rfl) (by kernel_rfl) (by kernel_rfl) (ZLe.of_eq (by kernel_rfl)) (by kernel_rfl)<|rG cx [2] [10] z0<|sn<|rT<|qb_ptr (cells':=(E8 c181 16 T1)) .ret (.inr rfl) 2 10 0 (by kernel_rfl) (by kernel_rfl) (by kernel_rfl) ?g16;rotate_left
 case g16 =>
  unfold E8
  refine List.map_congr_left fun r hr=>?_
  rw[h5 r (by simpa using hr),List.take_of_length_le (by omega)]
end Go.Proofs.YtokhjapfekbobaaGreat
namespace Go.Proofs.YtokhjapfekbobaaGreat
open Go.E
set_option maxRecDepth 100000
set_option maxHeartbeats 4000000
def A5(p:Past):Past:=G1 (A8 [p])
theorem Ao8(p:Past):A1k [p]=p.cloud.length+1:=by simp [A1k]
theorem B7s(p:Past)(hb:p.cloud.length*16≤140737488350000):Con Tryz.prog 80 [.agg (c26 p)] (.agg (c26 (A5 p))) :=
 by
 have h1:=Ao8 p
 have h2:=fun r=>Q7 r [p]
 refine sC A9 [.cell 2 26] 7 Tryz.func80 ?_
 intro e0 cx
 refine sq<|rG cx [1,2] [1,2] z0<|sn<|sq<|rG cx [2] [2] (fT (A5d ([p]) ?g0) (fT (Au7 (A8 [p]) ?g1) (oV 2 { val:=some (.ptr ((155:Nat)) (0) (0) (0)),row:=(E8 c181 16 (A8 [p])) } (oA 3 (.agg [.sl (List.map c3 (G1 (A8 [p])).vec),.sl (List.map B5 (G1 (A8 [p])).cloud)]) z0)))) ?_;rotate_left 2
 refine sn<|rT<|qR (.agg [.sl (List.map c3 (G1 (A8 [p])).vec),.sl (List.map B5 (G1 (A8 [p])).cloud)]) (.eq ?g2);rotate_left
 all_goals
  ( intros <;> first
  | omega
  | exact rfl
  | (have:=h2 ‹Nat›;omega))
end Go.Proofs.YtokhjapfekbobaaGreat
namespace Go.Proofs.YtokhjapfekbobaaGreat
open Go.E
set_option maxRecDepth 100000
set_option maxHeartbeats 4000000
def Ac5{α:Type}[Inhabited α](a b:List α)(i:Int):Prop:=0≤i∧i≤a.length∧a.length=b.length∧∀ j:Nat,(j:Int) < i→a[j]! = b[j]!
def Bt6{α:Type}(a b:List α)(i:Int):Nat:=(a.length-i).toNat
theorem L8{α:Type}[Inhabited α]{a b:List α}(hl:a.length=b.length)(h:∀ j:Nat,j < a.length→a[j]! = b[j]!):a=b:=by
 apply List.ext_getElem hl
 intro j h1 h2
 have:=h j h1
 rwa [getElem!_pos a j h1,getElem!_pos b j h2]at this
theorem Bc0(a b:List Int):Con Tryz.prog 119 [.sl (a.map c3),.sl (b.map c3)] (.b (decide (a=b))) :=
 by
 refine lN 0 c3 (a) Tryz.func119 fun hl_0=>lN 1 c3 (b) Tryz.func119 fun hl_1=>sC A9 [.tmp 4] 26 Tryz.func119 ?_
 intro e0 cx
 refine sq<|rG cx [0,1] [] z0<|sn<|sq<|sq<|rG cx [0,1,10] [] (tL 1 c3 a (tL 3 c3 b (tN 4 (↑a.length:Int) (↑b.length:Int) z0)))<|sn<|dC (¬(↑a.length:Int)=(↑b.length:Int)) (fun hh0=>?_) fun hh0=>?_
 refine sq<|rG cx [4] [] z0<|sn<|rT<|nR<|qR (.b (false)) (.eq (by exact(by rw[decide_eq_false (fun k=>hh0 (by rw[k]))])))
 refine sK<|sn<|sq<|sq<|rG cx [0,1,12,13] [] (tL 1 c3 a z0)<|sn<|bL 0<|sL (X:=Int) (fun x=>⟨[(0,.sl (List.map c3 a)),(1,.sl (List.map c3 b)),(12,.i .i64 ((↑a.length:Int))),(13,.i .i64 (x))],[]⟩) (fun x ↦ Bt6 a b x) (fun x ↦ Ac5 a b x) [0,1,12,13] [] ((0:Int)) (show Ac5 a b (0:Int)from(by exact⟨by omega,by omega,by omega,fun j hj=>by omega⟩)) ?_
 intro i1 h_2
 obtain⟨hh3,hh4,hh5,h6⟩:0≤i1∧i1≤(↑a.length:Int)∧a.length=b.length∧∀(j:Nat),(↑j:Int) < i1→a[j]! = b[j]!:=h_2
 refine rE cx [0,1,12,13,14] [] (zB 0 (i1 <(↑a.length:Int))) (fun h7=>?_) fun h7=>?_
 refine sK<|sn<|sq<|bL 1<|sq<|rG cx [0,1,12,13,5] [] z0<|sn<|sq<|rA cx [0,1,12,13,24] [] (fA (0≤i1) (fG c3 a i1.toNat (fR 1 (fA (0≤i1) (fG c3 b i1.toNat (fR 1 (tN 8 a[i1.toNat]! b[i1.toNat]! (oR 2 (c3 a[i1.toNat]!) (oR 6 (c3 b[i1.toNat]!) z0)))))))))<|sn<|dC (¬a[i1.toNat]! = b[i1.toNat]!) (fun h8=>?_) fun h8=>?_
 refine sq<|rG cx [4] [] z0<|sn<|rT<|bR<|nR<|nR<|bR<|nR<|qR (.b (false)) (.eq (by exact(by rw[decide_eq_false (fun k=>h8 (by rw[k]))])))
 refine sK<|bN<|sn<|rG cx [0,1,12,13] [] (tW 0 (i1+1) z0)<|sn<|nX (i1+1) (show((↑a.length:Int)-(i1+1)).toNat <((↑a.length:Int)-i1).toNat from(by omega)) (show Ac5 a b (i1+1)from ?g3);rotate_left
 refine eX 0<|nE<|nE<|bH<|sn<|sq<|rG cx [4] [] z0<|sn<|rT<|qR (.b (true)) (.eq (by exact(by rw[decide_eq_true (L8 hh5 fun j hj=>h6 j (by omega))])))
 case g3=>revert hh0 i1 hh3 hh4 hh5 h6 h7 h8;exact(fun h i h0 h1 h2 h3 h4 h5=>⟨by omega,by omega,h2,fun j hj=>by
   by_cases e:j=i.toNat
   ·rw[e];exact Classical.not_not.1 h5
   ·exact h3 j (by omega)⟩)
theorem con120(a b:List Span):Con Tryz.prog 120 [.sl (a.map B5),.sl (b.map B5)] (.b (decide (a=b))) :=
 by
 refine lN 0 B5 (a) Tryz.func120 fun hl_0=>lN 1 B5 (b) Tryz.func120 fun hl_1=>sC A9 [.tmp 4] 26 Tryz.func120 ?_
 intro e0 cx
 refine sq<|rG cx [0,1] [] z0<|sn<|sq<|sq<|rG cx [0,1,10] [] (tL 1 B5 a (tL 3 B5 b (tN 4 (↑a.length:Int) (↑b.length:Int) z0)))<|sn<|dC (¬(↑a.length:Int)=(↑b.length:Int)) (fun hh0=>?_) fun hh0=>?_
 refine sq<|rG cx [4] [] z0<|sn<|rT<|nR<|qR (.b (false)) (.eq (by exact(by rw[decide_eq_false (fun k=>hh0 (by rw[k]))])))
 refine sK<|sn<|sq<|sq<|rG cx [0,1,12,13] [] (tL 1 B5 a z0)<|sn<|bL 0<|sL (X:=Int) (fun x=>⟨[(0,.sl (List.map B5 a)),(1,.sl (List.map B5 b)),(12,.i .i64 ((↑a.length:Int))),(13,.i .i64 (x))],[]⟩) (fun x ↦ Bt6 a b x) (fun x ↦ Ac5 a b x) [0,1,12,13] [] ((0:Int)) (show Ac5 a b (0:Int)from(by exact⟨by omega,by omega,by omega,fun j hj=>by omega⟩)) ?_
 intro i1 h_2
 obtain⟨hh3,hh4,hh5,h6⟩:0≤i1∧i1≤(↑a.length:Int)∧a.length=b.length∧∀(j:Nat),(↑j:Int) < i1→a[j]! = b[j]!:=h_2
 refine rE cx [0,1,12,13,14] [] (zB 0 (i1 <(↑a.length:Int))) (fun h7=>?_) fun h7=>?_
 refine sK<|sn<|sq<|bL 1<|sq<|rG cx [0,1,12,13,5] [] z0<|sn<|sq<|rA cx [0,1,12,13,24] [] (fA (0≤i1) (fG B5 a i1.toNat (fR 3 (fN 3 3 (fA (0≤i1) (fG B5 b i1.toNat (fR 3 (fN 3 3 (fT (V5 (eq109 a[i1.toNat]! b[i1.toNat]!)) (oR 2 (B5 a[i1.toNat]!) (oR 6 (B5 b[i1.toNat]!) (oA 8 (.b (decide ¬a[i1.toNat]! = b[i1.toNat]!)) z0))))))))))))<|sn<|dC (¬a[i1.toNat]! = b[i1.toNat]!) (fun h8=>?_) fun h8=>?_
 refine sq<|rG cx [4] [] z0<|sn<|rT<|bR<|nR<|nR<|bR<|nR<|qR (.b (false)) (.eq (by exact(by rw[decide_eq_false (fun k=>h8 (by rw[k]))])))
 refine sK<|bN<|sn<|rG cx [0,1,12,13] [] (tW 0 (i1+1) z0)<|sn<|nX (i1+1) (show((↑a.length:Int)-(i1+1)).toNat <((↑a.length:Int)-i1).toNat from(by omega)) (show Ac5 a b (i1+1)from ?g3);rotate_left
 refine eX 0<|nE<|nE<|bH<|sn<|sq<|rG cx [4] [] z0<|sn<|rT<|qR (.b (true)) (.eq (by exact(by rw[decide_eq_true (L8 hh5 fun j hj=>h6 j (by omega))])))
 case g3=>revert hh0 i1 hh3 hh4 hh5 h6 h7 h8;exact(fun h i h0 h1 h2 h3 h4 h5=>⟨by omega,by omega,h2,fun j hj=>by
   by_cases e:j=i.toNat
   ·rw[e];exact Classical.not_not.1 h5
   ·exact h3 j (by omega)⟩)
theorem Ag2(p:Past)(hb:p.cloud.length*16≤140737488350000):Con Tryz.prog 67 [.agg (c26 p)] (.b (decide (p=A5 p))) :=
 by
 refine sC A9 [.tmp 2] 18 Tryz.func67 ?_
 intro e0 cx
 refine sq<|rG cx [1] [1] z0<|sn<|sq<|rG cx [1,3] [1,3] (fT (B7s (p) (by(with_reducible assumption))) (oA 1 (.agg [.sl (List.map c3 (A5 p).vec),.sl (List.map B5 (A5 p).cloud)]) z0))<|sn<|sq<|B3 (σ':=⟨[(2,.b (decide (p.vec=(A5 p).vec∧p.cloud=(A5 p).cloud)))],[]⟩) ?_ ?_
 refine A4 (p.vec=(A5 p).vec) (fun h_1=>?_) (fun h_1=>?_)
 refine rg (A:=_∧_∧_∧(AV.b (decide (p.cloud=(A5 p).cloud))=AV.b (decide (p.vec=(A5 p).vec∧p.cloud=(A5 p).cloud)))) cx [(4,{ val:=some (.b (decide (p.vec=(A5 p).vec))),tell:=some (.b (true)) }),(10,{ val:=some (.b (decide (p.cloud=(A5 p).cloud))) }),(12,{ tell:=some (.b (decide (p.vec=(A5 p).vec∧p.cloud=(A5 p).cloud))) })] [2] [] ⟨(A3 h_1),(Bc0 (p.vec) ((A5 p).vec)),(con120 (p.cloud) ((A5 p).cloud)),(by simp only [eq_true h_1,tsl])⟩ ?_
 exact⟨rfl,by kernel_rfl⟩
 refine rg (A:=_∧_∧(AV.b false=AV.b (decide (p.vec=(A5 p).vec∧p.cloud=(A5 p).cloud)))) cx [(4,{ val:=some (.b (decide (p.vec=(A5 p).vec))),tell:=some (.b (false)) }),(12,{ tell:=some (.b (decide (p.vec=(A5 p).vec∧p.cloud=(A5 p).cloud))) })] [2] [] ⟨(A0 h_1),(Bc0 (p.vec) ((A5 p).vec)),(by simp only [eq_false h_1,tsl])⟩ ?_
 exact⟨rfl,by kernel_rfl⟩
 refine sn<|rT<|qR (.b (decide (p.vec=(A5 p).vec∧p.cloud=(A5 p).cloud))) (.eq ?g0);rotate_left
 case' g0=>refine(by
  congr 1
  refine decide_eq_decide.2 ?_
  generalize A5 p=q
  cases p;cases q;simp)
end Go.Proofs.YtokhjapfekbobaaGreat
namespace Go.Proofs.YtokhjapfekbobaaGreat
open Go.E
set_option maxRecDepth 100000
set_option maxHeartbeats 4000000
def A75(s:Span)(d:Dot):Bool:=decide (s.rep=d.rep∧s.lo≤d.num∧d.num≤s.hi)
def Av0(c:List Span)(d:Dot):Int:=if c.any (fun s=>A75 s d)=true then(c.findIdx (fun s=>A75 s d):Int)else -1
def invI(c:List Span)(d:Dot)(i:Int):Prop:=0≤i∧i≤c.length∧∀ j:Nat,(j:Int) < i→A75 c[j]! d=false
def decI(c:List Span)(d:Dot)(i:Int):Nat:=(c.length-i).toNat
def D0(p:Past)(d:Dot):Bool:=M3 d && (decide (d.rep < p.vec.length∧d.num≤p.vec[d.rep.toNat]!) || p.cloud.any fun s=>A75 s d)
theorem idx_at{c:List Span}{d:Dot}:∀ {i:Nat},i < c.length→A75 c[i]! d=true→(∀ j:Nat,j < i→A75 c[j]! d=false)→Av0 c d=i:=by
 intro i hi h hn
 have hany:c.any (fun s=>A75 s d)=true:=List.any_eq_true.2 ⟨c[i]!,E2 hi,h⟩
 unfold Av0
 rw[if_pos hany]
 have:c.findIdx (fun s=>A75 s d)=i:=by
  rw[List.findIdx_eq hi]
  refine⟨by rwa [getElem!_pos c i hi]at h,fun j hj=>?_⟩
  have:=hn j hj
  rwa [getElem!_pos c j (by omega)]at this
 rw[this]
theorem Bc1{c:List Span}{d:Dot}(h:∀ j:Nat,j < c.length→A75 c[j]! d=false):Av0 c d=-1:=by
 unfold Av0
 rw[if_neg]
 intro k
 obtain⟨x,hx,hk⟩:=List.any_eq_true.1 k
 obtain⟨j,hj,rfl⟩:=List.mem_iff_getElem.1 hx
 have:=h j hj
 rw[getElem!_pos c j hj]at this
 rw[this]at hk
 cases hk
theorem B3a(c:List Span)(d:Dot):decide (0≤Av0 c d)=c.any fun s=>A75 s d:=by
 unfold Av0
 cases h:c.any fun s=>A75 s d with
 | true=>rw[if_pos rfl];simp
 | false=>rw[if_neg (by simp)];rfl
theorem con76(s:Span)(d:Dot):Con Tryz.prog 76 [.agg (B5 s),.eptr (c65 d)] (.b (A75 s d)) :=
 by
 refine sC A9 [.tmp 3] 23 Tryz.func76 ?_
 intro e0 cx
 refine sq<|rG cx [1,2] [2] z0<|sn<|sq<|B3 (σ':=⟨[(3,.b (decide (s.rep=d.rep∧s.lo≤d.num∧d.num≤s.hi)))],[]⟩) ?_ ?_
 refine A4 (s.rep=d.rep) (fun h_1=>?_) (fun h_1=>?_)
 refine A4 (s.lo≤d.num) (fun h_2=>?_) (fun h_2=>?_)
 refine rG cx [3] [] (tT 4 (A3 h_1) (tT 10 (A3 h_2) (tB 17 (d.num≤s.hi) (tD 19 (decide (d.num≤s.hi)) (s.rep=d.rep∧s.lo≤d.num∧d.num≤s.hi) (by simp only [eq_true h_1,eq_true h_2,tsl]) z0)))) ?_
 exact⟨rfl,by kernel_rfl⟩
 refine rG cx [3] [] (tT 4 (A3 h_1) (tT 10 (A0 h_2) (tD 19 false (s.rep=d.rep∧s.lo≤d.num∧d.num≤s.hi) (by simp only [eq_true h_1,eq_false h_2,tsl]) z0))) ?_
 exact⟨rfl,by kernel_rfl⟩
 refine rG cx [3] [] (tT 4 (A0 h_1) (tD 19 false (s.rep=d.rep∧s.lo≤d.num∧d.num≤s.hi) (by simp only [eq_false h_1,tsl]) z0)) ?_
 exact⟨rfl,by kernel_rfl⟩
 refine sn<|rT<|qR (.b (decide (s.rep=d.rep∧s.lo≤d.num∧d.num≤s.hi))) (.eq ?g0);rotate_left
 case g0=>exact rfl
theorem con128(c:List Span)(d:Dot):Con Tryz.prog 128 [.sl (c.map B5),.fn (.func 76) [] [.eptr (c65 d)]] (.i .i64 (Av0 c d)) :=
 by
 refine lN 0 B5 (c) Tryz.func128 fun hl_0=>sC A9 [.tmp 4] 19 Tryz.func128 ?_
 intro e0 cx
 refine sq<|rG cx [0,1] [] z0<|sn<|sq<|sq<|rG cx [0,1,7,8] [] (tL 1 B5 c z0)<|sn<|bL 0<|sL (X:=Int) (fun x=>⟨[(0,.sl (List.map B5 c)),(1,.fn (Fn.func (76:FuncId)) [] [.eptr [.i .i64 (d.rep),.i .i64 (d.num)]]),(7,.i .i64 ((↑c.length:Int))),(8,.i .i64 (x))],[]⟩) (fun x ↦ decI c d x) (fun x ↦ invI c d x) [0,1,7,8] [] ((0:Int)) (show invI c d (0:Int)from(by exact⟨by omega,by omega,fun j hj=>by omega⟩)) ?_
 intro i0 h_1
 obtain⟨hh2,hh3,hh4⟩:0≤i0∧i0≤(↑c.length:Int)∧∀(j:Nat),(↑j:Int) < i0→A75 c[j]! d=false:=h_1
 refine rE cx [0,1,7,8,9] [] (zB 0 (i0 <(↑c.length:Int))) (fun h5=>?_) fun h5=>?_
 refine sK<|sn<|sq<|bL 1<|sq<|rG cx [0,1,7,8,5] [] z0<|sn<|sq<|rG cx [0,1,7,8,5,16] [] (fA (0≤i0) (fG B5 c i0.toNat (fR 3 (fN 3 3 (fT (con76 (c[i0.toNat]!) (d)) (oR 3 (B5 c[i0.toNat]!) (oA 5 (.b (A75 c[i0.toNat]! d)) z0)))))))<|sn<|X5 (A75 c[i0.toNat]! d) (by kernel_rfl) (by kernel_rfl) (fun h6=>?_) (fun h6=>?_)
 refine sq<|rG cx [4] [] z0<|sn<|rT<|bR<|nR<|nR<|bR<|nR<|qR (.i .i64 (i0)) (.eq ?g1);rotate_left
 refine sK<|bN<|sn<|rG cx [0,1,7,8] [] (tW 0 (i0+1) z0)<|sn<|nX (i0+1) (show((↑c.length:Int)-(i0+1)).toNat <((↑c.length:Int)-i0).toNat from(by omega)) (show invI c d (i0+1)from ?g2);rotate_left
 refine eX 0<|nE<|nE<|bH<|sn<|sq<|rG cx [4] [] z0<|sn<|rT<|qR (.i .i64 ((-1:Int))) (.eq (by exact(by rw[Bc1 fun j hj=>hh4 j (by omega)])))
 case g1=>revert i0 hh2 hh3 hh4 h5 h6;exact(fun i h0 h1 h2 h3 h4=>by rw[idx_at (i:=i.toNat) (by omega) h4 (fun j hj=>h2 j (by omega)),show((i.toNat:Nat):Int)=i by omega])
 case g2=>revert i0 hh2 hh3 hh4 h5 h6;exact(fun i h0 h1 h2 h3 h4=>⟨by omega,by omega,fun j hj=>by
   by_cases e:j=i.toNat
   ·rw[e];exact h4
   ·exact h2 j (by omega)⟩)
theorem con75(c:List Span)(d:Dot):Con Tryz.prog 75 [.sl (c.map B5),.fn (.func 76) [] [.eptr (c65 d)]] (.b (decide (0≤Av0 c d))) :=
 by
 refine lN 0 B5 (c) Tryz.func75 fun hl_0=>sC A9 [.tmp 4] 9 Tryz.func75 ?_
 intro e0 cx
 refine sq<|rG cx [0,1] [] z0<|sn<|sq<|rG cx [4] [] (fT (con128 (c) (d)) (tB 3 (0≤Av0 c d) (oA 2 (.i .i64 (Av0 c d)) z0)))<|sn<|rT ?_
 exact A43 (r:=.b (decide (0≤Av0 c d))) (obl:=[]) (by kernel_rfl) trivial (B9.refl _)
theorem Bj3(p:Past)(d:Dot):Con Tryz.prog 29 [.agg (c26 p),.agg (c65 d)] (.b (D0 p d)) :=
 by
 refine sC A9 [.tmp 4] 29 Tryz.func29 ?_
 intro e0 cx
 refine sq<|rG cx [2,3] [2,3] z0<|sn<|sq<|sq<|rG cx [2,3,7] [2,3] (fT (con74 (d)) (tT 2 (C9:(AV.b !M3 d)=AV.b (decide ¬M3 d=true)) (oA 1 (.b (M3 d)) z0)))<|sn<|dC (¬M3 d=true) (fun h0=>?_) fun h0=>?_
 refine sq<|rG cx [4] [] z0<|sn<|rT<|nR<|qR (.b (false)) (.eq (by unfold D0;rw[Bool.eq_false_iff.2 h0];rfl))
 refine sK<|sn<|sq<|sq<|B3 (σ':=⟨[(2,.ptr (2) (0) (0) (0)),(3,.ptr (3) (0) (0) (0)),(24,.b (decide (d.rep <(↑p.vec.length:Int)∧d.num≤p.vec[d.rep.toNat]!)))],[(2,⟨0,26,.var [.sl (List.map c3 p.vec),.sl (List.map B5 p.cloud)]⟩),(3,⟨0,65,.var [.i .i64 (d.rep),.i .i64 (d.num)]⟩)]⟩) ?_ ?_
 refine A4 (d.rep <(↑p.vec.length:Int)) (fun h2=>?_) (fun h2=>?_)
 refine rA cx [2,3,24] [2,3] (tL 4 c3 p.vec (tT 5 (A3 h2) (fP (0≤d.rep) (by exact(H4 (Classical.not_not.1 h0)).1) (fP ((List.map c3 p.vec)[d.rep.toNat]?=some (c3 p.vec[d.rep.toNat]!)) (by have:=(H4 (Classical.not_not.1 h0)).1;exact F7 (by omega)) (fR 1 (tB 15 (d.num≤p.vec[d.rep.toNat]!) (tD 16 (decide (d.num≤p.vec[d.rep.toNat]!)) (d.rep <(↑p.vec.length:Int)∧d.num≤p.vec[d.rep.toNat]!) (by simp only [eq_true h2,tsl]) (oR 13 (c3 p.vec[d.rep.toNat]!) z0)))))))) ?_
 exact⟨rfl,by kernel_rfl⟩
 refine rA cx [2,3,24] [2,3] (tL 4 c3 p.vec (tT 5 (A0 h2) (tD 16 false (d.rep <(↑p.vec.length:Int)∧d.num≤p.vec[d.rep.toNat]!) (by simp only [eq_false h2,tsl]) z0))) ?_
 exact⟨rfl,by kernel_rfl⟩
 refine sn<|dC (d.rep <(↑p.vec.length:Int)∧d.num≤p.vec[d.rep.toNat]!) (fun h3=>?_) fun h3=>?_
 refine sq<|rG cx [4] [] z0<|sn<|rT<|nR<|qR (.b (true)) (.eq (by unfold D0;rw[Classical.not_not.1 h0,decide_eq_true h3];rfl))
 refine sK<|sn<|sq<|rG cx [4] [] (fP (Flat (AV.b (decide (0≤Av0 p.cloud d)))) (by exact Flat.b _) (fT (con75 (p.cloud) (d)) (oV 3 { val:=some (.b (decide (0≤Av0 p.cloud d))),flat:=true } z0)))<|sn<|rT<|qR (.b (decide (0≤Av0 p.cloud d))) (.eq (by unfold D0;rw[Classical.not_not.1 h0,decide_eq_false h3,B3a];simp))
end Go.Proofs.YtokhjapfekbobaaGreat
namespace Go.Proofs.YtokhjapfekbobaaGreat
open Go.E
set_option maxRecDepth 100000
set_option maxHeartbeats 4000000
def E4(T:Nat→List Run)(r:Nat):List Run:=nrm (T r)
theorem P6(r:Run)(R:List Run)(n:Int):inR (r :: R) n↔(r.lo≤n∧n≤r.hi)∨inR R n:=by simp [inR]
theorem A5e{l:List Run}(h:N7 l):nrm l=l:=by
 refine V7 (F1 l) h fun n=>?_
 rw[Z6]
 constructor
 ·exact fun k=>k.2.2
 ·rintro⟨r,hr,h1,h2⟩
  have:=h.2 r hr
  exact⟨by omega,by omega,r,hr,h1,h2⟩
theorem A2a:C1 []=(0,[]):=rfl
theorem A5f(l:List Run):nrm (nrm l)=nrm l:=A5e (F1 l)
theorem A9b(T:Nat→List Run):G1 (E4 T)=G1 T:=by
 have h1:∀ r,A12 (E4 T) r=A12 T r:=fun r=>by unfold A12 E4;rw[A5f]
 have h2:∀ r,X8 (E4 T) r=X8 T r:=fun r=>by unfold X8 E4;rw[A5f]
 have h3:∀ n,szT (E4 T) n=szT T n:=fun n=>by
  induction n with
  | zero=>rfl
  | succ n ih=>rw[szT,szT,h1,ih]
 have h4:∀ n,I9 (E4 T) n=I9 T n:=fun n=>by
  induction n with
  | zero=>rfl
  | succ n ih=>rw[I9,I9,h2,ih]
 have h5:A7r (E4 T) 16=A7r T 16:=by
  unfold A7r
  congr 1
  exact List.map_congr_left fun r _=>h1 r
 unfold G1
 rw[h3,h4,h5]
theorem A9c(T:Nat→List Run):∀ r:Nat,r < 16→N7 (E4 T r):=fun r _=>F1 _
theorem Bj4 {l : List Run} (h : N7 l) {n : Int} (hn : 1 ≤ n) : inR l n ↔ n ≤ (C1 l).1 ∨ inR (C1 l).2 n := by
  cases l with
  | nil => rw [A2a]; simp only [inR]; constructor
           · rintro⟨r,hr,_⟩;cases hr
           · rintro (k | ⟨r, hr, _⟩)
             · omega
             · cases hr
  | cons x l =>
    rw[P6]
    unfold C1
    by_cases hx:x.lo=1
    · rw [if_neg (by simpa using hx)]
      show _↔n≤x.hi∨inR l n
      constructor
      · rintro (k | k)
        · exact .inl k.2
        · exact .inr k
      · rintro (k | k)
        · exact .inl ⟨by omega,k⟩
        · exact .inr k
    · rw [if_pos (.inr (by simpa using hx))]
      show _↔n≤0∨inR (x :: l) n
      rw[P6]
      constructor
      · exact fun k=>.inr k
      · rintro (k | k)
        · omega
        · exact k
theorem A5g(T:Nat→List Run):∀ n:Nat,0≤szT T n∧szT T n≤n∧∀ r:Nat,r < n→szT T n≤r→¬ 0 < A12 T r
 | 0=>⟨by simp [szT],by simp [szT],fun r hr=>by omega⟩
 | n+1=>by
  obtain⟨h1,h2,h3⟩:=A5g T n
  rw[szT]
  split
  ·exact⟨by omega,by omega,fun r hr k=>by omega⟩
  ·rename_i hn
   refine⟨h1,by omega,fun r hr k=>?_⟩
   by_cases e:r=n
   ·rw[e];exact hn
   ·exact h3 r (by omega) k
theorem A5h(T:Nat→List Run)(s:Span):∀ n:Nat,s∈I9 T n↔∃ r:Nat,r < n∧s∈X8 T r
 | 0=>by simp [I9]
 | n+1=>by
  rw[I9,List.mem_append,A5h T s n]
  constructor
  ·rintro(⟨r,h1,h2⟩ | h)
   ·exact⟨r,by omega,h2⟩
   ·exact⟨n,by omega,h⟩
  ·rintro⟨r,h1,h2⟩
   by_cases e:r=n
   ·exact .inr (e ▸ h2)
   ·exact .inl ⟨r,by omega,h2⟩
theorem B3b(T:Nat→List Run){r:Nat}(h:(r:Int) < szT T 16):(G1 T).vec[r]! = A12 T r∧r <(G1 T).vec.length:=by
 have h2:=(A5g T 16).2.1
 have hl:(A7r T 16).length=16:=by simp [A7r]
 have hr:r <((A7r T 16).take (szT T 16).toNat).length:=by rw[List.length_take,hl];omega
 refine⟨?_,hr⟩
 show((A7r T 16).take (szT T 16).toNat)[r]! = _
 rw[getElem!_pos ((A7r T 16).take (szT T 16).toNat) r hr,List.getElem_take]
 unfold A7r
 rw[List.getElem_append_left (by simp;omega)]
 simp
theorem Ao9(T:Nat→List Run):((G1 T).vec.length:Int)=szT T 16:=by
 have h2:=A5g T 16
 show(((A7r T 16).take (szT T 16).toNat).length:Int)=_
 rw[List.length_take]
 simp [A7r]
 omega
theorem Q8(T:Nat→List Run)(d:Dot):D0 (G1 T) d=true↔M3 d=true∧inR (T d.rep.toNat) d.num:=by
 unfold D0
 rw[Bool.and_eq_true]
 refine and_congr_right fun hd=>?_
 have hb:=H4 hd
 have e1:inR (T d.rep.toNat) d.num↔inR (nrm (T d.rep.toNat)) d.num:=by
  rw[Z6]
  exact⟨fun k=>⟨by omega,by omega,k⟩,fun k=>k.2.2⟩
 rw[e1,Bj4 (F1 _) (by omega),Bool.or_eq_true,decide_eq_true_eq]
 refine or_congr ?_ ?_
 ·rw[Ao9]
  constructor
  ·rintro⟨h1,h2⟩
   have:=(B3b T (r:=d.rep.toNat) (by omega)).1
   rw[this]at h2
   exact h2
  ·intro k
   have k:d.num≤A12 T d.rep.toNat:=k
   have h1:d.rep < szT T 16:=by
    apply Classical.byContradiction
    intro hn
    have:=(A5g T 16).2.2 d.rep.toNat (by omega) (by omega)
    omega
   refine⟨h1,?_⟩
   rw[(B3b T (r:=d.rep.toNat) (by omega)).1]
   exact k
 ·rw[List.any_eq_true]
  unfold A75
  constructor
  ·rintro⟨s,hs,h⟩
   rw[decide_eq_true_eq]at h
   obtain⟨r,hr,hs⟩:=(A5h T s 16).1 hs
   unfold X8 at hs
   obtain⟨x,hx,rfl⟩:=List.mem_map.1 hs
   simp only at h
   have:r=d.rep.toNat:=by omega
   subst this
   exact⟨x,hx,h.2.1,h.2.2⟩
  ·rintro⟨x,hx,h1,h2⟩
   refine⟨⟨d.rep.toNat,x.lo,x.hi⟩,(A5h T _ 16).2 ⟨d.rep.toNat,by omega,List.mem_map.2 ⟨x,hx,rfl⟩⟩,?_⟩
   rw[decide_eq_true_eq]
   exact⟨by show((d.rep.toNat:Nat):Int)=d.rep;omega,h1,h2⟩
theorem A9d(a b:List Run)(n:Int):inR (a++b) n↔inR a n∨inR b n:=by
 unfold inR
 constructor
 ·rintro⟨y,hy,h⟩
  rcases List.mem_append.1 hy with hy | hy
  ·exact .inl ⟨y,hy,h⟩
  ·exact .inr ⟨y,hy,h⟩
 ·rintro(⟨y,hy,h⟩ | ⟨y,hy,h⟩)
  ·exact⟨y,List.mem_append.2 (.inl hy),h⟩
  ·exact⟨y,List.mem_append.2 (.inr hy),h⟩
theorem Bj5{p:Past}{d:Dot}(hd:M3 d=true):inR (B0q p.vec d.rep.toNat) d.num↔(d.rep < p.vec.length∧d.num≤p.vec[d.rep.toNat]!):=by
 have hb:=H4 hd
 unfold B0q inR
 split
 ·simp only [List.mem_singleton,exists_eq_left]
  constructor
  ·exact fun k=>⟨by omega,k.2⟩
  ·exact fun k=>⟨by omega,k.2⟩
 ·constructor
  ·rintro⟨r,hr,_⟩;cases hr
  ·rintro⟨h,_⟩;omega
theorem B3c{p:Past}{d:Dot}(hd:M3 d=true):inR (T0 p.cloud d.rep.toNat) d.num↔(p.cloud.any fun s=>A75 s d)=true:=by
 have hb:=H4 hd
 rw[List.any_eq_true]
 unfold inR T0 A75
 constructor
 ·rintro⟨x,hx,h1,h2⟩
  obtain⟨s,hs,rfl⟩:=List.mem_map.1 hx
  obtain⟨hs,hq⟩:=List.mem_filter.1 hs
  rw[decide_eq_true_eq]at hq
  exact⟨s,hs,by rw[decide_eq_true_eq];exact⟨by omega,h1,h2⟩⟩
 ·rintro⟨s,hs,h⟩
  rw[decide_eq_true_eq]at h
  exact⟨⟨s.lo,s.hi⟩,List.mem_map.2 ⟨s,List.mem_filter.2 ⟨hs,by rw[decide_eq_true_eq];omega⟩,rfl⟩,h.2.1,h.2.2⟩
theorem Bc2(p:Past)(d:Dot):D0 p d=true↔M3 d=true∧(inR (B0q p.vec d.rep.toNat) d.num∨inR (T0 p.cloud d.rep.toNat) d.num):=by
 unfold D0
 rw[Bool.and_eq_true]
 refine and_congr_right fun hd=>?_
 rw[Bj5 hd,B3c hd,Bool.or_eq_true,decide_eq_true_eq]
theorem Av1(ps:List Past)(d:Dot):D0 (G1 (A8 ps)) d=true↔∃ p∈ps,D0 p d=true:=by
 rw[Q8]
 have e:inR (A8 ps d.rep.toNat) d.num↔∃ p∈ps,inR (B0q p.vec d.rep.toNat++T0 p.cloud d.rep.toNat) d.num:=by
  unfold inR A8
  constructor
  ·rintro⟨r,hr,h⟩
   obtain⟨l,hl,hr⟩:=List.mem_flatten.1 hr
   obtain⟨p,hp,rfl⟩:=List.mem_map.1 hl
   exact⟨p,hp,r,hr,h⟩
  ·rintro⟨p,hp,r,hr,h⟩
   exact⟨r,List.mem_flatten.2 ⟨_,List.mem_map.2 ⟨p,hp,rfl⟩,hr⟩,h⟩
 rw[e]
 constructor
 ·rintro⟨hd,p,hp,h⟩
  rw[A9d]at h
  exact⟨p,hp,(Bc2 p d).2 ⟨hd,h⟩⟩
 ·rintro⟨p,hp,h⟩
  have:=(Bc2 p d).1 h
  exact⟨this.1,p,hp,(A9d _ _ _).2 this.2⟩
theorem Y0(p:Past)(d:Dot):D0 (A5 p) d=D0 p d:=by
 rw[Bool.eq_iff_iff]
 unfold A5
 rw[Av1]
 simp
theorem has_of(ds:List Dot)(d:Dot):D0 (G1 (ofT ds)) d=true↔M3 d=true∧d∈ds:=by
 rw[Q8]
 refine and_congr_right fun hd=>?_
 have hb:=H4 hd
 unfold inR ofT
 constructor
 ·rintro⟨x,hx,h1,h2⟩
  obtain⟨y,hy,rfl⟩:=List.mem_map.1 hx
  obtain⟨hy,hq⟩:=List.mem_filter.1 hy
  rw[Bool.and_eq_true,decide_eq_true_eq]at hq
  simp only at h1 h2
  have:y=d:=by
   cases y;cases d
   simp only at *
   congr 1
   ·omega
   ·omega
  exact this ▸ hy
 ·intro h
  exact⟨⟨d.num,d.num⟩,List.mem_map.2 ⟨d,List.mem_filter.2 ⟨h,by rw[Bool.and_eq_true,decide_eq_true_eq];exact⟨hd,by omega⟩⟩,rfl⟩,Int.le_refl _,Int.le_refl _⟩
theorem B3d{T U:Nat→List Run}(h:∀ d,D0 (G1 T) d=true↔D0 (G1 U) d=true):G1 T=G1 U:=by
 rw[← A9b T,← A9b U]
 refine V8 fun r hr=>?_
 refine V7 (F1 _) (F1 _) fun n=>?_
 show inR (nrm _) n↔inR (nrm _) n
 rw[Z6,Z6]
 refine and_congr_right fun n0=>and_congr_right fun n1=>?_
 have hd:M3 ⟨r,n⟩=true:=by unfold M3;rw[decide_eq_true_eq];simp only;omega
 have:=h ⟨r,n⟩
 rw[Q8,Q8]at this
 simp only [hd,true_and]at this
 exact this
theorem A4i(T:Nat→List Run):A5 (G1 T)=G1 T:=B3d fun d=>by
 have:=Y0 (G1 T) d
 unfold A5 at this
 rw[this]
theorem A9e{p q:Past}(hp:p=A5 p)(hq:q=A5 q)(h:∀ d,D0 p d=D0 q d):p=q:=by
 rw[hp,hq]
 refine B3d fun d=>?_
 have h1:=Y0 p d
 have h2:=Y0 q d
 unfold A5 at h1 h2
 rw[h1,h2,h d]
theorem B3e(p:Past):A5 (A5 p)=A5 p:=A4i _
theorem N3(T:Nat→List Run):(G1 T).cloud.length≤8000000000∧(G1 T).vec.length≤16:=by
 have h1:=A29 T 16
 have h2:=Ao9 T
 have h3:=(A5g T 16).2.1
 exact⟨by show(I9 T 16).length≤_;omega,by omega⟩
end Go.Proofs.YtokhjapfekbobaaGreat
namespace Go.Proofs.YtokhjapfekbobaaGreat
open Go.E
set_option maxRecDepth 100000
set_option maxHeartbeats 4000000
def T9:List Run→List Run→List Run
 | x :: a,y :: b=>(if max x.lo y.lo≤min x.hi y.hi then[⟨max x.lo y.lo,min x.hi y.hi⟩]else[])++(if x.hi < y.hi then T9 a (y :: b)else T9 (x :: a) b)
 | _,_=>[]
termination_by a b=>a.length+b.length
theorem N8(b:List Run):T9 [] b=[]:=by unfold T9;rfl
theorem A0o(a:List Run):T9 a []=[]:=by unfold T9;cases a <;> rfl
theorem A0p(x y:Run)(a b:List Run):T9 (x :: a) (y :: b)=(if max x.lo y.lo≤min x.hi y.hi then[⟨max x.lo y.lo,min x.hi y.hi⟩]else[])++(if x.hi < y.hi then T9 a (y :: b)else T9 (x :: a) b):=by rw[T9]
def A45:Int→List Run→List Run
 | n,[]=>if n≤1000000000 then[⟨n,1000000000⟩]else[]
 | n,r :: l=>(if n < r.lo then[⟨n,r.lo-1⟩]else[])++A45 (r.hi+1) l
def Y1(a b:List Run):List Run:=T9 (nrm a) (nrm (A45 1 (nrm b)))
def metR(a b:List Run):List Run:=T9 (nrm a) (nrm b)
theorem H9{x:Run}{a:List Run}(h:N7 (x :: a)):N7 a:=⟨(List.pairwise_cons.1 h.1).2,fun r hr=>h.2 r (by simp [hr])⟩
theorem A9f{x:Run}{a:List Run}(h:N7 (x :: a)){n:Int}(k:inR a n):x.hi+1 < n:=by
 obtain⟨r,hr,h1,_⟩:=k
 have:=(List.pairwise_cons.1 h.1).1 r hr
 omega
theorem B3f(c:Prop)[Decidable c](r:Run)(n:Int):inR (if c then[r]else[]) n↔c∧r.lo≤n∧n≤r.hi:=by
 split <;> simp [inR, *]
theorem B7t:∀(k:Nat) (a b:List Run),a.length+b.length≤k→N7 a→N7 b→∀ n,inR (T9 a b) n↔inR a n∧inR b n:=by
 intro k
 induction k with
 | zero =>
  intro a b hk _ _ n
  have:a=[]:=List.eq_nil_of_length_eq_zero (by omega)
  subst this
  rw[N8]
  simp [inR]
 | succ k ih =>
  intro a b hk ha hb n
  cases a with
  | nil=>rw[N8];simp [inR]
  | cons x a =>
   cases b with
   | nil=>rw[A0o];simp [inR]
   | cons y b =>
    have hx:=ha.2 x (by simp)
    have hy:=hb.2 y (by simp)
    have la:inR a n→x.hi+1 < n:=A9f ha
    have lb:inR b n→y.hi+1 < n:=A9f hb
    simp only [List.length_cons]at hk
    rw[A0p,A9d,B3f]
    split
    ·rw[ih a (y :: b) (by simp only [List.length_cons];omega) (H9 ha) hb n,P6,P6]
     simp only
     constructor
     ·rintro(h | ⟨h1,h2⟩)
      ·exact⟨.inl (by omega),.inl (by omega)⟩
      ·exact⟨.inr h1,h2⟩
     ·rintro⟨h1 | h1,h2 | h2⟩
      ·exact .inl (by omega)
      ·have:=lb h2;omega
      ·exact .inr ⟨h1,.inl h2⟩
      ·exact .inr ⟨h1,.inr h2⟩
    ·rw[ih (x :: a) b (by simp only [List.length_cons];omega) ha (H9 hb) n,P6,P6]
     simp only
     constructor
     ·rintro(h | ⟨h1,h2⟩)
      ·exact⟨.inl (by omega),.inl (by omega)⟩
      ·exact⟨h1,.inr h2⟩
     ·rintro⟨h1 | h1,h2 | h2⟩
      ·exact .inl (by omega)
      ·exact .inr ⟨.inl h1,h2⟩
      ·have:=la h1;omega
      ·exact .inr ⟨.inr h1,h2⟩
theorem Ag3:∀(k:Nat) (a b:List Run),a.length+b.length≤k→∀ r∈T9 a b,r.lo≤r.hi∧(∃ x∈a,x.lo≤r.lo∧r.hi≤x.hi)∧∃ y∈b,y.lo≤r.lo∧r.hi≤y.hi:=by
 intro k
 induction k with
 | zero =>
  intro a b hk r hr
  have:a=[]:=List.eq_nil_of_length_eq_zero (by omega)
  subst this
  rw[N8]at hr
  cases hr
 | succ k ih =>
  intro a b hk r hr
  cases a with
  | nil=>rw[N8]at hr;cases hr
  | cons x a =>
   cases b with
   | nil=>rw[A0o]at hr;cases hr
   | cons y b =>
    simp only [List.length_cons]at hk
    rw[A0p]at hr
    rcases List.mem_append.1 hr with hr | hr
    ·split at hr
     ·have:r=⟨max x.lo y.lo,min x.hi y.hi⟩:=by simpa using hr
      subst this
      exact⟨by simp only;omega,⟨x,by simp,by simp only;omega,by simp only;omega⟩,⟨y,by simp,by simp only;omega,by simp only;omega⟩⟩
     ·cases hr
    ·split at hr
     ·obtain⟨h0,⟨x',hx,h1⟩,h2⟩:=ih a (y :: b) (by simp only [List.length_cons];omega) r hr
      exact⟨h0,⟨x',by simp [hx],h1⟩,h2⟩
     ·obtain⟨h0,h1,⟨y',hy,h2⟩⟩:=ih (x :: a) b (by simp only [List.length_cons];omega) r hr
      exact⟨h0,h1,⟨y',by simp [hy],h2⟩⟩
theorem B3g:∀(k:Nat) (a b:List Run),a.length+b.length≤k→N7 a→N7 b→N7 (T9 a b):=by
 intro k
 induction k with
 | zero =>
  intro a b hk _ _
  have:a=[]:=List.eq_nil_of_length_eq_zero (by omega)
  subst this
  rw[N8]
  exact S9
 | succ k ih =>
  intro a b hk ha hb
  cases a with
  | nil=>rw[N8];exact S9
  | cons x a =>
   cases b with
   | nil=>rw[A0o];exact S9
   | cons y b =>
    simp only [List.length_cons]at hk
    have hx:=ha.2 x (by simp)
    have hy:=hb.2 y (by simp)
    have pa:=(List.pairwise_cons.1 ha.1).1
    have pb:=(List.pairwise_cons.1 hb.1).1
    rw[A0p]
    have key:∀ m:List Run,N7 m→(∀ r∈m,min x.hi y.hi+1 < r.lo)→N7 ((if max x.lo y.lo≤min x.hi y.hi then[(⟨max x.lo y.lo,min x.hi y.hi⟩:Run)]else[])++m):=by
     intro m hm hlt
     split
     ·refine⟨List.pairwise_append.2 ⟨by simp,hm.1,fun u hu v hv=>?_⟩,fun r hr=>?_⟩
      ·have:u=⟨max x.lo y.lo,min x.hi y.hi⟩:=by simpa using hu
       subst this
       exact hlt v hv
      ·rcases List.mem_append.1 hr with hr | hr
       ·have:r=⟨max x.lo y.lo,min x.hi y.hi⟩:=by simpa using hr
        subst this
        simp only
        omega
       ·exact hm.2 r hr
     ·exact hm
    by_cases hd:x.hi < y.hi
    ·rw[if_pos hd]
     refine key _ (ih a (y :: b) (by simp only [List.length_cons];omega) (H9 ha) hb) fun r hr=>?_
     obtain⟨_,⟨x',hx',h1,_⟩,_⟩:=Ag3 _ a (y :: b) (Nat.le_refl _) r hr
     have:=pa x' hx'
     omega
    ·rw[if_neg hd]
     refine key _ (ih (x :: a) b (by simp only [List.length_cons];omega) ha (H9 hb)) fun r hr=>?_
     obtain⟨_,_,⟨y',hy',h1,_⟩⟩:=Ag3 _ (x :: a) b (Nat.le_refl _) r hr
     have:=pb y' hy'
     omega
theorem B3h : ∀ (l : List Run) (n:Int), N7 l → (∀ r ∈ l, n ≤ r.lo) → ∀ k, inR (A45 n l) k ↔ n ≤ k ∧ k ≤ 1000000000 ∧ ¬ inR l k
  | [], n, _, _, k => by
    unfold A45
    rw[B3f]
    simp only [inR,List.not_mem_nil,false_and,exists_false,not_false_eq_true,and_true]
    omega
  | r :: l, n, h, hn, k => by
    have hr:=h.2 r (by simp)
    have h1:=hn r (by simp)
    have pa:=(List.pairwise_cons.1 h.1).1
    have ih:=B3h l (r.hi+1) (H9 h) (fun x hx=>by have:=pa x hx;omega) k
    have lt:inR l k→r.hi+1 < k:=A9f h
    rw[A45,A9d,B3f,ih,P6]
    simp only
    constructor
    · rintro (g | ⟨g1, g2, g3⟩)
      · exact ⟨by omega, by omega, fun c => by rcases c with c | c; · omega
                                               · have:=lt c;omega⟩
      · exact ⟨by omega, by omega, fun c => by rcases c with c | c; · omega
                                               · exact g3 c⟩
    · rintro ⟨g1, g2, g3⟩
      by_cases e:k < r.lo
      · exact .inl ⟨by omega,by omega,by omega⟩
      · exact .inr ⟨by apply Classical.byContradiction;intro c;exact g3 (.inl ⟨by omega,by omega⟩),g2,fun c=>g3 (.inr c)⟩
theorem B3i:∀(l:List Run) (n:Int),N7 l→(∀ r∈l,n≤r.lo)→∀ r∈A45 n l,n≤r.lo∧r.lo≤r.hi∧r.hi≤1000000000
 | [],n,_,_,r,hr=>by
  unfold A45 at hr
  split at hr
  ·have:r=⟨n,1000000000⟩:=by simpa using hr
   subst this
   simp only
   omega
  ·cases hr
 | x :: l,n,h,hn,r,hr=>by
  have hx:=h.2 x (by simp)
  have h1:=hn x (by simp)
  have pa:=(List.pairwise_cons.1 h.1).1
  rw[A45]at hr
  rcases List.mem_append.1 hr with hr | hr
  ·split at hr
   ·have:r=⟨n,x.lo-1⟩:=by simpa using hr
    subst this
    simp only
    omega
   ·cases hr
  ·have:=B3i l (x.hi+1) (H9 h) (fun y hy=>by have:=pa y hy;omega) r hr
   omega
theorem Av2 : ∀ (l : List Run) (n:Int), 1 ≤ n → N7 l → (∀ r ∈ l, n ≤ r.lo) → N7 (A45 n l)
  | [], n, h1, _, _ => by
    unfold A45
    split
    · exact ⟨by simp, fun r hr => by have : r = ⟨n, 1000000000⟩ := by simpa using hr
                                     subst this;simp only;omega⟩
    · exact S9
  | x :: l, n, h0, h, hn => by
    have hx:=h.2 x (by simp)
    have h1:=hn x (by simp)
    have pa:=(List.pairwise_cons.1 h.1).1
    have hp:∀ r∈l,x.hi+1≤r.lo:=fun y hy=>by have:=pa y hy;omega
    have ih:=Av2 l (x.hi+1) (by omega) (H9 h) hp
    have lo:=B3i l (x.hi+1) (H9 h) hp
    rw[A45]
    split
    · refine ⟨List.pairwise_append.2 ⟨by simp, ih.1, fun u hu v hv => ?_⟩, fun r hr => ?_⟩
      · have : u = ⟨n, x.lo - 1⟩ := by simpa using hu
        subst this
        have:=lo v hv
        simp only
        omega
      · rcases List.mem_append.1 hr with hr | hr
        · have : r = ⟨n, x.lo - 1⟩ := by simpa using hr
          subst this
          simp only
          omega
        · exact ih.2 r hr
    · exact ih
theorem B3j(b:List Run):N7 (A45 1 (nrm b)):=Av2 _ _ (Int.le_refl _) (F1 b) fun r hr=>((F1 b).2 r hr).1
theorem A2b(a b:List Run):N7 (Y1 a b):=B3g _ _ _ (Nat.le_refl _) (F1 _) (F1 _)
theorem B3k(a b:List Run)(n:Int):inR (Y1 a b) n↔inR (nrm a) n∧¬ inR (nrm b) n:=by
 unfold Y1
 rw[B7t _ _ _ (Nat.le_refl _) (F1 _) (F1 _) n,A5e (B3j b),B3h _ _ (F1 b) (fun r hr=>((F1 b).2 r hr).1)]
 refine and_congr_right fun h=>?_
 rw[Z6]at h
 exact⟨fun k=>k.2.2,fun k=>⟨h.1,h.2.1,k⟩⟩
theorem B7u(a b:List Run):(Y1 a b).length≤500000000:=N2 (A2b a b)
def B6(a b:Past):Past:=G1 fun r=>Y1 (A8 [a] r) (A8 [b] r)
def C7(ps:List Past):Past:=G1 (A8 ps)
theorem A5i(a b:Past)(d:Dot):D0 (B6 a b) d=(D0 a d && !D0 b d):=by
 rw[Bool.eq_iff_iff,B6,Q8,B3k,Bool.and_eq_true,Bool.not_eq_true',← Y0 a d,← Y0 b d]
 unfold A5
 rw[Q8,← Bool.not_eq_true,Q8]
 constructor
 ·rintro⟨h,h1,h2⟩
  have hb:=H4 h
  rw[Z6]at h1 h2
  exact⟨⟨h,h1.2.2⟩,fun k=>h2 ⟨by omega,by omega,k.2⟩⟩
 ·rintro⟨⟨h,h1⟩,h2⟩
  have hb:=H4 h
  rw[Z6,Z6]
  exact⟨h,⟨by omega,by omega,h1⟩,fun k=>h2 ⟨h,k.2.2⟩⟩
theorem Y2(ps:List Past)(d:Dot):D0 (C7 ps) d=ps.any fun p=>D0 p d:=by
 rw[Bool.eq_iff_iff,C7,Av1,List.any_eq_true]
theorem A7y(a b:Past):B6 a b=A5 (B6 a b):=(A4i _).symm
theorem A2c(ps:List Past):C7 ps=A5 (C7 ps):=(A4i _).symm
end Go.Proofs.YtokhjapfekbobaaGreat
namespace Go.Proofs.YtokhjapfekbobaaGreat
open Go.E
set_option maxRecDepth 100000
set_option maxHeartbeats 4000000
def I7(a b:Int):Int:=if a < b then -1 else if b < a then 1 else 0
def A9g(u v:List Int):Nat→Nat→Int
 | _,0=>0
 | r,k+1=>if u[r]! = v[r]! then A9g u v (r+1) k else I7 u[r]! v[r]!
def A2d(s t:Span):Int:=if I7 s.rep t.rep≠0 then I7 s.rep t.rep else if I7 s.lo t.lo≠0 then I7 s.lo t.lo else I7 s.hi t.hi
def O3:List Span→List Span→Int
 | [],[]=>0
 | [],_ :: _=>-1
 | _ :: _,[]=>1
 | s :: a,t :: b=>if A2d s t≠0 then A2d s t else O3 a b
def Bt7(x y:Past):Int:=if A9g x.vec y.vec 0 16≠0 then A9g x.vec y.vec 0 16 else O3 x.cloud y.cloud
def Ag4(p q:Past):Int:=Bt7 (A5 p) (A5 q)
structure Ord3 {α:Type} (c:α→α→Int):Prop where
 rng:∀ x y,c x y=-1∨c x y=0∨c x y=1
 neg:∀ x y,c y x=-(c x y)
 tr:∀ x y z,c x y≤0→c y z≤0→c x z≤0
 tr0:∀ x y z,c x y=0→c y z=0→c x z=0
theorem Ord3.lt{α:Type}{c:α→α→Int}(h:Ord3 c){x y z:α}(h1:c x y < 0)(h2:c y z≤0):c x z < 0:=by
 have h3:=h.tr x y z (by omega) h2
 apply Classical.byContradiction
 intro h4
 have h5:c x z=0:=by omega
 have h6:c z x=0:=by rw[h.neg x z];omega
 have h7:=h.tr y z x h2 (by omega)
 have:=h.neg x y
 omega
theorem Ord3.lt'{α:Type}{c:α→α→Int}(h:Ord3 c){x y z:α}(h1:c x y≤0)(h2:c y z < 0):c x z < 0:=by
 have h3:=h.tr x y z h1 (by omega)
 apply Classical.byContradiction
 intro h4
 have h5:c x z=0:=by omega
 have h6:c z x=0:=by rw[h.neg x z];omega
 have h7:=h.tr z x y (by omega) h1
 have:=h.neg y z
 omega
theorem Ord3.self{α:Type}{c:α→α→Int}(h:Ord3 c)(x:α):c x x=0:=by have:=h.neg x x;omega
theorem ordI:Ord3 I7:=by
 refine⟨fun x y=>?_,fun x y=>?_,fun x y z=>?_,fun x y z=>?_⟩ <;> unfold I7 <;>(repeat' split) <;> omega
theorem A2e{α β γ:Type}{c:β→β→Int}{d:γ→γ→Int}(hc:Ord3 c)(hd:Ord3 d)(f:α→β)(g:α→γ):Ord3 (fun x y=>if c (f x) (f y)≠0 then c (f x) (f y)else d (g x) (g y)):=by
 refine⟨fun x y=>?_,fun x y=>?_,fun x y z=>?_,fun x y z=>?_⟩
 ·split
  ·exact hc.rng _ _
  ·exact hd.rng _ _
 ·have h1:=hc.neg (f x) (f y)
  have h2:=hd.neg (g x) (g y)
  split <;> split <;> omega
 ·intro h1 h2
  have b1:=hc.neg (f x) (f y)
  by_cases e1:c (f x) (f y)=0
  ·rw[if_neg (by simpa using e1)]at h1
   by_cases e2:c (f y) (f z)=0
   ·rw[if_neg (by simpa using e2)]at h2
    rw[if_neg (by simpa using hc.tr0 _ _ _ e1 e2)]
    exact hd.tr _ _ _ h1 h2
   ·rw[if_pos e2]at h2
    have:=hc.lt' (x:=f x) (y:=f y) (z:=f z) (by omega) (by omega)
    rw[if_pos (by omega)]
    omega
  ·rw[if_pos e1]at h1
   have h2':c (f y) (f z)≤0:=by
    by_cases e2:c (f y) (f z)=0
    ·omega
    ·rw[if_pos e2]at h2;exact h2
   have:=hc.lt (x:=f x) (y:=f y) (z:=f z) (by omega) h2'
   rw[if_pos (by omega)]
   omega
 ·intro h1 h2
  have e1:c (f x) (f y)=0:=by
   apply Classical.byContradiction
   intro e
   rw[if_pos e]at h1
   exact e h1
  have e2:c (f y) (f z)=0:=by
   apply Classical.byContradiction
   intro e
   rw[if_pos e]at h2
   exact e h2
  rw[if_neg (by simpa using e1)]at h1
  rw[if_neg (by simpa using e2)]at h2
  rw[if_neg (by simpa using hc.tr0 _ _ _ e1 e2)]
  exact hd.tr0 _ _ _ h1 h2
theorem J0{a b:Int}:I7 a b=0↔a=b:=by unfold I7;split <;>(try split) <;> omega
theorem ordF(k:Nat):∀ r:Nat,Ord3 fun u v:List Int=>A9g u v r k:=by
 induction k with
 | zero=>exact fun r=>⟨fun _ _=>.inr (.inl rfl),fun _ _=>rfl,fun _ _ _ _ _=>Int.le_refl _,fun _ _ _ _ _=>rfl⟩
 | succ k ih =>
  intro r
  have h:=A2e ordI (ih (r+1)) (fun u:List Int=>u[r]!) (fun u=>u)
  have e:(fun u v:List Int=>A9g u v r (k+1))=fun u v=>if I7 u[r]! v[r]!≠0 then I7 u[r]! v[r]! else A9g u v (r+1) k:=by
   funext u v
   rw[A9g]
   by_cases e:u[r]! = v[r]!
   ·rw[if_pos e,if_neg (by rw[J0.2 e];simp)]
   ·rw[if_neg e,if_pos (fun k=>e (J0.1 k))]
  rw[e]
  exact h
theorem Bt8:Ord3 A2d:=A2e ordI (A2e ordI ordI (fun s:Span=>s.lo) (fun s:Span=>s.hi)) (fun s:Span=>s.rep) (fun s=>s)
theorem ordC:Ord3 O3:=by
 refine⟨fun x=>?_,fun x=>?_,fun x=>?_,fun x=>?_⟩
 ·induction x with
  | nil=>intro y;cases y <;> simp [O3]
  | cons s a ih =>
   intro y
   cases y with
   | nil=>simp [O3]
   | cons t b =>
    rw[O3]
    split
    ·exact Bt8.rng _ _
    ·exact ih b
 ·induction x with
  | nil=>intro y;cases y <;> simp [O3]
  | cons s a ih =>
   intro y
   cases y with
   | nil=>simp [O3]
   | cons t b =>
    rw[O3,O3]
    have h1:=Bt8.neg s t
    have h2:=ih b
    split <;> split <;> omega
 ·induction x with
  | nil=>intro y z _ _;cases z <;> simp [O3]
  | cons s a ih =>
   intro y z h1 h2
   cases y with
   | nil=>simp [O3]at h1
   | cons t b =>
    cases z with
    | nil=>simp [O3]at h2
    | cons r d =>
     rw[O3]at h1 h2 ⊢
     by_cases e1:A2d s t=0
     ·rw[if_neg (by simpa using e1)]at h1
      by_cases e2:A2d t r=0
      ·rw[if_neg (by simpa using e2)]at h2
       rw[if_neg (by simpa using Bt8.tr0 _ _ _ e1 e2)]
       exact ih b d h1 h2
      ·rw[if_pos e2]at h2
       have:=Bt8.lt' (x:=s) (y:=t) (z:=r) (by omega) (by omega)
       rw[if_pos (by omega)]
       omega
     ·rw[if_pos e1]at h1
      have h2':A2d t r≤0:=by
       by_cases e2:A2d t r=0
       ·omega
       ·rw[if_pos e2]at h2;exact h2
      have:=Bt8.lt (x:=s) (y:=t) (z:=r) (by omega) h2'
      rw[if_pos (by omega)]
      omega
 ·induction x with
  | nil =>
   intro y z h1 h2
   cases y with
   | nil=>exact h2
   | cons t b=>simp [O3]at h1
  | cons s a ih =>
   intro y z h1 h2
   cases y with
   | nil=>simp [O3]at h1
   | cons t b =>
    cases z with
    | nil=>simp [O3]at h2
    | cons r d =>
     rw[O3]at h1 h2 ⊢
     have e1:A2d s t=0:=by
      apply Classical.byContradiction
      intro e
      rw[if_pos e]at h1
      exact e h1
     have e2:A2d t r=0:=by
      apply Classical.byContradiction
      intro e
      rw[if_pos e]at h2
      exact e h2
     rw[if_neg (by simpa using e1)]at h1
     rw[if_neg (by simpa using e2)]at h2
     rw[if_neg (by simpa using Bt8.tr0 _ _ _ e1 e2)]
     exact ih b d h1 h2
theorem ordQ:Ord3 Bt7:=A2e (ordF 16 0) ordC (fun p:Past=>p.vec) (fun p=>p.cloud)
theorem ordP:Ord3 Ag4:=⟨fun _ _=>ordQ.rng _ _,fun _ _=>ordQ.neg _ _,fun _ _ _=>ordQ.tr _ _ _,fun _ _ _=>ordQ.tr0 _ _ _⟩
theorem Ag5{u v:List Int}:∀ {k r:Nat},A9g u v r k=0→∀ j:Nat,r≤j→j < r+k→u[j]! = v[j]!
 | 0,r,_,j,h1,h2=>by omega
 | k+1,r,h,j,h1,h2=>by
  rw[A9g]at h
  by_cases e:u[r]! = v[r]!
  ·rw[if_pos e]at h
   by_cases e2:j=r
   ·rw[e2];exact e
   ·exact Ag5 h j (by omega) (by omega)
  ·rw[if_neg e]at h
   exact absurd (J0.1 h) e
theorem B3l{s t:Span}(h:A2d s t=0):s=t:=by
 unfold A2d at h
 split at h
 ·rename_i e;exact absurd h e
 ·rename_i e1
  split at h
  ·rename_i e;exact absurd h e
  ·rename_i e2
   have a1:=J0.1 (Classical.not_not.1 e1)
   have a2:=J0.1 (Classical.not_not.1 e2)
   have a3:=J0.1 h
   cases s;cases t
   simp only at a1 a2 a3
   rw[a1,a2,a3]
theorem Ag6:∀ {a b:List Span},O3 a b=0→a=b
 | [],[],_=>rfl
 | [],_ :: _,h=>by simp [O3]at h
 | _ :: _,[],h=>by simp [O3]at h
 | s :: a,t :: b,h=>by
  rw[O3]at h
  split at h
  ·rename_i e;exact absurd h e
  ·rename_i e
   rw[B3l (Classical.not_not.1 e),Ag6 h]
theorem Av3(T:Nat→List Run)(h:0 <(G1 T).vec.length):0 <(G1 T).vec[(G1 T).vec.length-1]!:=by
 have hl:=Ao9 T
 have key:∀ n:Nat,0 < szT T n→0 < A12 T (szT T n-1).toNat:=by
  intro n
  induction n with
  | zero=>intro h;simp [szT]at h
  | succ n ih =>
   rw[szT]
   split
   ·rename_i k
    intro _
    rw[show((n:Int)+1-1).toNat=n by omega]
    exact k
   ·exact ih
 have e:(G1 T).vec.length-1=(szT T 16-1).toNat:=by omega
 rw[e,(B3b T (r:=(szT T 16-1).toNat) (by omega)).1]
 exact key 16 (by omega)
theorem Bj6{S T:Nat→List Run}(h:∀ j:Nat,j < 16→(G1 S).vec[j]! =(G1 T).vec[j]!):(G1 S).vec=(G1 T).vec:=by
 have h1:=(N3 S).2
 have h2:=(N3 T).2
 have out:∀(l:List Int) (j:Nat),l.length≤j→l[j]! = 0:=fun l j hj=>by
  rw[getElem!_def,List.getElem?_eq_none hj];rfl
 have hl:(G1 S).vec.length=(G1 T).vec.length:=by
  rcases Nat.lt_trichotomy (G1 S).vec.length (G1 T).vec.length with k | k | k
  ·have:=Av3 T (by omega)
   rw[← h _ (by omega),out (G1 S).vec _ (by omega)]at this
   omega
  ·exact k
  ·have:=Av3 S (by omega)
   rw[h _ (by omega),out (G1 T).vec _ (by omega)]at this
   omega
 exact L8 hl fun j hj=>h j (by omega)
theorem B7v{S T:Nat→List Run}(h:Bt7 (G1 S) (G1 T)=0):G1 S=G1 T:=by
 unfold Bt7 at h
 split at h
 ·rename_i e;exact absurd h e
 ·rename_i e
  have h1:=Ag5 (Classical.not_not.1 e)
  have h2:=Ag6 h
  have h3:=Bj6 fun j hj=>h1 j (by omega) (by omega)
  generalize G1 S=x at *
  generalize G1 T=y at *
  cases x;cases y
  simp only at h2 h3
  rw[h2,h3]
theorem B3m{p q:Past}:Ag4 p q=0↔A5 p=A5 q:=by
 constructor
 ·exact fun h=>B7v h
 ·intro h
  unfold Ag4
  rw[h]
  exact ordQ.self _
end Go.Proofs.YtokhjapfekbobaaGreat
namespace Go.Proofs.YtokhjapfekbobaaGreat
open Go.E
set_option maxRecDepth 100000
set_option maxHeartbeats 4000000
def orI(v:List Int):Int:=(v.find? fun x=>decide (¬ x=0)).getD 0
def Bj7(v:List Int)(i:Int):Prop:=0≤i∧i≤v.length∧∀ j:Nat,(j:Int) < i→v[j]! = 0
def decOr(v:List Int)(i:Int):Nat:=(v.length-i).toNat
theorem or_at{v:List Int}:∀ {i:Nat},i < v.length→¬ v[i]! = 0→(∀ j:Nat,j < i→v[j]! = 0)→orI v=v[i]!:=by
 intro i hi h hn
 unfold orI
 have:v.find? (fun x=>decide (¬ x=0))=some v[i]!:=by
  rw[getElem!_pos v i hi]at h ⊢
  rw[List.find?_eq_some_iff_getElem]
  refine⟨by simpa using h,i,hi,rfl,fun j hj=>?_⟩
  have:=hn j hj
  rw[getElem!_pos v j (by omega)]at this
  simpa using this
 rw[this];rfl
theorem or_no{v:List Int}(h:∀ j:Nat,j < v.length→v[j]! = 0):orI v=0:=by
 unfold orI
 rw[List.find?_eq_none.2]
 ·rfl
 ·intro x hx
  obtain⟨j,hj,rfl⟩:=List.mem_iff_getElem.1 hx
  have:=h j hj
  rw[getElem!_pos v j hj]at this
  simpa using this
theorem B7w(s t:Span):orI [I7 s.rep t.rep,I7 s.lo t.lo,I7 s.hi t.hi]=A2d s t:=by
 unfold orI A2d
 by_cases h1:I7 s.rep t.rep=0
 ·by_cases h2:I7 s.lo t.lo=0
  ·by_cases h3:I7 s.hi t.hi=0 <;> simp [h1,h2,h3]
  ·simp [h1,h2]
 ·simp [h1]
def B7x(a b:List Span)(i:Int):Prop:=0≤i∧i≤a.length∧i≤b.length∧O3 a b=O3 (a.drop i.toNat) (b.drop i.toNat)
def decCf(a b:List Span)(i:Int):Nat:=(a.length-i).toNat
theorem B0r{a:List Span}{i:Int}(h0:0≤i)(h:i < a.length):a.drop i.toNat=a[i.toNat]! :: a.drop (i+1).toNat:=by
 rw[show(i+1).toNat=i.toNat+1 by omega,getElem!_pos a i.toNat (by omega)]
 exact List.drop_eq_getElem_cons (by omega)
theorem B7y{a:List Span}{i:Int}(h:¬ i < a.length):a.drop i.toNat=[]:=List.drop_of_length_le (by omega)
theorem B3n{a b:List Span}{i:Int}(h0:0≤i)(ha:i < a.length)(hb:¬ i < b.length)(h:O3 a b=O3 (a.drop i.toNat) (b.drop i.toNat)):O3 a b=1:=by
 rw[h,B0r h0 ha,B7y hb];rfl
theorem B3o{a b:List Span}{i:Int}(h0:0≤i)(ha:¬ i < a.length)(hb:i < b.length)(h:O3 a b=O3 (a.drop i.toNat) (b.drop i.toNat)):O3 a b=-1:=by
 rw[h,B0r h0 hb,B7y ha];rfl
theorem B3p{a b:List Span}{i:Int}(ha:¬ i < a.length)(hb:¬ i < b.length)(h:O3 a b=O3 (a.drop i.toNat) (b.drop i.toNat)):O3 a b=0:=by
 rw[h,B7y hb,B7y ha];rfl
theorem B3q{a b:List Span}{i:Int}(h0:0≤i)(ha:i < a.length)(hb:i < b.length)(hd:¬ A2d a[i.toNat]! b[i.toNat]! = 0)(h:O3 a b=O3 (a.drop i.toNat) (b.drop i.toNat)):O3 a b=A2d a[i.toNat]! b[i.toNat]!:=by
 rw[h,B0r h0 ha,B0r h0 hb,O3,if_pos hd]
theorem B3r{a b:List Span}{i:Int}(h0:0≤i)(ha:i < a.length)(hb:i < b.length)(hd:A2d a[i.toNat]! b[i.toNat]! = 0)(h:O3 a b=O3 (a.drop i.toNat) (b.drop i.toNat)):B7x a b (i+1):=by
 refine⟨by omega,by omega,by omega,?_⟩
 rw[h,B0r h0 ha,B0r h0 hb,O3,if_neg (by simpa using hd)]
def Al6(u v:List Int)(r:Int):Prop:=A9g u v 0 16=A9g u v r.toNat (16-r).toNat
def Ap0(x y:Past)(r:Int)(u:List Int)(c:List Span)(v:List Int)(d:List Span):Prop:=u=x.vec∧c=x.cloud∧v=y.vec∧d=y.cloud∧0≤r∧r≤16∧Al6 x.vec y.vec r
def decCq(r:Int)(u:List Int)(c:List Span)(v:List Int)(d:List Span):Nat:=(16-r).toNat
def invCp(u v:List Int)(r:Int):Prop:=0≤r∧r≤16∧Al6 u v r
theorem O6{u:List Int}{r:Int}(h0:0≤r)(h:¬ r < u.length):u[r.toNat]! = 0:=by
 rw[getElem!_def,List.getElem?_eq_none (by omega)];rfl
theorem B3s{u v:List Int}{r:Int}(h0:0≤r)(h1:r < 16)(h:Al6 u v r):A9g u v 0 16=if u[r.toNat]! = v[r.toNat]! then A9g u v (r+1).toNat (16-(r+1)).toNat else I7 u[r.toNat]! v[r.toNat]!:=by
 unfold Al6 at h
 rw[h,show(16-r).toNat=(16-(r+1)).toNat+1 by omega,A9g,show r.toNat+1=(r+1).toNat by omega]
theorem B3t{u v:List Int}{r:Int}(h0:0≤r)(h1:r < 16)(hd:¬ u[r.toNat]! = v[r.toNat]!)(h:Al6 u v r):A9g u v 0 16=I7 u[r.toNat]! v[r.toNat]!:=by rw[B3s h0 h1 h,if_neg hd]
theorem B3u{u v:List Int}{r:Int}(h0:0≤r)(h1:r < 16)(hd:u[r.toNat]! = v[r.toNat]!)(h:Al6 u v r):invCp u v (r+1):=by
 refine⟨by omega,by omega,?_⟩
 unfold Al6
 rw[B3s h0 h1 h,if_pos hd]
theorem Ag7{u v:List Int}{r:Int}(h1:r≤16)(hn:¬ r < 16)(h:Al6 u v r):A9g u v 0 16=0:=by
 unfold Al6 at h
 rw[h,show(16-r).toNat=0 by omega];rfl
theorem Bc3{p q:Past}{x:Int}(h:A9g (A5 p).vec (A5 q).vec 0 16=x)(hx:¬ x=0):Ag4 p q=x:=by
 unfold Ag4 Bt7
 rw[if_pos (by rw[h];exact hx),h]
theorem A9h{p q:Past}(h:A9g (A5 p).vec (A5 q).vec 0 16=0):Ag4 p q=O3 (A5 p).cloud (A5 q).cloud:=by
 unfold Ag4 Bt7
 rw[if_neg (by rw[h];simp)]
theorem A1l{a b:Int}(h:¬ a=b):¬ I7 a b=0:=fun k=>h (J0.1 k)
theorem Bc4(x:Int):Con Tryz.prog 193 [.i .i64 x] (.b false) :=
 by
 refine sC A9 [.tmp 2] 6 Tryz.func193 ?_
 intro e0 cx
 refine sq<|rG cx [0] [] z0<|sn<|sq<|rG cx [2] [] (tT 2 (B77:AV.b (x != x)=AV.b false) z0)<|sn<|rT ?_
 exact A43 (r:=.b (false)) (obl:=[]) (by kernel_rfl) trivial (B9.refl _)
theorem A7z(a b:Int):Con Tryz.prog 146 [.i .i64 a,.i .i64 b] (.i .i64 (I7 a b)) :=
 by
 refine sC A9 [.tmp 4] 20 Tryz.func146 ?_
 intro e0 cx
 refine sq<|rG cx [0,1] [] z0<|sn<|sq<|rG cx [0,1,5] [] (fT (Bc4 (a)) (oA 1 (.b (false)) z0))<|sn<|sq<|rG cx [0,1,5,6] [] (fT (Bc4 (b)) (oA 1 (.b (false)) z0))<|sn<|sq<|sq<|rG cx [0,1,6,11] [] z0<|sn<|A23 (by kernel_rfl) (by kernel_rfl)<|sK<|sn<|sq<|sq<|rG cx [0,1,13] [] z0<|sn<|A23 (by kernel_rfl) (by kernel_rfl)<|sK<|sn<|sq<|rD cx [0,1,16] [] (zB 2 (a < b)) (fun h0=>?_) fun h0=>?_
 refine sq<|rG cx [4] [] z0<|sn<|rT<|nR<|qR (.i .i64 ((-1:Int))) (.eq (by unfold I7;rw[if_pos h0]))
 refine sK<|sn<|sq<|rD cx [19] [] (zB 2 (b < a)) (fun h1=>?_) fun h1=>?_
 refine sq<|rG cx [4] [] z0<|sn<|rT<|nR<|qR (.i .i64 ((1:Int))) (.eq (by unfold I7;rw[if_neg h0,if_pos h1]))
 refine sK<|sn<|sq<|rG cx [4] [] z0<|sn<|rT<|qR (.i .i64 ((0:Int))) (.eq (by unfold I7;rw[if_neg h0,if_neg h1]))
theorem con149(v:List Int):Con Tryz.prog 149 [.sl (v.map c3)] (.i .i64 (orI v)) :=
 by
 refine lN 0 c3 (v) Tryz.func149 fun hl_0=>sC A9 [.tmp 2] 18 Tryz.func149 ?_
 intro e0 cx
 refine sq<|rG cx [0] [] z0<|sn<|sq<|rG cx [0,3] [] z0<|sn<|sq<|sq<|rG cx [3,6,7,8] [] (tL 1 c3 v z0)<|sn<|bL 0<|sL (X:=Int) (fun x=>⟨[(3,.i .i64 ((0:Int))),(6,.sl (List.map c3 v)),(7,.i .i64 ((↑v.length:Int))),(8,.i .i64 (x))],[]⟩) (fun x ↦ decOr v x) (fun x ↦ Bj7 v x) [3,6,7,8] [] ((0:Int)) (show Bj7 v (0:Int)from(by exact⟨by omega,by omega,fun j hj=>by omega⟩)) ?_
 intro i0 h_1
 obtain⟨hh2,hh3,hh4⟩:0≤i0∧i0≤(↑v.length:Int)∧∀(j:Nat),(↑j:Int) < i0→v[j]! =(0:Int):=h_1
 refine rE cx [3,6,7,8,9] [] (zB 0 (i0 <(↑v.length:Int))) (fun h5=>?_) fun h5=>?_
 refine sK<|sn<|sq<|bL 1<|sq<|rG cx [3,6,7,8,5] [] (fA (0≤i0) (fG c3 v i0.toNat (fR 1 (oR 0 (c3 v[i0.toNat]!) z0))))<|sn<|sq<|rG cx [3,6,7,8,5,14] [] (tN 2 v[i0.toNat]! (0:Int) z0)<|sn<|dC (¬v[i0.toNat]! =(0:Int)) (fun h6=>?_) fun h6=>?_
 refine sq<|rG cx [2] [] z0<|sn<|rT<|bR<|nR<|nR<|bR<|nR<|qR (.i .i64 (v[i0.toNat]!)) (.eq ?g1);rotate_left
 refine sK<|bN<|sn<|rG cx [3,6,7,8] [] (tW 0 (i0+1) z0)<|sn<|nX (i0+1) (show((↑v.length:Int)-(i0+1)).toNat <((↑v.length:Int)-i0).toNat from(by omega)) (show Bj7 v (i0+1)from ?g2);rotate_left
 refine eX 0<|nE<|nE<|bH<|sn<|sq<|rG cx [2] [] z0<|sn<|rT<|qR (.i .i64 ((0:Int))) (.eq (by rw[or_no fun j hj=>hh4 j (by omega)]))
 case g1=>revert i0 hh2 hh3 hh4 h5 h6;intro i h0 h1 h2 h3 h4;rw[or_at (i:=i.toNat) (by omega) h4 (fun j hj=>h2 j (by omega))]
 case g2 =>
  exact⟨by omega,by omega,fun j hj=>by
   by_cases e:j=i0.toNat
   ·rw[e];exact Classical.not_not.1 h6
   ·exact hh4 j (by omega)⟩
theorem con148(s t:Span):Con Tryz.prog 148 [.agg (B5 s),.agg (B5 t)] (.i .i64 (A2d s t)) :=
 by
 refine sC A9 [.tmp 4] 22 Tryz.func148 ?_
 intro e0 cx
 refine sq<|rG cx [2,3] [2,3] z0<|sn<|sq<|rA cx [4] [] (fT (A7z (s.rep) (t.rep)) (fT (A7z (s.lo) (t.lo)) (fT (A7z (s.hi) (t.hi)) (fP (Flat (AV.i .i64 (orI [I7 s.rep t.rep,I7 s.lo t.lo,I7 s.hi t.hi]))) (by exact Flat.i _ _) (fT (con149 ([I7 s.rep t.rep,I7 s.lo t.lo,I7 s.hi t.hi])) (oA 4 (.i .i64 (I7 s.rep t.rep)) (oA 9 (.i .i64 (I7 s.lo t.lo)) (oA 14 (.i .i64 (I7 s.hi t.hi)) (oV 16 { val:=some (.i .i64 (orI [I7 s.rep t.rep,I7 s.lo t.lo,I7 s.hi t.hi])),flat:=true } z0)))))))))<|sn<|rT<|qR (.i .i64 (orI [I7 s.rep t.rep,I7 s.lo t.lo,I7 s.hi t.hi])) (.eq ?g0);rotate_left
 case g0=>rw[B7w]
theorem con147(a b:List Span):Con Tryz.prog 147 [.sl (a.map B5),.sl (b.map B5),.fn (.func 148) [] []] (.i .i64 (O3 a b)) :=
 by
 refine lN 0 B5 (a) Tryz.func147 fun hl_0=>lN 1 B5 (b) Tryz.func147 fun hl_1=>sC A9 [.tmp 6] 39 Tryz.func147 ?_
 intro e0 cx
 refine sq<|rG cx [0,1,2] [] z0<|sn<|sq<|sq<|rG cx [0,1,2,11,12,13] [] (tL 1 B5 a z0)<|sn<|bL 0<|sL (X:=Int) (fun x=>⟨[(0,.sl (List.map B5 a)),(1,.sl (List.map B5 b)),(2,.fn (Fn.func (148:FuncId)) [] []),(11,.sl (List.map B5 a)),(12,.i .i64 ((↑a.length:Int))),(13,.i .i64 (x))],[]⟩) (fun x ↦ decCf a b x) (fun x ↦ B7x a b x) [0,1,2,11,12,13] [] ((0:Int)) (show B7x a b (0:Int)from(by exact⟨by omega,by omega,by omega,rfl⟩)) ?_
 intro i0 h_1
 obtain⟨hh2,hh3,hh4,hh5⟩:0≤i0∧i0≤(↑a.length:Int)∧i0≤(↑b.length:Int)∧O3 a b=O3 (List.drop i0.toNat a) (List.drop i0.toNat b):=h_1
 refine rE cx [0,1,2,11,12,13,14] [] (zB 0 (i0 <(↑a.length:Int))) (fun hh6=>?_) fun hh6=>?_
 refine sK<|sn<|sq<|bL 1<|sq<|rG cx [0,1,2,11,12,13,8,7] [8] (fA (0≤i0) (fG B5 a i0.toNat (fR 3 (fN 3 3 (oR 1 (B5 a[i0.toNat]!) z0)))))<|sn<|sq<|rD cx [0,1,2,11,12,13,8,7,21] [8] (tL 2 B5 b (zB 3 ((↑b.length:Int)≤i0))) (fun h7=>?_) fun h7=>?_
 refine sq<|rG cx [6] [] z0<|sn<|rT<|nR<|bR<|nR<|nR<|bR<|nR<|qR (.i .i64 ((1:Int))) (.eq (by rw[B3n hh2 hh6 (by omega) hh5]))
 refine sK<|sn<|sq<|rG cx [0,1,2,11,12,13,8,9] [8,9] (fA (0≤i0) (fG B5 b i0.toNat (fR 3 (fN 3 3 (oR 2 (B5 b[i0.toNat]!) z0)))))<|sn<|sq<|rG cx [0,1,2,11,12,13,10] [] (fT (con148 (a[i0.toNat]!) (b[i0.toNat]!)) (oA 3 (.i .i64 (A2d a[i0.toNat]! b[i0.toNat]!)) z0))<|sn<|sq<|rG cx [0,1,2,11,12,13,10,31] [] (tN 1 (A2d a[i0.toNat]! b[i0.toNat]!) (0:Int) z0)<|sn<|dC (¬A2d a[i0.toNat]! b[i0.toNat]! =(0:Int)) (fun h8=>?_) fun h8=>?_
 refine sq<|rG cx [6] [] z0<|sn<|rT<|bR<|nR<|nR<|bR<|nR<|qR (.i .i64 (A2d a[i0.toNat]! b[i0.toNat]!)) (.eq (by rw[B3q hh2 hh6 (by omega) h8 hh5]))
 refine sK<|bN<|sn<|rG cx [0,1,2,11,12,13] [] (tW 0 (i0+1) z0)<|sn<|nX (i0+1) (show((↑a.length:Int)-(i0+1)).toNat <((↑a.length:Int)-i0).toNat from(by omega)) (show B7x a b (i0+1)from(by exact B3r hh2 hh6 (by omega) (Classical.not_not.1 h8) hh5))
 refine eX 0<|nE<|nE<|bH<|sn<|sq<|rD cx [38] [] (tL 1 B5 a (tL 3 B5 b (zB 4 ((↑a.length:Int) <(↑b.length:Int))))) (fun h9=>?_) fun h9=>?_
 refine sq<|rG cx [6] [] z0<|sn<|rT<|nR<|qR (.i .i64 ((-1:Int))) (.eq (by rw[B3o hh2 hh6 (by omega) hh5]))
 refine sK<|sn<|sq<|rG cx [6] [] z0<|sn<|rT<|qR (.i .i64 ((0:Int))) (.eq (by rw[B3p hh6 (by omega) hh5]))
theorem con103(p q:Past)(hb:p.cloud.length*16≤140737488350000)(hq:q.cloud.length*16≤140737488350000):Con Tryz.prog 103 [.agg (c26 p),.agg (c26 q)] (.i .i64 (Ag4 p q)) :=
 by
 have D:∀ {r:Int} {u v:List Int},u=(A5 p).vec→v=(A5 q).vec→0≤r→r < 16→∀ {a b:Int},u[r.toNat]! = a→v[r.toNat]! = b→¬ a=b→Al6 (A5 p).vec (A5 q).vec r→I7 a b=Ag4 p q:=by
  intro r u v e1 e3 h0 h1 a b ha hb hn h
  rw[e1]at ha
  rw[e3]at hb
  have e:=B3t h0 h1 (by rw[ha,hb];exact hn) h
  rw[ha,hb]at e
  exact(Bc3 e (A1l hn)).symm
 have N:∀ {r:Int} {u v:List Int} {c d:List Span},u=(A5 p).vec→c=(A5 p).cloud→v=(A5 q).vec→d=(A5 q).cloud→0≤r→r < 16→∀ {a b:Int},u[r.toNat]! = a→v[r.toNat]! = b→¬ ¬ a=b→Al6 (A5 p).vec (A5 q).vec r→Ap0 (A5 p) (A5 q) (r+1) u c v d:=by
  intro r u v c d e1 e2 e3 e4 h0 h1 a b ha hb hn h
  have e:=B3u h0 h1 (by rw[← e1,← e3,ha,hb];exact Classical.not_not.1 hn) h
  exact⟨e1,e2,e3,e4,e.1,e.2.1,e.2.2⟩
 refine sC A9 [.tmp 4] 49 Tryz.func103 ?_
 intro e0 cx
 refine sq<|rG cx [2,3] [2,3] z0<|sn<|sq<|rA cx [5,6] [5,6] (fT (B7s (p) (by(with_reducible assumption))) (fT (B7s (q) (by(with_reducible assumption))) (oA 1 (.agg [.sl (List.map c3 (A5 p).vec),.sl (List.map B5 (A5 p).cloud)]) (oA 3 (.agg [.sl (List.map c3 (A5 q).vec),.sl (List.map B5 (A5 q).cloud)]) z0))))<|sn<|sq<|sq<|rG cx [5,6,14] [5,6] z0<|sn<|bL 0<|sL (X:=Int×List Int×List Span×List Int×List Span) (fun x=>⟨[(5,.ptr (5) (0) (0) (0)),(6,.ptr (6) (0) (0) (0)),(14,.i .i64 (x.1))],[(5,⟨0,26,.var [.sl (List.map c3 x.2.1),.sl (List.map B5 x.2.2.1)]⟩),(6,⟨0,26,.var [.sl (List.map c3 x.2.2.2.1),.sl (List.map B5 x.2.2.2.2)]⟩)]⟩) (fun x ↦ decCq x.1 x.2.1 x.2.2.1 x.2.2.2.1 x.2.2.2.2) (fun x ↦ Ap0 (A5 p) (A5 q) x.1 x.2.1 x.2.2.1 x.2.2.2.1 x.2.2.2.2) [5,6,14] [5,6] (((0:Int),(A5 p).vec,(A5 p).cloud,(A5 q).vec,(A5 q).cloud)) (show Ap0 (A5 p) (A5 q) (0:Int) (A5 p).vec (A5 p).cloud (A5 q).vec (A5 q).cloud from(by exact⟨Eq.refl _,Eq.refl _,Eq.refl _,Eq.refl _,by omega,by omega,Eq.refl _⟩)) ?_
 rintro⟨r0,u1,c2,v3,d4⟩ h_5
 obtain⟨h6,h7,h8,h9,h10,h11,h12⟩:u1=(A5 p).vec∧c2=(A5 p).cloud∧v3=(A5 q).vec∧d4=(A5 q).cloud∧0≤r0∧r0≤16∧Al6 (A5 p).vec (A5 q).vec r0:=h_5
 refine rE cx [5,6,14,15] [5,6] (zB 0 (r0 <(16:Int))) (fun h13=>?_) fun h13=>?_
 refine sK<|sn<|sq<|bL 1<|sq<|rG cx [5,6,14,7] [5,6] z0<|sn<|sq<|rG cx [5,6,14,7,8,9] [5,6] z0<|sn<|sq<|rD cx [5,6,14,7,8,9,21] [5,6] (tL 3 c3 u1 (zB 4 (r0 <(↑u1.length:Int)))) (fun h14=>?_) fun h14=>?_
 refine rG cx [5,6,14,7,8,9] [5,6] (fA (0≤r0) (fG c3 u1 r0.toNat (fR 1 (oR 3 (c3 u1[r0.toNat]!) z0))))<|sn<|sq<|rD cx [5,6,14,7,8,9,31] [5,6] (tL 3 c3 v3 (zB 4 (r0 <(↑v3.length:Int)))) (fun h15=>?_) fun h15=>?_
 refine rG cx [5,6,14,8,9] [5,6] (fA (0≤r0) (fG c3 v3 r0.toNat (fR 1 (oR 3 (c3 v3[r0.toNat]!) z0))))<|sn<|sq<|rG cx [5,6,14,8,9,39] [5,6] (tN 2 u1[r0.toNat]! v3[r0.toNat]! z0)<|sn<|dC (¬u1[r0.toNat]! = v3[r0.toNat]!) (fun h16=>?_) fun h16=>?_
 refine sq<|rG cx [4] [] (fT (A7z (u1[r0.toNat]!) (v3[r0.toNat]!)) (oA 2 (.i .i64 (I7 u1[r0.toNat]! v3[r0.toNat]!)) z0))<|sn<|rT<|bR<|nR<|nR<|bR<|nR<|qR (.i .i64 (I7 u1[r0.toNat]! v3[r0.toNat]!)) (.eq (by exact congrArg (AV.i .i64) (D h6 h8 h10 h13 (Eq.refl _) (Eq.refl _) h16 h12)))
 refine sK<|bN<|sn<|rG cx [5,6,14] [5,6] (tW 0 (r0+1) z0)<|sn<|nX ((r0+1,u1,c2,v3,d4)) (show(16-(r0+1)).toNat <(16-r0).toNat from(by omega)) (show Ap0 (A5 p) (A5 q) (r0+1) u1 c2 v3 d4 from(by exact N h6 h7 h8 h9 h10 h13 (Eq.refl _) (Eq.refl _) h16 h12))
 refine sK<|sn<|sq<|rG cx [5,6,14,8,9,39] [5,6] (tN 2 u1[r0.toNat]! (0:Int) z0)<|sn<|dC (¬u1[r0.toNat]! =(0:Int)) (fun h17=>?_) fun h17=>?_
 refine sq<|rG cx [4] [] (fT (A7z (u1[r0.toNat]!) ((0:Int))) (oA 2 (.i .i64 (I7 u1[r0.toNat]! (0:Int))) z0))<|sn<|rT<|bR<|nR<|nR<|bR<|nR<|qR (.i .i64 (I7 u1[r0.toNat]! (0:Int))) (.eq (by exact congrArg (AV.i .i64) (D h6 h8 h10 h13 (Eq.refl _) (O6 h10 h15) h17 h12)))
 refine sK<|bN<|sn<|rG cx [5,6,14] [5,6] (tW 0 (r0+1) z0)<|sn<|nX ((r0+1,u1,c2,v3,d4)) (show(16-(r0+1)).toNat <(16-r0).toNat from(by omega)) (show Ap0 (A5 p) (A5 q) (r0+1) u1 c2 v3 d4 from(by exact N h6 h7 h8 h9 h10 h13 (Eq.refl _) (O6 h10 h15) h17 h12))
 refine sK<|sn<|sq<|rD cx [5,6,14,7,8,9,31] [5,6] (tL 3 c3 v3 (zB 4 (r0 <(↑v3.length:Int)))) (fun h18=>?_) fun h18=>?_
 refine rG cx [5,6,14,8,9] [5,6] (fA (0≤r0) (fG c3 v3 r0.toNat (fR 1 (oR 3 (c3 v3[r0.toNat]!) z0))))<|sn<|sq<|rG cx [5,6,14,8,9,39] [5,6] (tN 2 (0:Int) v3[r0.toNat]! z0)<|sn<|dC (¬0=v3[r0.toNat]!) (fun h19=>?_) fun h19=>?_
 refine sq<|rG cx [4] [] (fT (A7z ((0:Int)) (v3[r0.toNat]!)) (oA 2 (.i .i64 (I7 (0:Int) v3[r0.toNat]!)) z0))<|sn<|rT<|bR<|nR<|nR<|bR<|nR<|qR (.i .i64 (I7 (0:Int) v3[r0.toNat]!)) (.eq (by exact congrArg (AV.i .i64) (D h6 h8 h10 h13 (O6 h10 h14) (Eq.refl _) h19 h12)))
 refine sK<|bN<|sn<|rG cx [5,6,14] [5,6] (tW 0 (r0+1) z0)<|sn<|nX ((r0+1,u1,c2,v3,d4)) (show(16-(r0+1)).toNat <(16-r0).toNat from(by omega)) (show Ap0 (A5 p) (A5 q) (r0+1) u1 c2 v3 d4 from(by exact N h6 h7 h8 h9 h10 h13 (O6 h10 h14) (Eq.refl _) h19 h12))
 refine sK<|sn<|sq<|rG cx [5,6,14,8,9,39] [5,6] z0<|sn<|A23 (by kernel_rfl) (by kernel_rfl)<|sK<|bN<|sn<|rG cx [5,6,14] [5,6] (tW 0 (r0+1) z0)<|sn<|nX ((r0+1,u1,c2,v3,d4)) (show(16-(r0+1)).toNat <(16-r0).toNat from(by omega)) (show Ap0 (A5 p) (A5 q) (r0+1) u1 c2 v3 d4 from(by exact N h6 h7 h8 h9 h10 h13 (O6 h10 h14) (O6 h10 h18) (fun k=>k (Eq.refl _)) h12))
 refine eX 0<|nE<|nE<|bH<|sn<|sq<|rG cx [4] [] (fT (con147 (c2) (d4)) (oA 4 (.i .i64 (O3 c2 d4)) z0))<|sn<|rT<|qR (.i .i64 (O3 c2 d4)) (.eq (by rw[h7,h9,A9h (Ag7 h11 h13 h12)]))
end Go.Proofs.YtokhjapfekbobaaGreat
namespace Go.Proofs.YtokhjapfekbobaaGreat
open Go.E
set_option maxRecDepth 100000
set_option maxHeartbeats 4000000
theorem A1m(a b:UInt8)(x y:List UInt8):Go.Op.bytesLess (a :: x) (b :: y)=true↔a.toNat < b.toNat∨(a=b∧Go.Op.bytesLess x y=true):=by
 rw[Go.Op.bytesLess,Bool.or_eq_true,Bool.and_eq_true,decide_eq_true_eq,beq_iff_eq,UInt8.lt_iff_toNat_lt]
theorem Bc5:∀ l:List UInt8,¬ Go.Op.bytesLess l l=true
 | []=>by simp [Go.Op.bytesLess]
 | a :: l=>by
  rw[A1m]
  rintro(h | h)
  ·omega
  ·exact Bc5 l h.2
theorem Av4:∀ {x y z:List UInt8},Go.Op.bytesLess x y=true→Go.Op.bytesLess y z=true→Go.Op.bytesLess x z=true
 | _,[],_,h,_=>by cases ‹List UInt8› <;> simp [Go.Op.bytesLess]at h
 | _,_ :: _,[],_,h=>by simp [Go.Op.bytesLess]at h
 | [],_ :: _,c :: z,_,_=>by simp [Go.Op.bytesLess]
 | a :: x,b :: y,c :: z,h1,h2=>by
  rw[A1m]at *
  rcases h1 with h1 | ⟨rfl,h1⟩
  ·rcases h2 with h2 | ⟨rfl,h2⟩
   ·exact .inl (by omega)
   ·exact .inl h1
  ·rcases h2 with h2 | ⟨rfl,h2⟩
   ·exact .inl h2
   ·exact .inr ⟨rfl,Av4 h1 h2⟩
theorem Av5:∀ {x y:List UInt8},¬ Go.Op.bytesLess x y=true→¬ Go.Op.bytesLess y x=true→x=y
 | [],[],_,_=>rfl
 | [],b :: y,h,_=>by simp [Go.Op.bytesLess]at h
 | a :: x,[],_,h=>by simp [Go.Op.bytesLess]at h
 | a :: x,b :: y,h1,h2=>by
  rw[A1m]at *
  have e:a=b:=UInt8.toNat_inj.1 (by omega)
  subst e
  rw[Av5 (fun h=>h1 (.inr ⟨rfl,h⟩)) (fun h=>h2 (.inr ⟨rfl,h⟩))]
theorem A3f(x:ByteArray):¬ sLt x x=true:=Bc5 _
theorem A5j{x y z:ByteArray}(h1:sLt x y=true)(h2:sLt y z=true):sLt x z=true:=Av4 h1 h2
theorem A2f{x y:ByteArray}(h1:¬ sLt x y=true)(h2:¬ sLt y x=true):x=y:=by
 have e:=Av5 h1 h2
 rw[ByteArray.toList_eq,ByteArray.toList_eq]at e
 exact ByteArray.ext (Array.ext' e)
end Go.Proofs.YtokhjapfekbobaaGreat
namespace Go.Proofs.YtokhjapfekbobaaGreat
open Go.E
set_option maxRecDepth 100000
set_option maxHeartbeats 4000000
open Go Go.Lib Go.RowKit Go.Proofs
def A09(a b:ByteArray):Int:=compareBytes a.data.toList b.data.toList
theorem Ag8:∀ x y:List UInt8,compareBytes x y=if Go.Op.bytesLess x y=true then -1 else if Go.Op.bytesLess y x=true then 1 else 0
 | [],[]=>rfl
 | [],b :: y=>by simp [compareBytes,Go.Op.bytesLess]
 | a :: x,[]=>by simp [compareBytes,Go.Op.bytesLess]
 | a :: x,b :: y=>by
  have ih:=Ag8 x y
  rw[compareBytes]
  by_cases h1:a < b
  ·rw[if_pos h1,if_pos ((A1m _ _ _ _).2 (.inl (UInt8.lt_iff_toNat_lt.1 h1)))]
  ·by_cases h2:b < a
   ·rw[if_neg h1,if_pos h2,if_neg,if_pos ((A1m _ _ _ _).2 (.inl (UInt8.lt_iff_toNat_lt.1 h2)))]
    rw[A1m]
    rintro(k | ⟨rfl,_⟩)
    ·exact h1 (UInt8.lt_iff_toNat_lt.2 k)
    ·rw[UInt8.lt_iff_toNat_lt]at h2;omega
   ·have e:a=b:=UInt8.toNat_inj.1 (by rw[UInt8.lt_iff_toNat_lt]at h1 h2;omega)
    subst e
    rw[if_neg h1,if_neg h1,ih]
    have c:∀ u v:List UInt8,Go.Op.bytesLess (a :: u) (a :: v)=Go.Op.bytesLess u v:=fun u v=>by
     rw[Bool.eq_iff_iff,A1m]
     constructor
     ·rintro(k | ⟨_,k⟩)
      ·omega
      ·exact k
     ·exact fun k=>.inr ⟨rfl,k⟩
    rw[c,c]
theorem L1(a b:ByteArray):A09 a b=if sLt a b=true then -1 else if sLt b a=true then 1 else 0:=by
 unfold A09 sLt
 rw[ByteArray.toList_eq,ByteArray.toList_eq]
 exact Ag8 _ _
set_option maxHeartbeats 4000000 in
theorem A9i (a b:ByteArray) (w:World):Calls Tryz.prog 145 #[.string a,.string b] w fun e w'=>e=.returned (.int .i64 (A09 a b))∧w'=w:=by
 go_enter Tryz.func145,Tryz.ntmps145
 go_wp2
 rw[run_callFunc_extern Tryz.func192 (by kernel_rfl) (by kernel_rfl) (by kernel_rfl) (e:=Extern.BytealgCompare.compare) (by kernel_rfl),Lib.run_compareString]
 simp only [Result.andThen]
 rw[Oper.upon_value]
 go_wp2
 go_ret
 exact⟨rfl,rfl⟩
theorem con145(a b:ByteArray):Con Tryz.prog 145 [.s a,.s b] (.i .i64 (A09 a b)):=by
 refine⟨⟨_,Tryz.func145,by kernel_rfl,by kernel_rfl⟩,fun w S0 vs hS hl hv=>?_⟩
 obtain⟨v,u,rfl⟩:∃ v u,vs=[v,u]:=by
  match vs,hl with
  | [v,u],_=>exact⟨v,u,rfl⟩
 have h1:=hv 0 _ v rfl rfl
 have h2:=hv 1 _ u rfl rfl
 cases h1
 cases h2
 refine(A9i a b w).mono ?_
 rintro e w' ⟨rfl,rfl⟩
 exact⟨_,rfl,.i _ _,Below.refl _ _⟩
theorem con102(a b:ByteArray):Con Tryz.prog 102 [.s a,.s b] (.i .i64 (A09 a b)) :=
 by
 refine sC A9 [.tmp 4] 8 Tryz.func102 ?_
 intro e0 cx
 refine sq<|rG cx [0,1] [] z0<|sn<|sq<|rG cx [4] [] (fT (con145 (a) (b)) (oA 2 (.i .i64 (A09 a b)) z0))<|sn<|rT ?_
 exact A43 (r:=.i .i64 (A09 a b)) (obl:=[]) (by kernel_rfl) trivial (B9.refl _)
end Go.Proofs.YtokhjapfekbobaaGreat
namespace Go.Proofs.YtokhjapfekbobaaGreat
open Go.E
set_option maxRecDepth 100000
set_option maxHeartbeats 4000000
def H7:List Run→Int
 | []=>0
 | r :: l=>r.hi-r.lo+1+H7 l
theorem B3v(a b:List Run):H7 (a++b)=H7 a+H7 b:=by
 induction a with
 | nil=>simp [H7]
 | cons e a ih=>simp only [List.cons_append,H7,ih];omega
end Go.Proofs.YtokhjapfekbobaaGreat
namespace Go.Proofs.YtokhjapfekbobaaGreat
open Go.E
set_option maxRecDepth 100000
set_option maxHeartbeats 4000000
def sizeT(T:Nat→List Run):Nat→Int
 | 0=>0
 | n+1=>sizeT T n+H7 (nrm (T n))
theorem B3w(p:Past):∃ n:Int,n=sizeT (A8 [p]) 16:=⟨_,rfl⟩
noncomputable def C2(p:Past):Int:=Classical.choose (B3w p)
theorem A9j(p:Past):C2 p=sizeT (A8 [p]) 16:=Classical.choose_spec (B3w p)
theorem A5k:∀ {l:List Run},N7 l→0≤H7 l∧(H7 l=0→l=[])
 | [],_=>⟨Int.le_refl _,fun _=>rfl⟩
 | r :: l,h=>by
  have hr:=h.2 r (by simp)
  have ih:=(A5k (H9 h)).1
  rw[H7]
  exact⟨by omega,fun k=>by omega⟩
theorem Av6:∀ {l:List Run},N7 l→∀ m:Int,(∀ r∈l,m≤r.lo)→H7 l≤1000000001-m∨l=[]
 | [],_,m,_=>.inr rfl
 | r :: l,h,m,hm=>by
  have hr:=h.2 r (by simp)
  have h1:=hm r (by simp)
  have pa:=(List.pairwise_cons.1 h.1).1
  rw[H7]
  rcases Av6 (H9 h) (r.hi+1) (fun x hx=>by have:=pa x hx;omega)with k | k
  ·left;omega
  ·subst k
   left
   rw[H7]
   omega
theorem A2g{l:List Run}(h:N7 l):0≤H7 l∧H7 l≤1000000000:=by
 refine⟨(A5k h).1,?_⟩
 rcases Av6 h 1 (fun r hr=>(h.2 r hr).1)with k | k
 ·omega
 ·subst k;simp [H7]
theorem A2h(T:Nat→List Run):∀ n:Nat,0≤sizeT T n∧sizeT T n≤n*1000000000
 | 0=>by simp [sizeT]
 | n+1=>by
  have:=A2h T n
  have:=A2g (F1 (T n))
  rw[sizeT]
  omega
theorem A80(T:Nat→List Run):∀ n:Nat,sizeT T n=0↔∀ r:Nat,r < n→nrm (T r)=[]
 | 0=>by simp [sizeT]
 | n+1=>by
  have h1:=A2h T n
  have h2:=A5k (F1 (T n))
  have ih:=A80 T n
  rw[sizeT]
  constructor
  ·intro k r hr
   by_cases e:r=n
   ·rw[e];exact h2.2 (by omega)
   ·exact ih.1 (by omega) r (by omega)
  ·intro k
   rw[ih.2 fun r hr=>k r (by omega),k n (by omega)]
   rfl
theorem A5l{a:List Run}:nrm a=[]↔∀ n,¬ inR (nrm a) n:=by
 constructor
 ·intro h n k
  rw[h]at k
  obtain⟨r,hr,_⟩:=k
  cases hr
 ·intro h
  cases e:nrm a with
  | nil=>rfl
  | cons r l =>
   have hs:=F1 a
   rw[e]at hs h
   have:=hs.2 r (by simp)
   exact absurd ⟨r,by simp,Int.le_refl _,this.2.1⟩ (h r.lo)
theorem W0(p:Past):C2 p=0↔∀ d,D0 p d=false:=by
 rw[A9j,A80]
 constructor
 ·intro h d
  rw[← Y0,← Bool.not_eq_true]
  intro k
  unfold A5 at k
  rw[Q8]at k
  have hb:=H4 k.1
  have:=A5l.1 (h d.rep.toNat (by omega)) d.num
  rw[Z6]at this
  exact this ⟨by omega,by omega,k.2⟩
 ·intro h r hr
  refine A5l.2 fun n k=>?_
  rw[Z6]at k
  have hd:M3 ⟨r,n⟩=true:=by unfold M3;rw[decide_eq_true_eq];simp only;omega
  have h1:=h ⟨r,n⟩
  rw[← Y0,← Bool.not_eq_true]at h1
  refine h1 ?_
  unfold A5
  rw[Q8]
  exact⟨hd,k.2.2⟩
theorem B7z(d:Dot):D0 ⟨[],[]⟩ d=false:=by
 unfold D0
 cases h:M3 d with
 | false=>rfl
 | true =>
  have hb:=H4 h
  simp
  omega
theorem Ag9:A5 ⟨[],[]⟩=⟨[],[]⟩:=by
 have h1:∀ r:Nat,r < 16→A8 [⟨[],[]⟩] r=[]:=fun r hr=>by simp [A8,B0q,T0]
 have h2:nrm []=[]:=by
  refine A5l.2 fun n k=>?_
  rw[Z6]at k
  obtain⟨r,hr,_⟩:=k.2.2
  cases hr
 unfold A5
 rw[V8 (U:=fun _=>[]) fun r hr=>h1 r hr]
 have l0:∀ r,A12 (fun _=>[]) r=0:=fun r=>by unfold A12;rw[h2];rfl
 have s0:∀ n,szT (fun _=>[]) n=0:=fun n=>by
  induction n with
  | zero=>rfl
  | succ n ih=>rw[szT,if_neg (by rw[l0];omega),ih]
 have c0:∀ n,I9 (fun _=>[]) n=[]:=fun n=>by
  induction n with
  | zero=>rfl
  | succ n ih=>rw[I9,ih];unfold X8;rw[h2];rfl
 unfold G1
 rw[s0,c0]
 rfl
end Go.Proofs.YtokhjapfekbobaaGreat
namespace Go.Proofs.YtokhjapfekbobaaGreat
open Go.E
set_option maxRecDepth 100000
set_option maxHeartbeats 4000000
def Q9(c:Int):Bool:=decide (65≤c∧c≤90)
def U0(c:Int):Bool:=decide (48≤c∧c≤57)
def G8(c:Int):Bool:=decide (c=45∨c=46)
def J1(s:ByteArray)(i:Nat):Bool:=Q9 (byt s i) || U0 (byt s i) || (G8 (byt s i) && decide (i≠0∧i+1≠s.size) && !G8 (byt s (i-1)))
def Ap1(p:Nat→Bool):Nat→Bool
 | 0=>true
 | n+1=>Ap1 p n && p n
theorem J8(p:Nat→Bool):∀ n,Ap1 p n=true↔∀ i,i < n→p i=true
 | 0=>by simp [Ap1]
 | n+1=>by
  rw[Ap1,Bool.and_eq_true,J8 p n]
  constructor
  ·rintro⟨h1,h2⟩ i hi
   by_cases e:i=n
   ·rw[e];exact h2
   ·exact h1 i (by omega)
  ·intro h;exact⟨fun i hi=>h i (by omega),h n (by omega)⟩
def A5m(s:ByteArray):Int:=if s.size=0 then 20 else if 24 < s.size then 21 else if Ap1 (J1 s) s.size=true then 0 else 22
def M4(s:ByteArray):Bool:=decide (A5m s=0)
def Bc6(s:ByteArray)(i:Int):Prop:=0≤i∧i≤s.size∧∀ j:Nat,(j:Int) < i→J1 s j=true
def decG(s:ByteArray)(i:Int):Nat:=(s.size-i).toNat
theorem Av7{s:ByteArray}(h0:¬ s.size=0)(h1:¬ 24 < s.size){i:Nat}(hi:i < s.size)(h:J1 s i=false):A5m s=22:=by
 unfold A5m
 rw[if_neg h0,if_neg h1,if_neg]
 intro k
 have:=(J8 _ _).1 k i hi
 rw[h]at this;cases this
theorem B3x{s:ByteArray}(h0:¬ s.size=0)(h1:¬ 24 < s.size)(h:∀ j:Nat,j < s.size→J1 s j=true):A5m s=0:=by
 unfold A5m
 rw[if_neg h0,if_neg h1,if_pos ((J8 _ _).2 h)]
theorem A2i(s:ByteArray):s.size=0↔s=⟨#[]⟩:=by
 constructor
 ·intro h;exact ByteArray.ext (Array.eq_empty_of_size_eq_zero h)
 ·rintro rfl;rfl
theorem L2(s:ByteArray)(i:Nat):J1 s i=true↔Q9 (byt s i)=true∨U0 (byt s i)=true∨(G8 (byt s i)=true∧i≠0∧i+1≠s.size∧¬ G8 (byt s (i-1))=true):=by
 unfold J1
 cases Q9 (byt s i) <;> cases U0 (byt s i) <;> cases G8 (byt s i) <;> cases G8 (byt s (i-1)) <;> simp
theorem A5n{s:ByteArray}{i:Int}(h0:0≤i)(h1:i < s.size)(h2:∀ j:Nat,(j:Int) < i→J1 s j=true)(h:J1 s i.toNat=true):Bc6 s (i+1) :=
 ⟨by omega,by omega,fun j hj=>by
  by_cases e:j=i.toNat
  ·rw[e];exact h
  ·exact h2 j (by omega)⟩
theorem W1{s:ByteArray}{i:Nat}(h:¬ J1 s i=true):J1 s i=false:=by simpa using h
theorem Bc7(c:Int):Con Tryz.prog 180 [.i .u8 c] (.b (Q9 c)) :=
 by
 refine sC A9 [.tmp 2] 9 Tryz.func180 ?_
 intro e0 cx
 refine sq<|rG cx [0] [] z0<|sn<|sq<|B3 (σ':=⟨[(2,.b (decide (65≤c∧c≤90)))],[]⟩) ?_ ?_
 refine A4 (65≤c) (fun h_1=>?_) (fun h_1=>?_)
 refine rG cx [2] [] (tT 1 (A3 h_1) (tB 4 (c≤90) (tD 6 (decide (c≤90)) (65≤c∧c≤90) (by simp only [eq_true h_1,tsl]) z0))) ?_
 exact⟨rfl,by kernel_rfl⟩
 refine rG cx [2] [] (tT 1 (A0 h_1) (tD 6 false (65≤c∧c≤90) (by simp only [eq_false h_1,tsl]) z0)) ?_
 exact⟨rfl,by kernel_rfl⟩
 refine sn<|rT<|qR (.b (decide (65≤c∧c≤90))) (.eq ?g0);rotate_left
 case g0=>exact rfl
theorem con181(c:Int):Con Tryz.prog 181 [.i .u8 c] (.b (U0 c)) :=
 by
 refine sC A9 [.tmp 2] 9 Tryz.func181 ?_
 intro e0 cx
 refine sq<|rG cx [0] [] z0<|sn<|sq<|B3 (σ':=⟨[(2,.b (decide (48≤c∧c≤57)))],[]⟩) ?_ ?_
 refine A4 (48≤c) (fun h_1=>?_) (fun h_1=>?_)
 refine rG cx [2] [] (tT 1 (A3 h_1) (tB 4 (c≤57) (tD 6 (decide (c≤57)) (48≤c∧c≤57) (by simp only [eq_true h_1,tsl]) z0))) ?_
 exact⟨rfl,by kernel_rfl⟩
 refine rG cx [2] [] (tT 1 (A0 h_1) (tD 6 false (48≤c∧c≤57) (by simp only [eq_false h_1,tsl]) z0)) ?_
 exact⟨rfl,by kernel_rfl⟩
 refine sn<|rT<|qR (.b (decide (48≤c∧c≤57))) (.eq ?g0);rotate_left
 case g0=>exact rfl
theorem Ah0(c:Int):Con Tryz.prog 182 [.i .u8 c] (.b (G8 c)) :=
 by
 refine sC A9 [.tmp 2] 9 Tryz.func182 ?_
 intro e0 cx
 refine sq<|rG cx [0] [] z0<|sn<|sq<|B3 (σ':=⟨[(2,.b (decide (c=45∨c=46)))],[]⟩) ?_ ?_
 refine A4 (c=45) (fun h_1=>?_) (fun h_1=>?_)
 refine rG cx [2] [] (tT 1 (A3 h_1) (tD 6 true (c=45∨c=46) (by simp only [eq_true h_1,tsl]) z0)) ?_
 exact⟨rfl,by kernel_rfl⟩
 refine rG cx [2] [] (tT 1 (A0 h_1) (tB 4 (c=46) (tD 6 (decide (c=46)) (c=45∨c=46) (by simp only [eq_false h_1,tsl]) z0))) ?_
 exact⟨rfl,by kernel_rfl⟩
 refine sn<|rT<|qR (.b (decide (c=45∨c=46))) (.eq ?g0);rotate_left
 case g0=>exact rfl
theorem Bc8(c:Int):Con Tryz.prog 201 [.i .u8 c] (.b (Q9 c)) :=
 by
 refine sC A9 [.tmp 2] 9 Tryz.func201 ?_
 intro e0 cx
 refine sq<|rG cx [0] [] z0<|sn<|sq<|B3 (σ':=⟨[(2,.b (decide (65≤c∧c≤90)))],[]⟩) ?_ ?_
 refine A4 (65≤c) (fun h_1=>?_) (fun h_1=>?_)
 refine rG cx [2] [] (tT 1 (A3 h_1) (tB 4 (c≤90) (tD 6 (decide (c≤90)) (65≤c∧c≤90) (by simp only [eq_true h_1,tsl]) z0))) ?_
 exact⟨rfl,by kernel_rfl⟩
 refine rG cx [2] [] (tT 1 (A0 h_1) (tD 6 false (65≤c∧c≤90) (by simp only [eq_false h_1,tsl]) z0)) ?_
 exact⟨rfl,by kernel_rfl⟩
 refine sn<|rT<|qR (.b (decide (65≤c∧c≤90))) (.eq ?g0);rotate_left
 case g0=>exact rfl
theorem con202(c:Int):Con Tryz.prog 202 [.i .u8 c] (.b (U0 c)) :=
 by
 refine sC A9 [.tmp 2] 9 Tryz.func202 ?_
 intro e0 cx
 refine sq<|rG cx [0] [] z0<|sn<|sq<|B3 (σ':=⟨[(2,.b (decide (48≤c∧c≤57)))],[]⟩) ?_ ?_
 refine A4 (48≤c) (fun h_1=>?_) (fun h_1=>?_)
 refine rG cx [2] [] (tT 1 (A3 h_1) (tB 4 (c≤57) (tD 6 (decide (c≤57)) (48≤c∧c≤57) (by simp only [eq_true h_1,tsl]) z0))) ?_
 exact⟨rfl,by kernel_rfl⟩
 refine rG cx [2] [] (tT 1 (A0 h_1) (tD 6 false (48≤c∧c≤57) (by simp only [eq_false h_1,tsl]) z0)) ?_
 exact⟨rfl,by kernel_rfl⟩
 refine sn<|rT<|qR (.b (decide (48≤c∧c≤57))) (.eq ?g0);rotate_left
 case g0=>exact rfl
theorem Bc9(c:Int):Con Tryz.prog 203 [.i .u8 c] (.b (G8 c)) :=
 by
 refine sC A9 [.tmp 2] 9 Tryz.func203 ?_
 intro e0 cx
 refine sq<|rG cx [0] [] z0<|sn<|sq<|B3 (σ':=⟨[(2,.b (decide (c=45∨c=46)))],[]⟩) ?_ ?_
 refine A4 (c=45) (fun h_1=>?_) (fun h_1=>?_)
 refine rG cx [2] [] (tT 1 (A3 h_1) (tD 6 true (c=45∨c=46) (by simp only [eq_true h_1,tsl]) z0)) ?_
 exact⟨rfl,by kernel_rfl⟩
 refine rG cx [2] [] (tT 1 (A0 h_1) (tB 4 (c=46) (tD 6 (decide (c=46)) (c=45∨c=46) (by simp only [eq_false h_1,tsl]) z0))) ?_
 exact⟨rfl,by kernel_rfl⟩
 refine sn<|rT<|qR (.b (decide (c=45∨c=46))) (.eq ?g0);rotate_left
 case g0=>exact rfl
theorem con176(s:ByteArray)(i:Int)(h0:0≤i)(h1:i < s.size)(h2:s.size≤24):Con Tryz.prog 176 [.s s,.i .i64 i] (.b (J1 s i.toNat)) :=
 by
 refine sC A9 [.tmp 4] 33 Tryz.func176 ?_
 intro e0 cx
 refine sq<|rG cx [0,1] [] z0<|sn<|sq ?_
 have hl_0:=(X4 s)
 have hl_1:=(X4 s i.toNat)
 refine rG cx [0,1,5] [] (fA (0≤i) (fP (Option.map (fun b ↦ (↑b.toNat:Int)) s[i.toNat]?=some (byt s i.toNat)) (by(with_reducible refine A8w ?_;omega)) (oA 2 (.i .u8 (byt s i.toNat)) z0))) ?_
 refine sn<|sq<|sq<|B3 (σ':=⟨[(0,.s (s)),(1,.i .i64 (i)),(5,.i .u8 (byt s i.toNat)),(14,.b (decide (Q9 (byt s i.toNat)=true∨U0 (byt s i.toNat)=true)))],[]⟩) ?_ ?_
 refine A4 (Q9 (byt s i.toNat)=true) (fun h_3=>?_) (fun h_3=>?_)
 refine rg (A:=_∧_∧(AV.b true=AV.b (decide (Q9 (byt s i.toNat)=true∨U0 (byt s i.toNat)=true)))) cx [(1,{ val:=some (.b (Q9 (byt s i.toNat))),tell:=some (.b (true)) }),(5,{ tell:=some (.b (decide (Q9 (byt s i.toNat)=true∨U0 (byt s i.toNat)=true))) })] [0,1,5,14] [] ⟨(At4 h_3),(Bc8 (byt s i.toNat)),(by simp only [eq_true h_3,tsl])⟩ ?_
 exact⟨rfl,by kernel_rfl⟩
 refine rg (A:=_∧_∧_∧(AV.b (U0 (byt s i.toNat))=AV.b (decide (Q9 (byt s i.toNat)=true∨U0 (byt s i.toNat)=true)))) cx [(1,{ val:=some (.b (Q9 (byt s i.toNat))),tell:=some (.b (false)) }),(4,{ val:=some (.b (U0 (byt s i.toNat))) }),(5,{ tell:=some (.b (decide (Q9 (byt s i.toNat)=true∨U0 (byt s i.toNat)=true))) })] [0,1,5,14] [] ⟨(S6 h_3),(Bc8 (byt s i.toNat)),(con202 (byt s i.toNat)),(by simp only [eq_false h_3,tsl])⟩ ?_
 exact⟨rfl,by kernel_rfl⟩
 refine sn<|dC (Q9 (byt s i.toNat)=true∨U0 (byt s i.toNat)=true) (fun h4=>?_) fun h4=>?_
 refine sq<|rG cx [4] [] z0<|sn<|rT<|nR<|qR (.b (true)) (.eq ?g0);rotate_left
 refine sK<|sn<|sq<|sq<|rG cx [0,1,17] [] (fT (Bc9 (byt s i.toNat)) (tT 2 (C9:(AV.b !G8 (byt s i.toNat))=AV.b (decide ¬G8 (byt s i.toNat)=true)) (oA 1 (.b (G8 (byt s i.toNat))) z0)))<|sn<|dC (¬G8 (byt s i.toNat)=true) (fun h5=>?_) fun h5=>?_
 refine sq<|rG cx [4] [] z0<|sn<|rT<|nR<|qR (.b (false)) (.eq ?g1);rotate_left
 refine sK<|sn<|sq<|sq<|B3 (σ':=⟨[(0,.s (s)),(1,.i .i64 (i)),(26,.b (decide (i=0∨i=(↑s.size:Int)-1)))],[]⟩) ?_ ?_
 refine A4 (i=0) (fun h_7=>?_) (fun h_7=>?_)
 refine rG cx [0,1,26] [] (tT 1 (A3 h_7) (tD 8 true (i=0∨i=(↑s.size:Int)-1) (by simp only [eq_true h_7,tsl]) z0)) ?_
 exact⟨rfl,by kernel_rfl⟩
 refine rG cx [0,1,26] [] (tT 1 (A0 h_7) (tW 6 ((↑s.size:Int)-1) (tB 7 (i=(↑s.size:Int)-1) (tD 8 (decide (i=(↑s.size:Int)-1)) (i=0∨i=(↑s.size:Int)-1) (by simp only [eq_false h_7,tsl]) z0)))) ?_
 exact⟨rfl,by kernel_rfl⟩
 refine sn<|dC (i=0∨i=(↑s.size:Int)-1) (fun h8=>?_) fun h8=>?_
 refine sq<|rG cx [4] [] z0<|sn<|rT<|nR<|qR (.b (false)) (.eq ?g2);rotate_left
 refine sK<|sn<|sq ?_
 have hl_9:=(X4 s (i-1).toNat)
 refine rG cx [4] [] (tW 2 (i-1) (fO (0≤i-1) (fP (Option.map (fun b ↦ (↑b.toNat:Int)) s[(i-1).toNat]?=some (byt s (i-1).toNat)) (by(with_reducible refine A8w ?_;omega)) (fT (Bc9 (byt s (i-1).toNat)) (tT 5 (C9:(AV.b !G8 (byt s (i-1).toNat))=AV.b (decide ¬G8 (byt s (i-1).toNat)=true)) (oA 3 (.i .u8 (byt s (i-1).toNat)) (oA 4 (.b (G8 (byt s (i-1).toNat))) z0))))))) ?_
 refine sn<|rT<|qR (.b (decide ¬G8 (byt s (i-1).toNat)=true)) (.eq ?g3);rotate_left
 revert h4;rotate_left
 revert h4 h5;rotate_left
 revert h4 h5 h8;rotate_left
 revert h4 h5 h8;rotate_left
 case' g3=>refine(fun h k l=>?_)
 case' g2=>refine(fun h k l=>?_)
 case' g1=>refine(fun h k=>?_)
 case' g0=>refine(fun h=>?_)
 ·rw[(L2 s i.toNat).2 (h.elim .inl fun h=>.inr (.inl h))]
 ·rw[W1];rw[L2];rintro(a | a | a)
  ·exact h (.inl a)
  ·exact h (.inr a)
  ·exact k a.1
 ·rw[W1];rw[L2];rintro(a | a | a)
  ·exact h (.inl a)
  ·exact h (.inr a)
  ·omega
 ·have e:(i-1).toNat=i.toNat-1:=by omega
  rw[e]
  by_cases m:G8 (byt s (i.toNat-1))=true
  ·rw[W1]
   ·rw[m];rfl
   ·rw[L2];rintro(a | a | a)
    ·exact h (.inl a)
    ·exact h (.inr a)
    ·exact a.2.2.2 m
  ·rw[(L2 s i.toNat).2 (.inr (.inr ⟨Classical.not_not.1 k,by omega,by omega,m⟩)),decide_eq_true m]
theorem Bd0(s:ByteArray):Con Tryz.prog 140 [.s s] (.tup [.dead,.i .i64 (A5m s)]) :=
 by
 refine sC A9 [.tmp 2,.tmp 3] 48 Tryz.func140 ?_
 intro e0 cx
 refine sq<|rG cx [0] [] z0<|sn<|sq<|sq<|rG cx [0,7] [] (tT 1 (A4f:AV.b (s.toList == { data:=#[]:ByteArray }.toList)=AV.b (decide (s={ data:=#[]:ByteArray }))) z0)<|sn<|dC (s={ data:=#[]:ByteArray }) (fun hh0=>?_) fun hh0=>?_
 refine sq<|rG cx [2,3] [] z0<|sn<|rT<|nR<|qR (.tup [.i .i64 ((0:Int)),.i .i64 ((20:Int))]) (B9.tup (ZLe.cons B9.dead (ZLe.cons (B9.eq (show AV.i .i64 20=AV.i .i64 (A5m s)from ?g0)) ZLe.nil)));rotate_left
 refine sK<|sn<|sq<|rD cx [0,10] [] (zB 2 ((24:Int) <(↑s.size:Int))) (fun hh1=>?_) fun hh1=>?_
 refine sq<|rG cx [2,3] [] z0<|sn<|rT<|nR<|qR (.tup [.i .i64 ((0:Int)),.i .i64 ((21:Int))]) (B9.tup (ZLe.cons B9.dead (ZLe.cons (B9.eq (show AV.i .i64 21=AV.i .i64 (A5m s)from ?g1)) ZLe.nil)));rotate_left
 refine sK<|sn<|sq<|sq<|rG cx [0,12,13] [] z0<|sn<|bL 0<|sL (X:=Int) (fun x=>⟨[(0,.s (s)),(12,.i .i64 ((↑s.size:Int))),(13,.i .i64 (x))],[]⟩) (fun x ↦ decG s x) (fun x ↦ Bc6 s x) [0,12,13] [] ((0:Int)) (show Bc6 s (0:Int)from ?g2) ?_;rotate_left
 intro i2 h_3
 obtain⟨hh4,hh5,h6⟩:0≤i2∧i2≤(↑s.size:Int)∧∀(j:Nat),(↑j:Int) < i2→J1 s j=true:=h_3
 refine rE cx [0,12,13,14] [] (zB 0 (i2 <(↑s.size:Int))) (fun h7=>?_) fun h7=>?_
 refine sK<|sn<|sq<|bL 1<|sq<|rG cx [0,12,13,4] [] z0<|sn<|sq ?_
 have hl_8:=(X4 s)
 have hl_9:=(X4 s i2.toNat)
 refine rG cx [0,12,13,4,5] [] (fA (0≤i2) (fP (Option.map (fun b ↦ (↑b.toNat:Int)) s[i2.toNat]?=some (byt s i2.toNat)) (by(with_reducible refine A8w ?_;omega)) (oA 2 (.i .u8 (byt s i2.toNat)) z0))) ?_
 refine sn<|sq<|sq<|B3 (σ':=⟨[(0,.s (s)),(12,.i .i64 ((↑s.size:Int))),(13,.i .i64 (i2)),(4,.i .i64 (i2)),(5,.i .u8 (byt s i2.toNat)),(24,.b (decide (Q9 (byt s i2.toNat)=true∨U0 (byt s i2.toNat)=true)))],[]⟩) ?_ ?_
 refine A4 (Q9 (byt s i2.toNat)=true) (fun h_11=>?_) (fun h_11=>?_)
 refine rg (A:=_∧_∧(AV.b true=AV.b (decide (Q9 (byt s i2.toNat)=true∨U0 (byt s i2.toNat)=true)))) cx [(1,{ val:=some (.b (Q9 (byt s i2.toNat))),tell:=some (.b (true)) }),(5,{ tell:=some (.b (decide (Q9 (byt s i2.toNat)=true∨U0 (byt s i2.toNat)=true))) })] [0,12,13,4,5,24] [] ⟨(At4 h_11),(Bc7 (byt s i2.toNat)),(by simp only [eq_true h_11,tsl])⟩ ?_
 exact⟨rfl,by kernel_rfl⟩
 refine rg (A:=_∧_∧_∧(AV.b (U0 (byt s i2.toNat))=AV.b (decide (Q9 (byt s i2.toNat)=true∨U0 (byt s i2.toNat)=true)))) cx [(1,{ val:=some (.b (Q9 (byt s i2.toNat))),tell:=some (.b (false)) }),(4,{ val:=some (.b (U0 (byt s i2.toNat))) }),(5,{ tell:=some (.b (decide (Q9 (byt s i2.toNat)=true∨U0 (byt s i2.toNat)=true))) })] [0,12,13,4,5,24] [] ⟨(S6 h_11),(Bc7 (byt s i2.toNat)),(con181 (byt s i2.toNat)),(by simp only [eq_false h_11,tsl])⟩ ?_
 exact⟨rfl,by kernel_rfl⟩
 refine sn<|dC (Q9 (byt s i2.toNat)=true∨U0 (byt s i2.toNat)=true) (fun h_12=>?_) fun h_12=>?_
 refine eX 1<|nE<|bH<|sn<|rG cx [0,12,13] [] (tW 0 (i2+1) z0)<|sn<|nX (i2+1) (show((↑s.size:Int)-(i2+1)).toNat <((↑s.size:Int)-i2).toNat from(by omega)) (show Bc6 s (i2+1)from ?g3);rotate_left
 refine sK<|sn<|sq<|B3 (σ':=⟨[(0,.s (s)),(12,.i .i64 ((↑s.size:Int))),(13,.i .i64 (i2)),(4,.i .i64 (i2)),(45,.b (decide (¬G8 (byt s i2.toNat)=true∨i2=0∨i2=(↑s.size:Int)-1∨G8 (byt s (i2-1).toNat)=true)))],[]⟩) ?_ ?_
 refine A4 (¬G8 (byt s i2.toNat)=true) (fun h_14=>?_) (fun h_14=>?_)
 have hl_15:=(X4 s (i2-1).toNat)
 refine rg (A:=_∧_∧(AV.b true=AV.b (decide (¬G8 (byt s i2.toNat)=true∨i2=0∨i2=(↑s.size:Int)-1∨G8 (byt s (i2-1).toNat)=true)))) cx [(1,{ val:=some (.b (G8 (byt s i2.toNat))),tell:=some (.b (false)) }),(20,{ tell:=some (.b (decide (¬G8 (byt s i2.toNat)=true∨i2=0∨i2=(↑s.size:Int)-1∨G8 (byt s (i2-1).toNat)=true))) })] [0,12,13,4,45] [] ⟨(S6 h_14),(Ah0 (byt s i2.toNat)),(by simp only [eq_false h_14,tsl])⟩ ?_
 exact⟨rfl,by kernel_rfl⟩
 refine A4 (i2=0) (fun h_16=>?_) (fun h_16=>?_)
 have hl_17:=(X4 s (i2-1).toNat)
 refine rG cx [0,12,13,4,45] [] (fT (Ah0 (byt s i2.toNat)) (tT 2 (C9:(AV.b !G8 (byt s i2.toNat))=AV.b (decide ¬G8 (byt s i2.toNat)=true)) (tT 3 (A0 h_14) (tT 5 (A3 h_16) (tT 20 (by first | (simp only [eq_false h_14,eq_true h_16,tsl];done) | simp_all:AV.b true=AV.b (decide (¬G8 (byt s i2.toNat)=true∨i2=0∨i2=(↑s.size:Int)-1∨G8 (byt s (i2-1).toNat)=true))) (oA 1 (.b (G8 (byt s i2.toNat))) z0)))))) ?_
 exact⟨rfl,by kernel_rfl⟩
 refine A4 (i2=(↑s.size:Int)-1) (fun h_18=>?_) (fun h_18=>?_)
 have hl_19:=(X4 s (i2-1).toNat)
 refine rG cx [0,12,13,4,45] [] (fT (Ah0 (byt s i2.toNat)) (tT 2 (C9:(AV.b !G8 (byt s i2.toNat))=AV.b (decide ¬G8 (byt s i2.toNat)=true)) (tT 3 (A0 h_14) (tT 5 (A0 h_16) (tW 11 ((↑s.size:Int)-1) (tT 12 (A3 h_18) (tT 20 (by first | (simp only [eq_false h_14,eq_false h_16,eq_true h_18,tsl];done) | simp_all:AV.b true=AV.b (decide (¬G8 (byt s i2.toNat)=true∨i2=0∨i2=(↑s.size:Int)-1∨G8 (byt s (i2-1).toNat)=true))) (oA 1 (.b (G8 (byt s i2.toNat))) z0)))))))) ?_
 exact⟨rfl,by kernel_rfl⟩
 have hl_20:=(X4 s (i2-1).toNat)
 refine rG cx [0,12,13,4,45] [] (fT (Ah0 (byt s i2.toNat)) (tT 2 (C9:(AV.b !G8 (byt s i2.toNat))=AV.b (decide ¬G8 (byt s i2.toNat)=true)) (tT 3 (A0 h_14) (tT 5 (A0 h_16) (tW 11 ((↑s.size:Int)-1) (tT 12 (A0 h_18) (tW 17 (i2-1) (fO (0≤i2-1) (fP (Option.map (fun b ↦ (↑b.toNat:Int)) s[(i2-1).toNat]?=some (byt s (i2-1).toNat)) (by(with_reducible refine A8w ?_;omega)) (fT (Ah0 (byt s (i2-1).toNat)) (tT 20 (by first | (simp only [eq_false h_14,eq_false h_16,eq_false h_18,tsl];done) | simp_all:AV.b (G8 (byt s (i2-1).toNat))=AV.b (decide (¬G8 (byt s i2.toNat)=true∨i2=0∨i2=(↑s.size:Int)-1∨G8 (byt s (i2-1).toNat)=true))) (oA 1 (.b (G8 (byt s i2.toNat))) (oA 18 (.i .u8 (byt s (i2-1).toNat)) (oA 19 (.b (G8 (byt s (i2-1).toNat))) z0)))))))))))))) ?_
 exact⟨rfl,by kernel_rfl⟩
 refine sn<|dC (¬G8 (byt s i2.toNat)=true∨i2=0∨i2=(↑s.size:Int)-1∨G8 (byt s (i2-1).toNat)=true) (fun h_21=>?_) fun h_21=>?_
 refine sq<|rG cx [2,3] [] z0<|sn<|rT<|bR<|nR<|nR<|bR<|nR<|qR (.tup [.i .i64 (i2),.i .i64 ((22:Int))]) (B9.tup (ZLe.cons B9.dead (ZLe.cons (B9.eq (show AV.i .i64 22=AV.i .i64 (A5m s)from ?g4)) ZLe.nil)));rotate_left
 refine sK<|bN<|sn<|rG cx [0,12,13] [] (tW 0 (i2+1) z0)<|sn<|nX (i2+1) (show((↑s.size:Int)-(i2+1)).toNat <((↑s.size:Int)-i2).toNat from(by omega)) (show Bc6 s (i2+1)from ?g5);rotate_left
 refine eX 0<|nE<|nE<|bH<|sn<|sq<|rG cx [2,3] [] z0<|sn<|rT<|qR (.tup [.i .i64 ((0:Int)),.i .i64 ((0:Int))]) (B9.tup (ZLe.cons B9.dead (ZLe.cons (B9.eq (show AV.i .i64 0=AV.i .i64 (A5m s)from ?g6)) ZLe.nil)));rotate_left
 revert hh0;rotate_left
 revert hh0 hh1;rotate_left
 revert hh0 hh1;rotate_left
 clear hl_9;revert hh0 hh1 i2 hh4 hh5 h6 h7 h_12;rotate_left
 clear hl_9;revert hh0 hh1 i2 hh4 hh5 h6 h7 h_12 h_21;rotate_left
 clear hl_9;revert hh0 hh1 i2 hh4 hh5 h6 h7 h_12 h_21;rotate_left
 revert hh0 hh1 i2 hh4 hh5 h6 h7;rotate_left
 case g2=>exact(fun h k=>⟨by omega,by omega,fun j hj=>by omega⟩)
 case' g6=>refine(fun h k i h0 h1 h2 h3=>?_)
 case' g5=>refine(fun h k i h0 h1 h2 h3 h4 h5=>?_)
 case' g4=>refine(fun h k i h0 h1 h2 h3 h4 h5=>?_)
 case' g3=>refine(fun h k i h0 h1 h2 h3 h4=>?_)
 case' g1=>refine(fun h k=>?_)
 case' g0=>refine(fun h=>?_)
 ·rw[A5m,if_pos ((A2i s).2 h)]
 ·rw[A5m,if_neg (fun e=>h ((A2i s).1 e)),if_pos (by omega)]
 ·exact A5n h0 h3 h2 ((L2 _ _).2 (h4.elim .inl fun h=>.inr (.inl h)))
 ·rw[Av7 (fun e=>h ((A2i s).1 e)) (by omega) (i:=i.toNat) (by omega) (W1 _)]
  have e:(i-1).toNat=i.toNat-1:=by omega
  rw[e]at h5
  rw[L2];rintro(a | a | a)
  ·exact h4 (.inl a)
  ·exact h4 (.inr a)
  ·rcases h5 with h5 | h5 | h5 | h5
   ·exact h5 a.1
   ·omega
   ·omega
   ·exact a.2.2.2 h5
 ·have e:(i-1).toNat=i.toNat-1:=by omega
  rw[e]at h5
  refine A5n h0 h3 h2 ((L2 _ _).2 (.inr (.inr ⟨Classical.byContradiction fun a=>h5 (.inl a),?_,?_,fun a=>h5 (.inr (.inr (.inr a)))⟩)))
  ·intro a;exact h5 (.inr (.inl (by omega)))
  ·intro a;exact h5 (.inr (.inr (.inl (by omega))))
 ·rw[B3x (fun e=>h ((A2i s).1 e)) (by omega) fun j hj=>h2 j (by omega)]
theorem Bd1(s:ByteArray):Con Tryz.prog 129 [.s s] (.tup [.dead,.i .i64 (A5m s)]) :=
 by
 refine sC A9 [.tmp 2,.tmp 3] 22 Tryz.func129 ?_
 intro e0 cx
 refine sq<|rG cx [0] [] z0<|sn<|sq<|rD cx [0,7] [] (zB 2 ((↑s.size:Int)=0)) (fun hh0=>?_) fun hh0=>?_
 refine sq<|rG cx [2,3] [] z0<|sn<|rT<|nR<|qR (.tup [.i .i64 ((0:Int)),.i .i64 ((20:Int))]) (B9.tup (ZLe.cons B9.dead (ZLe.cons (B9.eq (show AV.i .i64 20=AV.i .i64 (A5m s)from ?g0)) ZLe.nil)));rotate_left
 refine sK<|sn<|sq<|rD cx [0,10] [] (zB 2 ((24:Int) <(↑s.size:Int))) (fun hh1=>?_) fun hh1=>?_
 refine sq<|rG cx [2,3] [] z0<|sn<|rT<|nR<|qR (.tup [.i .i64 ((0:Int)),.i .i64 ((21:Int))]) (B9.tup (ZLe.cons B9.dead (ZLe.cons (B9.eq (show AV.i .i64 21=AV.i .i64 (A5m s)from ?g1)) ZLe.nil)));rotate_left
 refine sK<|sn<|sq<|sq<|rG cx [0,4] [] z0<|sn<|bL 0<|sL (X:=Int) (fun x=>⟨[(0,.s (s)),(4,.i .i64 (x))],[]⟩) (fun x ↦ decG s x) (fun x ↦ Bc6 s x) [0,4] [] ((0:Int)) (show Bc6 s (0:Int)from ?g2) ?_;rotate_left
 intro i2 h_3
 obtain⟨hh4,h5,h6⟩:0≤i2∧i2≤(↑s.size:Int)∧∀(j:Nat),(↑j:Int) < i2→J1 s j=true:=h_3
 refine sq<|rD cx [0,4,14] [] (zB 3 (i2 <(↑s.size:Int))) (fun h7=>?_) fun h7=>?_
 refine sK<|sn<|sq<|bL 1<|sq<|rG cx [0,4,20] [] (fT (con176 (s) (i2) (by(with_reducible assumption)) (by(with_reducible assumption)) (by omega)) (tT 3 (C9:(AV.b !J1 s i2.toNat)=AV.b (decide ¬J1 s i2.toNat=true)) (oA 2 (.b (J1 s i2.toNat)) z0)))<|sn<|dC (¬J1 s i2.toNat=true) (fun h8=>?_) fun h8=>?_
 refine sq<|rG cx [2,3] [] z0<|sn<|rT<|bR<|nR<|nR<|bR<|nR<|qR (.tup [.i .i64 (i2),.i .i64 ((22:Int))]) (B9.tup (ZLe.cons B9.dead (ZLe.cons (B9.eq (show AV.i .i64 22=AV.i .i64 (A5m s)from ?g3)) ZLe.nil)));rotate_left
 refine sK<|bN<|sn<|rG cx [0,4] [] (tW 1 (i2+1) z0)<|sn<|nX (i2+1) (show((↑s.size:Int)-(i2+1)).toNat <((↑s.size:Int)-i2).toNat from(by omega)) (show Bc6 s (i2+1)from ?g4);rotate_left
 refine eX 0<|nE<|nE<|bH<|sn<|sq<|rG cx [2,3] [] z0<|sn<|rT<|qR (.tup [.i .i64 ((0:Int)),.i .i64 ((0:Int))]) (B9.tup (ZLe.cons B9.dead (ZLe.cons (B9.eq (show AV.i .i64 0=AV.i .i64 (A5m s)from ?g5)) ZLe.nil)));rotate_left
 revert hh0;rotate_left
 revert hh0 hh1;rotate_left
 revert hh0 hh1;rotate_left
 revert hh0 hh1 i2 hh4 h5 h6 h7 h8;rotate_left
 revert hh0 hh1 i2 hh4 h5 h6 h7 h8;rotate_left
 revert hh0 hh1 i2 hh4 h5 h6 h7;rotate_left
 case g2=>exact(fun h k=>⟨by omega,by omega,fun j hj=>by omega⟩)
 case' g5=>refine(fun h k i h0 h1 h2 h3=>?_)
 case' g4=>refine(fun h k i h0 h1 h2 h3 h4=>?_)
 case' g3=>refine(fun h k i h0 h1 h2 h3 h4=>?_)
 case' g1=>refine(fun h k=>?_)
 case' g0=>refine(fun h=>?_)
 ·rw[A5m,if_pos (by omega)]
 ·rw[A5m,if_neg (by omega),if_pos (by omega)]
 ·rw[Av7 (by omega) (by omega) (i:=i.toNat) (by omega) (W1 h4)]
 ·exact A5n h0 h3 h2 (Classical.not_not.1 h4)
 ·rw[B3x (by omega) (by omega) fun j hj=>h2 j (by omega)]
theorem Bj8(s:ByteArray):Con Tryz.prog 94 [.s s] (.b (M4 s)) :=
 by
 refine sC A9 [.tmp 2] 12 Tryz.func94 ?_
 intro e0 cx
 refine sq<|rG cx [0] [] z0<|sn<|sq<|rG cx [4] [] (fT (Bd0 (s)) (oA 1 (Bt4 (Bd0 (s))) z0))<|sn<|sq<|rG cx [2] [] (tB 1 (A5m s=0) z0)<|sn<|rT<|qR (.b (decide (A5m s=0))) (.eq ?g0);rotate_left
 case g0=>exact rfl
theorem B80(s:ByteArray):Con Tryz.prog 78 [.s s] (.b (M4 s)) :=
 by
 refine sC A9 [.tmp 2] 12 Tryz.func78 ?_
 intro e0 cx
 refine sq<|rG cx [0] [] z0<|sn<|sq<|rG cx [4] [] (fT (Bd1 (s)) (oA 1 (Bt4 (Bd1 (s))) z0))<|sn<|sq<|rG cx [2] [] (tB 1 (A5m s=0) z0)<|sn<|rT<|qR (.b (decide (A5m s=0))) (.eq ?g0);rotate_left
 case g0=>exact rfl
end Go.Proofs.YtokhjapfekbobaaGreat
namespace Go.Proofs.YtokhjapfekbobaaGreat
open Go.E
set_option maxRecDepth 100000
set_option maxHeartbeats 4000000
theorem ordSt:Ord3 A09:=by
 refine⟨fun x y=>?_,fun x y=>?_,fun x y z h1 h2=>?_,fun x y z h1 h2=>?_⟩
 ·rw[L1];split <;>(try split) <;> simp
 ·rw[L1,L1]
  by_cases a:sLt x y=true
  ·have b:¬ sLt y x=true:=fun b=>A3f _ (A5j a b)
   rw[if_pos a,if_neg b,if_pos a];rfl
  ·by_cases b:sLt y x=true
   ·rw[if_pos b,if_neg a,if_pos b]
   ·rw[if_neg b,if_neg a,if_neg a,if_neg b];rfl
 ·rw[L1]at *
  by_cases c:sLt x z=true
  ·rw[if_pos c];omega
  ·rw[if_neg c]
   by_cases d:sLt z x=true
   ·exfalso
    by_cases a:sLt x y=true
    ·have e:sLt z y=true:=A5j d a
     have f:¬ sLt y z=true:=fun f=>A3f _ (A5j e f)
     rw[if_neg f,if_pos e]at h2
     omega
    ·by_cases b:sLt y x=true
     ·rw[if_neg a,if_pos b]at h1;omega
     ·have:=A2f a b
      subst this
      rw[if_neg c,if_pos d]at h2
      omega
   ·rw[if_neg d];omega
 ·rw[L1]at *
  have eq:∀ u v:ByteArray,(if sLt u v=true then(-1:Int)else if sLt v u=true then 1 else 0)=0→u=v:=by
   intro u v h
   by_cases a:sLt u v=true
   ·rw[if_pos a]at h;omega
   ·by_cases b:sLt v u=true
    ·rw[if_neg a,if_pos b]at h;omega
    ·exact A2f a b
  have e1:=eq _ _ h1
  have e2:=eq _ _ h2
  subst e1 e2
  rw[if_neg (A3f x),if_neg (A3f x)]
theorem A3g{a b:ByteArray}:A09 a b=0↔a=b:=by
 rw[L1]
 constructor
 ·intro h
  by_cases c:sLt a b=true
  ·rw[if_pos c]at h;omega
  ·by_cases d:sLt b a=true
   ·rw[if_neg c,if_pos d]at h;omega
   ·exact A2f c d
 ·rintro rfl
  rw[if_neg (A3f _),if_neg (A3f _)]
def D6(r s:Record):Int:=if A09 r.sku s.sku≠0 then A09 r.sku s.sku else Ag4 r.past s.past
theorem A3w:Ord3 D6:=A2e ordSt ordP (fun r:Record=>r.sku) (fun r=>r.past)
theorem B81{r s:Record}:D6 r s=0↔r.sku=s.sku∧A5 r.past=A5 s.past:=by
 unfold D6
 by_cases h:A09 r.sku s.sku=0
 ·rw[if_neg (by simpa using h),B3m]
  exact⟨fun k=>⟨A3g.1 h,k⟩,fun k=>k.2⟩
 ·rw[if_pos h]
  exact⟨fun k=>absurd k h,fun k=>absurd (A3g.2 k.1) h⟩
theorem A9k{r s:Record}(hr:r.past=A5 r.past)(hs:s.past=A5 s.past)(h:D6 r s=0):r=s:=by
 obtain⟨h1,h2⟩:=B81.1 h
 rw[← hr,← hs]at h2
 cases r;cases s
 simp only at h1 h2
 rw[h1,h2]
def noneS:ByteArray:=⟨#[]⟩
noncomputable def ckR(r:Record):Int:=if ¬ r.sku=noneS∧M4 r.sku=false then 5 else if ¬ r.past=A5 r.past∨C2 r.past=0 then 1 else 0
noncomputable def B69(rs:List Record)(i:Nat):Bool:=decide (ckR rs[i]! = 0) && (decide (i=0) || decide (D6 rs[i-1]! rs[i]! < 0))
noncomputable def okLR(rs:List Record):Bool:=Ap1 (B69 rs) rs.length
noncomputable def D9(rs:List Record):Int:=if okLR rs=true then 0 else 1
def upR(rs:List Record):Prop:=rs.Pairwise fun r s=>D6 r s < 0
def B0s(rs:List Record):Prop:=(∀ r∈rs,ckR r=0)∧upR rs
theorem A76{r:Record}:ckR r=0↔(r.sku=noneS∨M4 r.sku=true)∧r.past=A5 r.past∧¬ C2 r.past=0:=by
 unfold ckR
 by_cases a:¬ r.sku=noneS∧M4 r.sku=false
 ·rw[if_pos a]
  constructor
  ·intro h;omega
  ·rintro⟨k | k,_⟩
   ·exact absurd k a.1
   ·rw[a.2]at k;cases k
 ·rw[if_neg a]
  by_cases b:¬ r.past=A5 r.past∨C2 r.past=0
  ·rw[if_pos b]
   constructor
   ·intro h;omega
   ·rintro⟨_,h1,h2⟩
    rcases b with b | b
    ·exact absurd h1 b
    ·exact absurd b h2
  ·rw[if_neg b]
   refine⟨fun _=>⟨?_,Classical.byContradiction fun k=>b (.inl k),fun k=>b (.inr k)⟩,fun _=>rfl⟩
   by_cases c:r.sku=noneS
   ·exact .inl c
   ·right
    cases e:M4 r.sku with
    | true=>rfl
    | false=>exact absurd ⟨c,e⟩ a
theorem T3(rs:List Record)(i:Nat):B69 rs i=true↔ckR rs[i]! = 0∧(i=0∨D6 rs[i-1]! rs[i]! < 0):=by
 unfold B69
 rw[Bool.and_eq_true,Bool.or_eq_true,decide_eq_true_iff,decide_eq_true_iff,decide_eq_true_iff]
theorem B3y{rs:List Record}(h:∀ i:Nat,0 < i→i < rs.length→D6 rs[i-1]! rs[i]! < 0):upR rs:=by
 have key:∀ d i:Nat,i+d+1 < rs.length→D6 rs[i]! rs[i+d+1]! < 0:=by
  intro d
  induction d with
  | zero=>intro i hi;exact h (i+1) (by omega) hi
  | succ d ih =>
   intro i hi
   have h1:=ih i (by omega)
   have h2:=h (i+d+2) (by omega) (by omega)
   rw[show i+d+2-1=i+d+1 by omega]at h2
   rw[show i+(d+1)+1=i+d+2 by omega]
   exact A3w.lt h1 (by omega)
 unfold upR
 rw[List.pairwise_iff_getElem]
 intro i j hi hj hij
 have:=key (j-i-1) i (by omega)
 rw[show i+(j-i-1)+1=j by omega,getElem!_pos rs i hi,getElem!_pos rs j hj]at this
 exact this
theorem B82(rs:List Record):okLR rs=true↔B0s rs:=by
 unfold okLR
 rw[J8]
 constructor
 ·intro h
  refine⟨fun r hr=>?_,B3y fun i h0 hi=>?_⟩
  ·obtain⟨i,hi,rfl⟩:=List.mem_iff_getElem.1 hr
   have:=((T3 _ _).1 (h i hi)).1
   rwa [getElem!_pos rs i hi]at this
  ·rcases((T3 _ _).1 (h i hi)).2 with k | k
   ·omega
   ·exact k
 ·intro h i hi
  rw[T3]
  refine⟨h.1 _ (E2 hi),?_⟩
  by_cases e:i=0
  ·exact .inl e
  ·right
   have:=List.pairwise_iff_getElem.1 h.2 (i-1) i (by omega) hi (by omega)
   rw[← getElem!_pos rs (i-1) (by omega),← getElem!_pos rs i hi]at this
   exact this
theorem H5(rs:List Record):D9 rs=0↔B0s rs:=by
 rw[← B82]
 unfold D9
 split
 ·rename_i h;simp [h]
 ·rename_i h;simp [h]
theorem A9l{rs:List Record}{i:Nat}(hi:i < rs.length)(h:¬ B69 rs i=true):D9 rs=1:=by
 unfold D9 okLR
 rw[if_neg]
 intro k
 exact h ((J8 _ _).1 k i hi)
theorem B3z{rs:List Record}(h:∀ j:Nat,j < rs.length→B69 rs j=true):D9 rs=0:=by
 unfold D9 okLR
 rw[if_pos ((J8 _ _).2 h)]
theorem A3h:∀ {a b:List Record},upR a→upR b→(∀ r∈a,r.past=A5 r.past)→(∀ r∈b,r.past=A5 r.past)→(∀ r,r∈a↔r∈b)→a=b
 | [],[],_,_,_,_,_=>rfl
 | [],y :: b,_,_,_,_,h=>by have:=(h y).2 (by simp);cases this
 | x :: a,[],_,_,_,_,h=>by have:=(h x).1 (by simp);cases this
 | x :: a,y :: b,ha,hb,na,nb,h=>by
  have pa:=List.pairwise_cons.1 ha
  have pb:=List.pairwise_cons.1 hb
  have e:x=y:=by
   rcases List.mem_cons.1 ((h x).1 (by simp))with k | k
   ·exact k
   ·rcases List.mem_cons.1 ((h y).2 (by simp))with k2 | k2
    ·exact k2.symm
    ·have h1:=pb.1 x k
     have h2:=pa.1 y k2
     have:=A3w.neg x y
     omega
  subst e
  rw[A3h pa.2 pb.2 (fun r hr=>na r (by simp [hr])) (fun r hr=>nb r (by simp [hr])) fun r=>?_]
  have irr:D6 x x=0:=A3w.self x
  have:=h r
  simp only [List.mem_cons]at this
  constructor
  ·intro k
   rcases this.1 (.inr k)with k2 | k2
   ·subst k2;have:=pa.1 r k;omega
   ·exact k2
  ·intro k
   rcases this.2 (.inr k)with k2 | k2
   ·subst k2;have:=pb.1 r k;omega
   ·exact k2
end Go.Proofs.YtokhjapfekbobaaGreat
namespace Go.Proofs.YtokhjapfekbobaaGreat
open Go.E
set_option maxRecDepth 100000
set_option maxHeartbeats 4000000
def invZ(a:List Run)(s i:Int):Prop:=0≤i∧i≤(nrm a).length∧s=H7 ((nrm a).take i.toNat)
def decZ(a:List Run)(s i:Int):Nat:=((nrm a).length-i).toNat
def Bj9(p:Past)(s i:Int)(T:Nat→List Run):Prop:=T=A8 [p]∧0≤i∧i≤16∧s=sizeT (A8 [p]) i.toNat
def decSz(p:Past)(s i:Int)(T:Nat→List Run):Nat:=(16-i).toNat
theorem Ah1{l:List Run}(h:N7 l)(n:Nat):N7 (l.take n):=⟨h.1.sublist (List.take_sublist _ _),fun r hr=>h.2 r (List.mem_of_mem_take hr)⟩
theorem A81{l:List Run}{i:Int}(h0:0≤i)(h:i < l.length):H7 (l.take (i+1).toNat)=H7 (l.take i.toNat)+(l[i.toNat]!.hi-l[i.toNat]!.lo+1):=by
 rw[← E1 h0 h,B3v]
 simp [H7]
theorem A82{p:Past}(hb:p.cloud.length*16≤140737488350000):A1k [p]*16≤140737488351232:=by rw[Ao8];omega
theorem A5o{p:Past}(hb:p.cloud.length*16≤140737488350000)(r:Nat):(A8 [p] r).length*16≤140737488351232:=by
 have:=Q7 r [p]
 have:=A82 hb
 omega
theorem con105(a:List Run)(hb:a.length*16≤140737488351232):Con Tryz.prog 105 [.sl (a.map c181)] (.i .i64 (H7 (nrm a))) :=
 by
 have hs:=F1 a
 have hr:∀ i:Int,0≤i→i <(nrm a).length→1≤(nrm a)[i.toNat]!.lo∧(nrm a)[i.toNat]!.lo≤(nrm a)[i.toNat]!.hi∧(nrm a)[i.toNat]!.hi≤1000000000:=fun i h0 h1=>hs.2 _ (E2 (by omega))
 have hz:∀ i:Int,0≤H7 ((nrm a).take i.toNat)∧H7 ((nrm a).take i.toNat)≤1000000000:=fun i=>A2g (Ah1 hs _)
 refine lN 0 c181 (a) Tryz.func105 fun hl_0=>sC A9 [.tmp 2] 23 Tryz.func105 ?_
 intro e0 cx
 refine sq<|rG cx [0] [] z0<|sn<|sq<|rG cx [0,3] [] z0<|sn<|sq<|sq ?_
 have hl_0:=(X7 a)
 refine rG cx [3,7,8,9] [] (fT (Af7 (a) (by(with_reducible assumption))) (tL 2 c181 (nrm a) (oA 1 (.sl (List.map c181 (nrm a))) z0)))<|sn<|bL 0<|sL (X:=Int×Int) (fun x=>⟨[(3,.i .i64 (x.1)),(7,.sl (List.map c181 (nrm a))),(8,.i .i64 ((↑(nrm a).length:Int))),(9,.i .i64 (x.2))],[]⟩) (fun x ↦ decZ a x.1 x.2) (fun x ↦ invZ a x.1 x.2) [3,7,8,9] [] (((0:Int),(0:Int))) (show invZ a (0:Int) (0:Int)from ?g0) ?_;rotate_left
 rintro⟨s1,i2⟩ h_3
 obtain⟨h4,h5,h6⟩:0≤i2∧i2≤(↑(nrm a).length:Int)∧s1=H7 (List.take i2.toNat (nrm a)):=h_3
 refine rE cx [3,7,8,9,10] [] (zB 0 (i2 <(↑(nrm a).length:Int))) (fun h7=>?_) fun h7=>?_
 refine sK<|sn<|sq<|bL 1<|sq<|rG cx [3,7,8,9,5] [5] (fA (0≤i2) (fG c181 (nrm a) i2.toNat (fR 2 (fN 2 2 (oR 0 (c181 (nrm a)[i2.toNat]!) z0)))))<|sn<|rG cx [3,7,8,9] [] (tT 5 (B7 ?g1 ?g2:AV.i .i64 (IntKind.i64.wrap ((nrm a)[i2.toNat]!.hi-(nrm a)[i2.toNat]!.lo))=AV.i .i64 ((nrm a)[i2.toNat]!.hi-(nrm a)[i2.toNat]!.lo)) (tT 6 (B7 ?g3 ?g4:AV.i .i64 (IntKind.i64.wrap ((nrm a)[i2.toNat]!.hi-(nrm a)[i2.toNat]!.lo+1))=AV.i .i64 ((nrm a)[i2.toNat]!.hi-(nrm a)[i2.toNat]!.lo+1)) (tT 7 (B7 ?g5 ?g6:AV.i .i64 (IntKind.i64.wrap (s1+((nrm a)[i2.toNat]!.hi-(nrm a)[i2.toNat]!.lo+1)))=AV.i .i64 (s1+((nrm a)[i2.toNat]!.hi-(nrm a)[i2.toNat]!.lo+1))) z0))) ?_;rotate_left 6
 refine bN<|sn<|rG cx [3,7,8,9] [] (tW 0 (i2+1) z0)<|sn<|nX ((s1+((nrm a)[i2.toNat]!.hi-(nrm a)[i2.toNat]!.lo+1),i2+1)) (show((↑(nrm a).length:Int)-(i2+1)).toNat <((↑(nrm a).length:Int)-i2).toNat from(by omega)) (show invZ a (s1+((nrm a)[i2.toNat]!.hi-(nrm a)[i2.toNat]!.lo+1)) (i2+1)from ?g7);rotate_left
 refine eX 0<|nE<|nE<|bH<|sn<|sq<|rG cx [2] [] z0<|sn<|rT<|qR (.i .i64 (s1)) (.eq ?g8);rotate_left
 rotate_left
 revert s1 i2 h4 h5 h6 h7;rotate_left
 revert s1 i2 h4 h5 h6 h7;rotate_left
 revert s1 i2 h4 h5 h6 h7;rotate_left
 revert s1 i2 h4 h5 h6 h7;rotate_left
 revert s1 i2 h4 h5 h6 h7;rotate_left
 revert s1 i2 h4 h5 h6 h7;rotate_left
 revert s1 i2 h4 h5 h6 h7;rotate_left
 revert s1 i2 h4 h5 h6 h7;rotate_left
 case g0=>exact⟨by omega,by omega,by simp [H7]⟩
 case g7=>intro s i h0 h1 h2 h3;exact⟨by omega,by omega,by rw[h2,A81 h0 h3]⟩
 case g8=>intro s i h0 h1 h2 h3;rw[h2,List.take_of_length_le (by omega)]
 all_goals (intro s i h0 h1 h2 h3;have:=hr i h0 h3;have:=hz i;omega)
theorem con55(p:Past)(hb:p.cloud.length*16≤140737488350000):Con Tryz.prog 55 [.agg (c26 p)] (.i .i64 (C2 p)) :=
 by
 have hz:=A2h (A8 [p])
 have hr:∀ r,0≤H7 (nrm (A8 [p] r))∧H7 (nrm (A8 [p] r))≤1000000000:=fun r=>A2g (F1 _)
 refine sC A9 [.tmp 2] 21 Tryz.func55 ?_
 intro e0 cx
 refine sq<|rG cx [1] [1] z0<|sn<|sq<|rG cx [1,3] [1] z0<|sn<|sq<|sq<|rG cx [3,8,10] [8] (fT (A5d ([p]) ?g0) (oV 2 { val:=some (.ptr ((155:Nat)) (0) (0) (0)),row:=(E8 c181 16 (A8 [p])) } z0)) ?_;rotate_left
 refine sn<|bL 0<|sL (X:=Int×Int×(Nat→List Run)) (fun x=>⟨[(3,.i .i64 (x.1)),(8,.ptr (8) (0) (0) (0)),(10,.i .i64 (x.2.1))],[(8,⟨0,155,.arr (E8 c181 16 x.2.2)⟩)]⟩) (fun x ↦ decSz p x.1 x.2.1 x.2.2) (fun x ↦ Bj9 p x.1 x.2.1 x.2.2) [3,8,10] [8] (((0:Int),(0:Int),A8 [p])) (show Bj9 p (0:Int) (0:Int) (A8 [p])from ?g1) ?_;rotate_left
 rintro⟨s0,i1,T2⟩ h_3
 obtain⟨hh4,h5,h6,h7⟩:T2=A8 [p]∧0≤i1∧i1≤16∧s0=sizeT (A8 [p]) i1.toNat:=h_3
 refine rE cx [3,8,10,11] [8] (zB 0 (i1 <(16:Int))) (fun h8=>?_) fun h8=>?_
 refine sK<|sn<|sq<|bL 1<|sq<|rG cx [3,8,10,5] [8] (fA (0≤i1) (fO (i1 <(↑(16:Nat):Int)) (fP ((E8 c181 16 T2)[i1.toNat*(1:Nat)+0]?=some (AV.sl (List.map c181 (T2 i1.toNat)))) (by((try simp only [Nat.mul_one,Nat.add_zero,Nat.zero_add]);with_reducible refine E7 ?_;omega)) (oR 2 [.sl (List.map c181 (T2 i1.toNat))] z0)))) ?_
 refine sn ?_
 have hl_9:=(X7 (T2 i1.toNat))
 refine rG cx [3,8,10] [8] (fT (con105 (T2 i1.toNat) ?g2) (tT 3 (B7 ?g3 ?g4:AV.i .i64 (IntKind.i64.wrap (s0+H7 (nrm (T2 i1.toNat))))=AV.i .i64 (s0+H7 (nrm (T2 i1.toNat)))) (oA 2 (.i .i64 (H7 (nrm (T2 i1.toNat)))) z0))) ?_;rotate_left 3
 refine bN<|sn<|rG cx [3,8,10] [8] (tW 0 (i1+1) z0)<|sn<|nX ((s0+H7 (nrm (T2 i1.toNat)),i1+1,T2)) (show(16-(i1+1)).toNat <(16-i1).toNat from(by omega)) (show Bj9 p (s0+H7 (nrm (T2 i1.toNat))) (i1+1) T2 from ?g5);rotate_left
 refine eX 0<|nE<|nE<|bH<|sn<|sq<|rG cx [2] [] z0<|sn<|rT<|qR (.i .i64 (s0)) (.eq ?g6);rotate_left
 rotate_left
 rotate_left
 clear hl_9;revert s0 i1 T2 hh4 h5 h6 h7 h8;rotate_left
 clear hl_9;revert s0 i1 T2 hh4 h5 h6 h7 h8;rotate_left
 clear hl_9;revert s0 i1 T2 hh4 h5 h6 h7 h8;rotate_left
 clear hl_9;revert s0 i1 T2 hh4 h5 h6 h7 h8;rotate_left
 revert s0 i1 T2 hh4 h5 h6 h7 h8;rotate_left
 case g0=>exact A82 hb
 case g1=>exact⟨rfl,by omega,by omega,rfl⟩
 case g2=>intro s i T h0 h1 h2 h3 h4;subst h0;exact A5o hb _
 case g3=>intro s i T h0 h1 h2 h3 h4;subst h0;have:=hz i.toNat;have:=hr i.toNat;omega
 case g4=>intro s i T h0 h1 h2 h3 h4;subst h0;have:=hz i.toNat;have:=hr i.toNat;omega
 case g5=>intro s i T h0 h1 h2 h3 h4;subst h0;exact⟨rfl,by omega,by omega,by rw[show(i+1).toNat=i.toNat+1 by omega,sizeT,h3]⟩
 case g6=>intro s i T h0 h1 h2 h3 h4;rw[h3,show i.toNat=16 by omega,A9j]
theorem B83(p:Past)(hb:p.cloud.length*16≤140737488350000):Con Tryz.prog 95 [.agg (c26 p)] (.b (decide (C2 p=0))) :=
 by
 refine sC A9 [.tmp 2] 6 Tryz.func95 ?_
 intro e0 cx
 refine sq<|rG cx [1] [1] z0<|sn<|sq<|rG cx [2] [] (fT (con55 (p) (by(with_reducible assumption))) (tB 2 (C2 p=0) (oA 1 (.i .i64 (C2 p)) z0)))<|sn<|rT ?_
 exact A43 (r:=.b (decide (C2 p=0))) (obl:=[]) (by kernel_rfl) trivial (B9.refl _)
end Go.Proofs.YtokhjapfekbobaaGreat
namespace Go.Proofs.YtokhjapfekbobaaGreat
open Go.E
set_option maxRecDepth 100000
set_option maxHeartbeats 4000000
def szR(r:Record):Prop:=r.past.cloud.length*16≤140737488350000
def B0t(rs:List Record):Prop:=∀ r∈rs,szR r
theorem Y3{rs:List Record}(h:B0t rs){i:Int}(h0:0≤i)(hi:i < rs.length):szR rs[i.toNat]!:=h _ (E2 (by omega))
theorem B84{rs:List Record}(h:B0t rs){i:Int}(h0:0 < i)(hi:i < rs.length):szR rs[(i-1).toNat]!:=h _ (E2 (by omega))
def Ap2(rs:List Record)(i:Int):Prop:=0≤i∧i≤rs.length∧∀ j:Nat,(j:Int) < i→B69 rs j=true
def decKc(rs:List Record)(i:Int):Nat:=(rs.length-i).toNat
theorem A83{rs:List Record}{i:Int}(h0:0≤i)(h1:i < rs.length)(h2:∀ j:Nat,(j:Int) < i→B69 rs j=true)(h:B69 rs i.toNat=true):Ap2 rs (i+1) :=
 ⟨by omega,by omega,fun j hj=>by
  by_cases e:j=i.toNat
  ·rw[e];exact h
  ·exact h2 j (by omega)⟩
theorem B40(r:Record)(hb:szR r):Con Tryz.prog 121 [.agg (c83 r)] (.i .i64 (ckR r)) :=
 by
 have g:∀ {b:Bool},¬ b=true→b=false:=fun {b} h=>by cases b <;> simp_all
 refine sC A9 [.tmp 2] 21 Tryz.func121 ?_
 intro e0 cx
 refine sq<|rG cx [1] [1] z0<|sn<|sq<|sq<|B3 (σ':=⟨[(1,.ptr (1) (0) (0) (0)),(11,.b (decide (¬r.sku={ data:=#[]:ByteArray }∧¬M4 r.sku=true)))],[(1,⟨0,83,.var [.s (r.sku),.sl (List.map c3 r.past.vec),.sl (List.map B5 r.past.cloud)]⟩)]⟩) ?_ ?_
 refine A4 (¬r.sku={ data:=#[]:ByteArray }) (fun h_1=>?_) (fun h_1=>?_)
 refine rG cx [1,11] [1] (tT 2 (A21 h_1:(AV.b !r.sku.toList == { data:=#[]:ByteArray }.toList)=AV.b true) (fT (Bj8 (r.sku)) (tT 7 (C9:(AV.b !M4 r.sku)=AV.b (decide ¬M4 r.sku=true)) (tD 8 (decide ¬M4 r.sku=true) (¬r.sku={ data:=#[]:ByteArray }∧¬M4 r.sku=true) (by simp only [eq_false h_1,tsl]) (oA 6 (.b (M4 r.sku)) z0))))) ?_
 exact⟨rfl,by kernel_rfl⟩
 refine rG cx [1,11] [1] (tT 2 (A4g:(AV.b !r.sku.toList == { data:=#[]:ByteArray }.toList)=AV.b (decide ¬r.sku={ data:=#[]:ByteArray })) (tT 3 (A0 h_1) (tT 8 (by first | (simp only [eq_false h_1,tsl];done) | simp_all:AV.b false=AV.b (decide (¬r.sku={ data:=#[]:ByteArray }∧¬M4 r.sku=true))) z0))) ?_
 exact⟨rfl,by kernel_rfl⟩
 refine sn<|dC (¬r.sku={ data:=#[]:ByteArray }∧¬M4 r.sku=true) (fun h2=>?_) fun h2=>?_
 refine sq<|rG cx [2] [] z0<|sn<|rT<|nR<|qR (.i .i64 ((5:Int))) (.eq (by unfold ckR;rw[if_pos ⟨h2.1,g h2.2⟩]))
 refine sK<|sn<|sq<|sq<|B3 (σ':=⟨[(20,.b (decide (¬r.past=A5 r.past∨C2 r.past=0)))],[]⟩) ?_ ?_
 refine A4 (¬r.past=A5 r.past) (fun h4=>?_) (fun h4=>?_)
 refine rg (A:=_∧_∧(AV.b true=AV.b (decide (¬r.past=A5 r.past∨C2 r.past=0)))) cx [(2,{ val:=some (.b (decide (r.past=A5 r.past))),tell:=some (.b (false)) }),(8,{ tell:=some (.b (decide (¬r.past=A5 r.past∨C2 r.past=0))) })] [20] [] ⟨(A0 h4),(Ag2 (r.past) (by exact hb)),(by simp only [eq_false h4,tsl])⟩ ?_
 exact⟨rfl,by kernel_rfl⟩
 refine rG cx [20] [] (fT (Ag2 (r.past) (by exact hb)) (tQ 3 (r.past=A5 r.past) (tT 4 (A0 h4) (fT (B83 (r.past) (by exact hb)) (tT 8 (by first | (simp only [eq_false h4,tsl];done) | simp_all:AV.b (decide (C2 r.past=0))=AV.b (decide (¬r.past=A5 r.past∨C2 r.past=0))) (oA 2 (.b (decide (r.past=A5 r.past))) (oA 7 (.b (decide (C2 r.past=0))) z0))))))) ?_
 exact⟨rfl,by kernel_rfl⟩
 refine sn<|dC (¬r.past=A5 r.past∨C2 r.past=0) (fun h5=>?_) fun h5=>?_
 refine sq<|rG cx [2] [] z0<|sn<|rT<|nR<|qR (.i .i64 ((1:Int))) (.eq (by unfold ckR;rw[if_neg (fun c=>h2 ⟨c.1,by rw[c.2];simp⟩),if_pos h5]))
 refine sK<|sn<|sq<|rG cx [2] [] z0<|sn<|rT<|qR (.i .i64 ((0:Int))) (.eq (by unfold ckR;rw[if_neg (fun c=>h2 ⟨c.1,by rw[c.2];simp⟩),if_neg h5]))
theorem B85(r s:Record)(hr:szR r)(hs:szR s):Con Tryz.prog 54 [.agg (c83 r),.agg (c83 s)] (.i .i64 (D6 r s)) :=
 by
 refine sC A9 [.tmp 4] 19 Tryz.func54 ?_
 intro e0 cx
 refine sq<|rG cx [2,3] [2,3] z0<|sn<|sq<|sq<|rG cx [2,3,5] [2,3] (fT (con102 (r.sku) (s.sku)) (oA 4 (.i .i64 (A09 r.sku s.sku)) z0))<|sn<|sq<|rG cx [2,3,5,12] [2,3] (tN 1 (A09 r.sku s.sku) (0:Int) z0)<|sn<|dC (¬A09 r.sku s.sku=0) (fun h0=>?_) fun h0=>?_
 refine sq<|rG cx [4] [] z0<|sn<|rT<|nR<|qR (.i .i64 (A09 r.sku s.sku)) (.eq (by unfold D6;rw[if_pos h0]))
 refine sK<|sn<|sq<|rG cx [4] [] (fT (con103 (r.past) (s.past) (by exact hr) (by exact hs)) (oA 4 (.i .i64 (Ag4 r.past s.past)) z0)) ?_
 refine sn<|rT<|qR (.i .i64 (Ag4 r.past s.past)) (.eq (by unfold D6;rw[if_neg h0]))
theorem A9m(rs:List Record)(hb:B0t rs):Con Tryz.prog 68 [.sl (rs.map c83)] (.i .i64 (D9 rs)) :=
 by
 have e:∀ {i:Int},0≤i→(i-1).toNat=i.toNat-1:=fun {i} h=>by omega
 refine lN 0 c83 (rs) Tryz.func68 fun hl_0=>sC A9 [.tmp 2] 30 Tryz.func68 ?_
 intro e0 cx
 refine sq<|rG cx [0] [] z0<|sn<|sq<|sq<|rG cx [0,5,6,7] [] (tL 1 c83 rs z0)<|sn<|bL 0<|sL (X:=Int) (fun x=>⟨[(0,.sl (List.map c83 rs)),(5,.sl (List.map c83 rs)),(6,.i .i64 ((↑rs.length:Int))),(7,.i .i64 (x))],[]⟩) (fun x ↦ decKc rs x) (fun x ↦ Ap2 rs x) [0,5,6,7] [] ((0:Int)) (show Ap2 rs (0:Int)from(by exact⟨by omega,by omega,fun j hj=>by omega⟩)) ?_
 intro i0 h_1
 obtain⟨hh2,hh3,hh4⟩:0≤i0∧i0≤(↑rs.length:Int)∧∀(j:Nat),(↑j:Int) < i0→B69 rs j=true:=h_1
 refine rE cx [0,5,6,7,8] [] (zB 0 (i0 <(↑rs.length:Int))) (fun hh5=>?_) fun hh5=>?_
 refine sK<|sn<|sq<|bL 1<|sq<|rG cx [0,5,6,7,4,3] [4] (fA (0≤i0) (fG c83 rs i0.toNat (fR 3 (fN 3 3 (oR 1 (c83 rs[i0.toNat]!) z0)))))<|sn<|sq<|B3 (σ':=⟨[(0,.sl (List.map c83 rs)),(5,.sl (List.map c83 rs)),(6,.i .i64 ((↑rs.length:Int))),(7,.i .i64 (i0)),(28,.b (decide (¬ckR rs[i0.toNat]! =(0:Int)∨(0:Int) < i0∧0≤D6 rs[(i0-1).toNat]! rs[i0.toNat]!)))],[]⟩) ?_ ?_
 refine A4 (¬ckR rs[i0.toNat]! =(0:Int)) (fun h7=>?_) (fun h7=>?_)
 refine rA cx [0,5,6,7,28] [] (fT (B40 (rs[i0.toNat]!) (by exact Y3 hb hh2 hh5)) (tT 2 (D1 h7:AV.b (ckR rs[i0.toNat]! !=0)=AV.b true) (tD 16 true (¬ckR rs[i0.toNat]! =(0:Int)∨(0:Int) < i0∧0≤D6 rs[(i0-1).toNat]! rs[i0.toNat]!) (by simp only [eq_false h7,tsl]) (oA 1 (.i .i64 (ckR rs[i0.toNat]!)) z0)))) ?_
 exact⟨rfl,by kernel_rfl⟩
 refine A4 ((0:Int) < i0) (fun h8=>?_) (fun h8=>?_)
 refine rA cx [0,5,6,7,28] [] (fT (B40 (rs[i0.toNat]!) (by exact Y3 hb hh2 hh5)) (tN 2 (ckR rs[i0.toNat]!) (0:Int) (tT 3 (A0 h7) (tT 5 (A3 h8) (tW 9 (i0-1) (fO (0≤i0-1) (fG c83 rs ((i0-1).toNat) (fR 3 (fN 3 3 (fT (B85 (rs[(i0-1).toNat]!) (rs[i0.toNat]!) (by exact B84 hb h8 hh5) (by exact Y3 hb hh2 hh5)) (tB 14 (0≤D6 rs[(i0-1).toNat]! rs[i0.toNat]!) (tT 16 (by first | (simp only [eq_false h7,eq_true h8,tsl];done) | simp_all:AV.b (decide (0≤D6 rs[(i0-1).toNat]! rs[i0.toNat]!))=AV.b (decide (¬ckR rs[i0.toNat]! =(0:Int)∨(0:Int) < i0∧0≤D6 rs[(i0-1).toNat]! rs[i0.toNat]!))) (oA 1 (.i .i64 (ckR rs[i0.toNat]!)) (oR 10 (c83 rs[(i0-1).toNat]!) (oA 13 (.i .i64 (D6 rs[(i0-1).toNat]! rs[i0.toNat]!)) z0))))))))))))))) ?_
 exact⟨rfl,by kernel_rfl⟩
 refine rA cx [0,5,6,7,28] [] (fT (B40 (rs[i0.toNat]!) (by exact Y3 hb hh2 hh5)) (tN 2 (ckR rs[i0.toNat]!) (0:Int) (tT 3 (A0 h7) (tT 5 (A0 h8) (tT 16 (by first | (simp only [eq_false h7,eq_false h8,tsl];done) | simp_all:AV.b false=AV.b (decide (¬ckR rs[i0.toNat]! =(0:Int)∨(0:Int) < i0∧0≤D6 rs[(i0-1).toNat]! rs[i0.toNat]!))) (oA 1 (.i .i64 (ckR rs[i0.toNat]!)) z0)))))) ?_
 exact⟨rfl,by kernel_rfl⟩
 refine sn<|dC (¬ckR rs[i0.toNat]! =(0:Int)∨(0:Int) < i0∧0≤D6 rs[(i0-1).toNat]! rs[i0.toNat]!) (fun h9=>?_) fun h9=>?_
 refine sq<|rG cx [2] [] z0<|sn<|rT<|bR<|nR<|nR<|bR<|nR<|qR (.i .i64 ((1:Int))) (.eq ?g6);rotate_left
 refine sK<|bN<|sn<|rG cx [0,5,6,7] [] (tW 0 (i0+1) z0)<|sn<|nX (i0+1) (show((↑rs.length:Int)-(i0+1)).toNat <((↑rs.length:Int)-i0).toNat from(by omega)) (show Ap2 rs (i0+1)from ?g7);rotate_left
 refine eX 0<|nE<|nE<|bH<|sn<|sq<|rG cx [2] [] z0<|sn<|rT<|qR (.i .i64 ((0:Int))) (.eq (by rw[B3z fun j hj=>hh4 j (by omega)]))
 case g6 =>
  revert i0 hh2 hh3 hh4 hh5 h9
  intro i h0 h1 h2 h3 h4
  rw[A9l (i:=i.toNat) (by omega)]
  rw[e h0]at h4
  rw[T3]
  rintro⟨a,b⟩
  rcases h4 with h4 | ⟨h4,h5⟩
  ·exact h4 a
  ·omega
 case g7 =>
  rw[e hh2]at h9
  refine A83 hh2 hh5 hh4 ((T3 _ _).2 ⟨Classical.byContradiction fun a=>h9 (.inl a),?_⟩)
  by_cases c:i0.toNat=0
  ·exact .inl c
  ·exact .inr (Classical.byContradiction fun a=>h9 (.inr ⟨by omega,by omega⟩))
end Go.Proofs.YtokhjapfekbobaaGreat
namespace Go.Proofs.YtokhjapfekbobaaGreat
open Go.E
set_option maxRecDepth 100000
set_option maxHeartbeats 4000000
def dLt(a b:Dot):Bool:=decide (a.rep < b.rep∨a.rep=b.rep∧a.num < b.num)
def U8(e:Entry):Int:=if e.dot.rep < 0∨16≤e.dot.rep then 3 else if e.dot.num < 1∨1000000000 < e.dot.num then 2 else if M4 e.sku=false then 5 else if e.qty < 1∨1000000 < e.qty then 6 else 0
def B1q(es:List Entry)(i:Nat):Bool:=decide (U8 es[i]! = 0) && (decide (i=0) || dLt es[i-1]!.dot es[i]!.dot)
def okL(es:List Entry):Bool:=Ap1 (B1q es) es.length
def D2(es:List Entry):Int:=if okL es=true then 0 else 1
def Bk0(es:List Entry)(i:Int):Prop:=0≤i∧i≤es.length∧∀ j:Nat,(j:Int) < i→B1q es j=true
def decL(es:List Entry)(i:Int):Nat:=(es.length-i).toNat
theorem A9n{es:List Entry}{i:Nat}(hi:i < es.length)(h:B1q es i=false):D2 es=1:=by
 unfold D2 okL
 rw[if_neg]
 intro k
 have:=(J8 _ _).1 k i hi
 rw[h]at this;cases this
theorem B41{es:List Entry}(h:∀ j:Nat,j < es.length→B1q es j=true):D2 es=0:=by
 unfold D2 okL
 rw[if_pos ((J8 _ _).2 h)]
def dec30i{α:Type}(es:List α)(i:Int):Nat:=(es.length-i).toNat
theorem Y4(es:List Entry)(i:Nat):B1q es i=true↔U8 es[i]! = 0∧(i=0∨dLt es[i-1]!.dot es[i]!.dot=true):=by
 unfold B1q
 rw[Bool.and_eq_true,Bool.or_eq_true,decide_eq_true_iff,decide_eq_true_iff]
theorem Ah2{es:List Entry}{i:Int}(h0:0≤i)(h1:i < es.length)(h2:∀ j:Nat,(j:Int) < i→B1q es j=true)(h:B1q es i.toNat=true):Bk0 es (i+1) :=
 ⟨by omega,by omega,fun j hj=>by
  by_cases e:j=i.toNat
  ·rw[e];exact h
  ·exact h2 j (by omega)⟩
theorem A9o{es:List Entry}{i:Nat}(h:¬ B1q es i=true):B1q es i=false:=by simpa using h
theorem Av8(e:Entry):Con Tryz.prog 117 [.agg (c67 e)] (.i .i64 (U8 e)) :=
 by
 refine sC A9 [.tmp 2] 39 Tryz.func117 ?_
 intro e0 cx
 refine sq<|rG cx [1] [1] z0<|sn<|sq<|bL 0<|sq<|B3 (σ':=⟨[(1,.ptr (1) (0) (0) (0)),(3,.b (decide (e.dot.rep <(0:Int)∨16≤e.dot.rep)))],[(1,⟨0,67,.var [.i .i64 (e.dot.rep),.i .i64 (e.dot.num),.s (e.sku),.i .i64 (e.qty)]⟩)]⟩) ?_ ?_
 refine A4 (e.dot.rep <(0:Int)) (fun h_1=>?_) (fun h_1=>?_)
 refine rG cx [1,3] [1] (tT 3 (A3 h_1) (tD 10 true (e.dot.rep <(0:Int)∨16≤e.dot.rep) (by simp only [eq_true h_1,tsl]) z0)) ?_
 exact⟨rfl,by kernel_rfl⟩
 refine rG cx [1,3] [1] (tT 3 (A0 h_1) (tB 8 (16≤e.dot.rep) (tD 10 (decide (16≤e.dot.rep)) (e.dot.rep <(0:Int)∨16≤e.dot.rep) (by simp only [eq_false h_1,tsl]) z0))) ?_
 exact⟨rfl,by kernel_rfl⟩
 refine sn<|dC (e.dot.rep <(0:Int)∨16≤e.dot.rep) (fun h2=>?_) fun h2=>?_
 refine sq<|rG cx [2] [] z0<|sn<|rT<|bR<|nR<|qR (.i .i64 ((3:Int))) (.eq ?g0);rotate_left
 refine sq<|B3 (σ':=⟨[(1,.ptr (1) (0) (0) (0)),(14,.b (decide (e.dot.num <(1:Int)∨(1000000000:Int) < e.dot.num)))],[(1,⟨0,67,.var [.i .i64 (e.dot.rep),.i .i64 (e.dot.num),.s (e.sku),.i .i64 (e.qty)]⟩)]⟩) ?_ ?_
 refine A4 (e.dot.num <(1:Int)) (fun h_4=>?_) (fun h_4=>?_)
 refine rG cx [1,14] [1] (tT 3 (A3 h_4) (tD 10 true (e.dot.num <(1:Int)∨(1000000000:Int) < e.dot.num) (by simp only [eq_true h_4,tsl]) z0)) ?_
 exact⟨rfl,by kernel_rfl⟩
 refine rG cx [1,14] [1] (tT 3 (A0 h_4) (tB 8 ((1000000000:Int) < e.dot.num) (tD 10 (decide ((1000000000:Int) < e.dot.num)) (e.dot.num <(1:Int)∨(1000000000:Int) < e.dot.num) (by simp only [eq_false h_4,tsl]) z0))) ?_
 exact⟨rfl,by kernel_rfl⟩
 refine sn<|dC (e.dot.num <(1:Int)∨(1000000000:Int) < e.dot.num) (fun h5=>?_) fun h5=>?_
 refine sq<|rG cx [2] [] z0<|sn<|rT<|bR<|nR<|qR (.i .i64 ((2:Int))) (.eq ?g1);rotate_left
 refine sq<|rG cx [1,25] [1] (fT (Bj8 (e.sku)) (tT 3 (C9:(AV.b !M4 e.sku)=AV.b (decide ¬M4 e.sku=true)) (oA 2 (.b (M4 e.sku)) z0)))<|sn<|dC (¬M4 e.sku=true) (fun h6=>?_) fun h6=>?_
 refine sq<|rG cx [2] [] z0<|sn<|rT<|bR<|nR<|qR (.i .i64 ((5:Int))) (.eq ?g2);rotate_left
 refine sq<|B3 (σ':=⟨[(30,.b (decide (e.qty <(1:Int)∨(1000000:Int) < e.qty)))],[]⟩) ?_ ?_
 refine A4 (e.qty <(1:Int)) (fun h_8=>?_) (fun h_8=>?_)
 refine rG cx [30] [] (tT 2 (A3 h_8) (tD 8 true (e.qty <(1:Int)∨(1000000:Int) < e.qty) (by simp only [eq_true h_8,tsl]) z0)) ?_
 exact⟨rfl,by kernel_rfl⟩
 refine rG cx [30] [] (tT 2 (A0 h_8) (tB 6 ((1000000:Int) < e.qty) (tD 8 (decide ((1000000:Int) < e.qty)) (e.qty <(1:Int)∨(1000000:Int) < e.qty) (by simp only [eq_false h_8,tsl]) z0))) ?_
 exact⟨rfl,by kernel_rfl⟩
 refine sn<|dC (e.qty <(1:Int)∨(1000000:Int) < e.qty) (fun h9=>?_) fun h9=>?_
 refine sq<|rG cx [2] [] z0<|sn<|rT<|bR<|nR<|qR (.i .i64 ((6:Int))) (.eq ?g3);rotate_left
 refine sK<|bN<|sn<|sq<|rG cx [2] [] z0<|sn<|rT<|qR (.i .i64 ((0:Int))) (.eq ?g4);rotate_left
 revert h2;rotate_left
 revert h2 h5;rotate_left
 revert h2 h5 h6;rotate_left
 revert h2 h5 h6 h9;rotate_left
 revert h2 h5 h6 h9;rotate_left
 case' g4=>refine(fun h k l m=>?_)
 case' g3=>refine(fun h k l m=>?_)
 case' g2=>refine(fun h k l=>?_)
 case' g1=>refine(fun h k=>?_)
 case' g0=>refine(fun h=>?_)
 all_goals (unfold U8)
 ·rw[if_pos h]
 ·rw[if_neg h,if_pos k]
 ·rw[if_neg h,if_neg k,if_pos (by simpa using l)]
 ·rw[if_neg h,if_neg k,if_neg (by simpa using l),if_pos m]
 ·rw[if_neg h,if_neg k,if_neg (by simpa using l),if_neg m]
theorem Bd2(a b:Dot):Con Tryz.prog 118 [.agg (c65 a),.agg (c65 b)] (.b (dLt a b)) :=
 by
 refine sC A9 [.tmp 4] 24 Tryz.func118 ?_
 intro e0 cx
 refine sq<|rG cx [2,3] [2,3] z0<|sn<|sq<|B3 (σ':=⟨[(4,.b (decide (a.rep < b.rep∨a.rep=b.rep∧a.num < b.num)))],[]⟩) ?_ ?_
 refine A4 (a.rep < b.rep) (fun h_1=>?_) (fun h_1=>?_)
 refine rG cx [4] [] (tT 4 (A3 h_1) (tD 19 true (a.rep < b.rep∨a.rep=b.rep∧a.num < b.num) (by simp only [eq_true h_1,tsl]) z0)) ?_
 exact⟨rfl,by kernel_rfl⟩
 refine A4 (a.rep=b.rep) (fun h_2=>?_) (fun h_2=>?_)
 refine rG cx [4] [] (tT 4 (A0 h_1) (tT 10 (A3 h_2) (tB 16 (a.num < b.num) (tD 19 (decide (a.num < b.num)) (a.rep < b.rep∨a.rep=b.rep∧a.num < b.num) (by simp only [eq_false h_1,eq_true h_2,tsl]) z0)))) ?_
 exact⟨rfl,by kernel_rfl⟩
 refine rG cx [4] [] (tT 4 (A0 h_1) (tT 10 (A0 h_2) (tD 19 false (a.rep < b.rep∨a.rep=b.rep∧a.num < b.num) (by simp only [eq_false h_1,eq_false h_2,tsl]) z0))) ?_
 exact⟨rfl,by kernel_rfl⟩
 refine sn<|rT<|qR (.b (decide (a.rep < b.rep∨a.rep=b.rep∧a.num < b.num))) (.eq ?g0);rotate_left
 case g0=>exact rfl
theorem A2j(es:List Entry):Con Tryz.prog 66 [.sl (es.map c67)] (.i .i64 (D2 es)) :=
 by
 have e:∀ {i:Int},0≤i→(i-1).toNat=i.toNat-1:=fun {i} h=>by omega
 refine lN 0 c67 (es) Tryz.func66 fun hl_0=>sC A9 [.tmp 2] 32 Tryz.func66 ?_
 intro e0 cx
 refine sq<|rG cx [0] [] z0<|sn<|sq<|sq<|rG cx [0,5,6,7] [] (tL 1 c67 es z0)<|sn<|bL 0<|sL (X:=Int) (fun x=>⟨[(0,.sl (List.map c67 es)),(5,.sl (List.map c67 es)),(6,.i .i64 ((↑es.length:Int))),(7,.i .i64 (x))],[]⟩) (fun x ↦ decL es x) (fun x ↦ Bk0 es x) [0,5,6,7] [] ((0:Int)) (show Bk0 es (0:Int)from ?g0) ?_;rotate_left
 intro i0 h_1
 obtain⟨hh2,hh3,hh4⟩:0≤i0∧i0≤(↑es.length:Int)∧∀(j:Nat),(↑j:Int) < i0→B1q es j=true:=h_1
 refine rE cx [0,5,6,7,8] [] (zB 0 (i0 <(↑es.length:Int))) (fun hh5=>?_) fun hh5=>?_
 refine sK<|sn<|sq<|bL 1<|sq<|rG cx [0,5,6,7,4,3] [4] (fA (0≤i0) (fG c67 es i0.toNat (fR 4 (fN 4 4 (oR 1 (c67 es[i0.toNat]!) z0)))))<|sn<|sq<|B3 (σ':=⟨[(0,.sl (List.map c67 es)),(5,.sl (List.map c67 es)),(6,.i .i64 ((↑es.length:Int))),(7,.i .i64 (i0)),(30,.b (decide (¬U8 es[i0.toNat]! =(0:Int)∨(0:Int) < i0∧¬dLt es[(i0-1).toNat]!.dot es[i0.toNat]!.dot=true)))],[]⟩) ?_ ?_
 refine A4 (¬U8 es[i0.toNat]! =(0:Int)) (fun h_7=>?_) (fun h_7=>?_)
 refine rA cx [0,5,6,7,30] [] (fT (Av8 (es[i0.toNat]!)) (tT 2 (D1 h_7:AV.b (U8 es[i0.toNat]! !=0)=AV.b true) (tD 18 true (¬U8 es[i0.toNat]! =(0:Int)∨(0:Int) < i0∧¬dLt es[(i0-1).toNat]!.dot es[i0.toNat]!.dot=true) (by simp only [eq_false h_7,tsl]) (oA 1 (.i .i64 (U8 es[i0.toNat]!)) z0)))) ?_
 exact⟨rfl,by kernel_rfl⟩
 refine A4 ((0:Int) < i0) (fun h_8=>?_) (fun h_8=>?_)
 refine rA cx [0,5,6,7,30] [] (fT (Av8 (es[i0.toNat]!)) (tN 2 (U8 es[i0.toNat]!) (0:Int) (tT 3 (A0 h_7) (tT 5 (A3 h_8) (tW 9 (i0-1) (fO (0≤i0-1) (fG c67 es ((i0-1).toNat) (fR 4 (fN 2 4 (fT (Bd2 (es[(i0-1).toNat]!.dot) (es[i0.toNat]!.dot)) (tT 16 (C9:(AV.b !dLt es[(i0-1).toNat]!.dot es[i0.toNat]!.dot)=AV.b (decide ¬dLt es[(i0-1).toNat]!.dot es[i0.toNat]!.dot=true)) (tT 18 (by first | (simp only [eq_false h_7,eq_true h_8,tsl];done) | simp_all:AV.b (decide ¬dLt es[(i0-1).toNat]!.dot es[i0.toNat]!.dot=true)=AV.b (decide (¬U8 es[i0.toNat]! =(0:Int)∨(0:Int) < i0∧¬dLt es[(i0-1).toNat]!.dot es[i0.toNat]!.dot=true))) (oA 1 (.i .i64 (U8 es[i0.toNat]!)) (oR 10 (c67 es[(i0-1).toNat]!) (oA 15 (.b (dLt es[(i0-1).toNat]!.dot es[i0.toNat]!.dot)) z0))))))))))))))) ?_
 exact⟨rfl,by kernel_rfl⟩
 refine rA cx [0,5,6,7,30] [] (fT (Av8 (es[i0.toNat]!)) (tN 2 (U8 es[i0.toNat]!) (0:Int) (tT 3 (A0 h_7) (tT 5 (A0 h_8) (tT 18 (by first | (simp only [eq_false h_7,eq_false h_8,tsl];done) | simp_all:AV.b false=AV.b (decide (¬U8 es[i0.toNat]! =(0:Int)∨(0:Int) < i0∧¬dLt es[(i0-1).toNat]!.dot es[i0.toNat]!.dot=true))) (oA 1 (.i .i64 (U8 es[i0.toNat]!)) z0)))))) ?_
 exact⟨rfl,by kernel_rfl⟩
 refine sn<|dC (¬U8 es[i0.toNat]! =(0:Int)∨(0:Int) < i0∧¬dLt es[(i0-1).toNat]!.dot es[i0.toNat]!.dot=true) (fun h9=>?_) fun h9=>?_
 refine sq<|rG cx [2] [] z0<|sn<|rT<|bR<|nR<|nR<|bR<|nR<|qR (.i .i64 ((1:Int))) (.eq ?g1);rotate_left
 refine sK<|bN<|sn<|rG cx [0,5,6,7] [] (tW 0 (i0+1) z0)<|sn<|nX (i0+1) (show((↑es.length:Int)-(i0+1)).toNat <((↑es.length:Int)-i0).toNat from(by omega)) (show Bk0 es (i0+1)from ?g2);rotate_left
 refine eX 0<|nE<|nE<|bH<|sn<|sq<|rG cx [2] [] z0<|sn<|rT<|qR (.i .i64 ((0:Int))) (.eq ?g3);rotate_left
 rotate_left
 revert i0 hh2 hh3 hh4 hh5 h9;rotate_left
 revert i0 hh2 hh3 hh4 hh5 h9;rotate_left
 revert i0 hh2 hh3 hh4 hh5;rotate_left
 case g0=>exact⟨by omega,by omega,fun j hj=>by omega⟩
 case' g3=>refine(fun i h0 h1 h2 h3=>?_)
 case' g2=>refine(fun i h0 h1 h2 h3 h4=>?_)
 case' g1=>refine(fun i h0 h1 h2 h3 h4=>?_)
 ·rw[A9n (i:=i.toNat) (by omega) (A9o _)]
  rw[e h0]at h4
  rw[Y4];rintro⟨a,b⟩
  rcases h4 with h4 | ⟨h4,h5⟩
  ·exact h4 a
  ·rcases b with b | b
   ·omega
   ·exact h5 b
 ·rw[e h0]at h4
  refine Ah2 h0 h3 h2 ((Y4 _ _).2 ⟨Classical.byContradiction fun a=>h4 (.inl a),?_⟩)
  by_cases c:i.toNat=0
  ·exact .inl c
  ·exact .inr (Classical.byContradiction fun a=>h4 (.inr ⟨by omega,a⟩))
 ·rw[B41 fun j hj=>h2 j (by omega)]
end Go.Proofs.YtokhjapfekbobaaGreat
namespace Go.Proofs.YtokhjapfekbobaaGreat
open Go.E
set_option maxRecDepth 100000
set_option maxHeartbeats 4000000
def ofV(es:List Entry)(sku:ByteArray):List Entry×Int :=
 if okL es=true then(if M4 sku=true then(es.filter (fun e=>decide (e.sku=sku)),0)else([],5))else([],1)
def Bk1(p:Entry→Bool)(es:List Entry)(i:Int)(l:List Entry):Prop:=0≤i∧i≤es.length∧l=(es.take i.toNat).filter p∧(l.length:Int)≤i
def decP(es:List Entry)(i:Int)(l:List Entry):Nat:=(es.length-i).toNat
theorem A5p{p:Entry→Bool}{es:List Entry}{i:Int}(h0:0≤i)(h:i < es.length):(es.take (i+1).toNat).filter p=if p es[i.toNat]! = true then(es.take i.toNat).filter p++[es[i.toNat]!]else(es.take i.toNat).filter p:=by
 rw[← E1 h0 h,List.filter_append]
 by_cases hp:p es[i.toNat]! = true
 ·rw[if_pos hp,List.filter_cons_of_pos hp,List.filter_nil]
 ·rw[if_neg hp,List.filter_cons_of_neg hp,List.filter_nil,List.append_nil]
theorem B42(p:Entry→Bool)(es:List Entry):Bk1 p es 0 []:=⟨by omega,by omega,by simp,by simp⟩
theorem B86{p:Entry→Bool}{es l:List Entry}{i:Int}(h0:0≤i)(h2:l=(es.take i.toNat).filter p)(h3:(l.length:Int)≤i)(h4:i < es.length)(h:p es[i.toNat]! = true):Bk1 p es (i+1) (l++[es[i.toNat]!]) :=
 ⟨by omega,by omega,by rw[A5p h0 h4,if_pos h,h2],by rw[List.length_append,List.length_cons,List.length_nil];omega⟩
theorem B43{p:Entry→Bool}{es l:List Entry}{i:Int}(h0:0≤i)(h2:l=(es.take i.toNat).filter p)(h3:(l.length:Int)≤i)(h4:i < es.length)(h:¬ p es[i.toNat]! = true):Bk1 p es (i+1) l :=
 ⟨by omega,by omega,by rw[A5p h0 h4,if_neg h,h2],by omega⟩
theorem B44{p:Entry→Bool}{es l:List Entry}{i:Int}(h2:l=(es.take i.toNat).filter p)(h4:¬ i < es.length):l=es.filter p:=by
 rw[h2,List.take_of_length_le (by omega)]
end Go.Proofs.YtokhjapfekbobaaGreat
namespace Go.Proofs.YtokhjapfekbobaaGreat
open Go.E
set_option maxRecDepth 100000
set_option maxHeartbeats 4000000
theorem Ah3{e:Entry}(h:U8 e=0):0≤e.dot.rep∧e.dot.rep < 16∧1≤e.dot.num∧e.dot.num≤1000000000:=by
 unfold U8 at h
 split at h
 ·cases h
 ·split at h
  ·cases h
  ·omega
theorem A17{es:List Entry}(h:okL es=true){i:Nat}(hi:i < es.length):U8 es[i]! = 0∧(i=0∨dLt es[i-1]!.dot es[i]!.dot=true):=(Y4 _ _).1 ((J8 _ _).1 h i hi)
theorem B45{es:List Entry}(h:okL es=true):∀ i:Nat,i < es.length→(i:Int)+1≤es[i]!.dot.rep*1000000000+es[i]!.dot.num
 | 0,hi=>by have:=Ah3 (A17 h hi).1;omega
 | i+1,hi=>by
  have h1:=B45 h i (by omega)
  have h2:=Ah3 (A17 h hi).1
  have h3:=Ah3 (A17 h (show i < es.length by omega)).1
  have h4:=(A17 h hi).2
  rcases h4 with h4 | h4
  ·omega
  ·simp only [Nat.add_sub_cancel,dLt,decide_eq_true_eq]at h4
   omega
theorem A0a{es:List Entry}(h:okL es=true):es.length≤16000000000:=by
 by_cases h0:es.length=0
 ·omega
 ·have h1:=B45 h (es.length-1) (by omega)
  have h2:=Ah3 (A17 h (show es.length-1 < es.length by omega)).1
  omega
theorem N9{es:List Entry}(h:D2 es=0):okL es=true:=by
 unfold D2 at h
 split at h
 ·assumption
 ·cases h
theorem Av9{es:List Entry}(h:¬ D2 es=0):¬ okL es=true:=fun k=>h (by unfold D2;rw[if_pos k])
end Go.Proofs.YtokhjapfekbobaaGreat
namespace Go.Proofs.YtokhjapfekbobaaGreat
open Go.E
set_option maxRecDepth 100000
set_option maxHeartbeats 4000000
def A38(r:Record)(e:Entry):Bool:=decide (r.sku=noneS∨r.sku=e.sku) && D0 r.past e.dot
def E5(rs:List Record)(e:Entry):Int:=(rs.filter fun r=>A38 r e).length
def L9(r:Record)(rs:List Record):List Record:=r :: rs.takeWhile fun x=>decide (x.sku=r.sku)
def A77(r:Record)(rs:List Record):List Record:=rs.dropWhile fun x=>decide (x.sku=r.sku)
theorem Ah4(r:Record)(rs:List Record):(A77 r rs).length≤rs.length:=(List.dropWhile_sublist _).length_le
noncomputable def A5q(all:Past)(r:Record)(rs:List Record):Past:=if r.sku=noneS then C7 ((L9 r rs).map fun x=>x.past)else B6 (C7 ((L9 r rs).map fun x=>x.past)) all
noncomputable def allG(all:Past)(r:Record)(rs:List Record):Past:=if r.sku=noneS then C7 ((L9 r rs).map fun x=>x.past)else all
noncomputable def Y5(all:Past)(out:List Record):List Record→List Record
 | []=>out
 | r :: rs=>Y5 (allG all r rs) (if C2 (A5q all r rs)=0 then out else out++[⟨r.sku,A5q all r rs⟩]) (A77 r rs)
termination_by l=>l.length
decreasing_by
 have:=Ah4 r rs
 simp only [List.length_cons]
 omega
noncomputable def R0(rs:List Record):List Record×Int:=if D9 rs=0 then(Y5 ⟨[],[]⟩ [] rs,0)else([],1)
theorem A5r(all:Past)(out:List Record):Y5 all out []=out:=by rw[Y5]
theorem A84(all:Past)(out:List Record)(r:Record)(rs:List Record):Y5 all out (r :: rs)=Y5 (allG all r rs) (if C2 (A5q all r rs)=0 then out else out++[⟨r.sku,A5q all r rs⟩]) (A77 r rs):=by rw[Y5]
theorem B0u(r:Record)(rs:List Record):L9 r rs++A77 r rs=r :: rs:=by
 unfold L9 A77
 rw[List.cons_append,List.takeWhile_append_dropWhile]
theorem Aw0{α:Type}{p:α→Bool}{x:α}:∀ {l:List α},x∈l.takeWhile p→p x=true
 | [],h=>by cases h
 | y :: l,h=>by
  rw[List.takeWhile_cons]at h
  split at h
  ·rcases List.mem_cons.1 h with rfl | h
   ·assumption
   ·exact Aw0 h
  ·cases h
theorem Ah5{r:Record}{rs:List Record}{x:Record}(h:x∈L9 r rs):x.sku=r.sku:=by
 unfold L9 at h
 rcases List.mem_cons.1 h with rfl | h
 ·rfl
 ·have:=Aw0 h
  simpa using this
theorem A0b{r:Record}{e:Entry}:A38 r e=true↔(r.sku=noneS∨r.sku=e.sku)∧D0 r.past e.dot=true:=by
 unfold A38
 rw[Bool.and_eq_true,decide_eq_true_iff]
theorem B87(e:Entry):∀(n:Nat) (l:List Record),l.length≤n→∀(all:Past) (out:List Record),(∀ d,D0 all d=true→∃ r∈out,r.sku=noneS∧D0 r.past d=true) →
  ((∃ r∈Y5 all out l,A38 r e=true)↔(∃ r∈out,A38 r e=true)∨∃ r∈l,A38 r e=true):=by
 intro n
 induction n with
 | zero =>
  intro l hl all out _
  have:l=[]:=List.eq_nil_of_length_eq_zero (by omega)
  subst this
  rw[A5r]
  simp
 | succ n ih =>
  intro l hl all out hP
  cases l with
  | nil=>rw[A5r];simp
  | cons r rs =>
   have hlen:=Ah4 r rs
   simp only [List.length_cons]at hl
   have hj:∀ d,D0 (C7 ((L9 r rs).map fun x=>x.past)) d=true↔∃ x∈L9 r rs,D0 x.past d=true:=fun d=>by
    rw[Y2,List.any_map,List.any_eq_true]
    simp only [Function.comp]
   have hg:(∃ x∈L9 r rs,A38 x e=true)↔(r.sku=noneS∨r.sku=e.sku)∧D0 (C7 ((L9 r rs).map fun x=>x.past)) e.dot=true:=by
    rw[hj]
    constructor
    ·rintro⟨x,hx,h⟩
     obtain⟨h1,h2⟩:=A0b.1 h
     rw[Ah5 hx]at h1
     exact⟨h1,x,hx,h2⟩
    ·rintro⟨h1,x,hx,h2⟩
     exact⟨x,hx,A0b.2 ⟨by rw[Ah5 hx];exact h1,h2⟩⟩
   have hs:(∃ x∈r :: rs,A38 x e=true)↔(∃ x∈L9 r rs,A38 x e=true)∨∃ x∈A77 r rs,A38 x e=true:=by
    rw[← B0u r rs]
    constructor
    ·rintro⟨x,hx,h⟩
     rcases List.mem_append.1 hx with hx | hx
     ·exact .inl ⟨x,hx,h⟩
     ·exact .inr ⟨x,hx,h⟩
    ·rintro(⟨x,hx,h⟩ | ⟨x,hx,h⟩)
     ·exact⟨x,List.mem_append.2 (.inl hx),h⟩
     ·exact⟨x,List.mem_append.2 (.inr hx),h⟩
   -- what the group's own record covers,beside what was there
   have own:∀ q:Past,(r.sku=noneS→∀ d,D0 q d=D0 (C7 ((L9 r rs).map fun x=>x.past)) d)→(¬ r.sku=noneS→∀ d,D0 q d=(D0 (C7 ((L9 r rs).map fun x=>x.past)) d && !D0 all d)) →
     ((∃ x∈(if C2 q=0 then out else out++[⟨r.sku,q⟩]),A38 x e=true)↔(∃ x∈out,A38 x e=true)∨∃ x∈L9 r rs,A38 x e=true):=by
    intro q hq1 hq2
    have hmem:(∃ x∈(if C2 q=0 then out else out++[⟨r.sku,q⟩]),A38 x e=true)↔(∃ x∈out,A38 x e=true)∨((r.sku=noneS∨r.sku=e.sku)∧D0 q e.dot=true):=by
     split
     ·rename_i h0
      have:=(W0 q).1 h0 e.dot
      rw[this]
      simp
     ·constructor
      ·rintro⟨x,hx,h⟩
       rcases List.mem_append.1 hx with hx | hx
       ·exact .inl ⟨x,hx,h⟩
       ·have:x=⟨r.sku,q⟩:=by simpa using hx
        subst this
        exact .inr (A0b.1 h)
      ·rintro(⟨x,hx,h⟩ | h)
       ·exact⟨x,by simp [hx],h⟩
       ·exact⟨⟨r.sku,q⟩,by simp,A0b.2 h⟩
    rw[hmem,hg]
    by_cases hn:r.sku=noneS
    ·rw[hq1 hn]
    ·rw[hq2 hn,Bool.and_eq_true,Bool.not_eq_true']
     constructor
     ·rintro(h | h)
      ·exact .inl h
      ·exact .inr ⟨h.1,h.2.1⟩
     ·rintro(h | ⟨h1,h2⟩)
      ·exact .inl h
      ·cases ha:D0 all e.dot with
       | false=>exact .inr ⟨h1,h2,rfl⟩
       | true =>
        obtain⟨x,hx,k1,k2⟩:=hP _ ha
        exact .inl ⟨x,hx,A0b.2 ⟨.inl k1,k2⟩⟩
   rw[A84,ih (A77 r rs) (by omega) _ _ ?_,own (A5q all r rs) ?_ ?_,hs,or_assoc]
   ·intro hn d
    unfold A5q
    rw[if_pos hn]
   ·intro hn d
    unfold A5q
    rw[if_neg hn,A5i]
   ·intro d hd
    unfold allG at hd
    by_cases hn:r.sku=noneS
    ·rw[if_pos hn]at hd
     have hq:A5q all r rs=C7 ((L9 r rs).map fun x=>x.past):=by unfold A5q;rw[if_pos hn]
     have h0:¬ C2 (A5q all r rs)=0:=fun h0=>by
      have:=(W0 _).1 h0 d
      rw[hq,hd]at this
      cases this
     rw[if_neg h0]
     exact⟨⟨r.sku,A5q all r rs⟩,by simp,hn,by rw[hq];exact hd⟩
    ·rw[if_neg hn]at hd
     obtain⟨x,hx,k⟩:=hP d hd
     split
     ·exact⟨x,hx,k⟩
     ·exact⟨x,by simp [hx],k⟩
theorem J9{rs:List Record}{e:Entry}:E5 rs e=0↔¬ ∃ r∈rs,A38 r e=true:=by
 unfold E5
 constructor
 ·rintro h ⟨r,hr,k⟩
  have:0 <(rs.filter fun r=>A38 r e).length:=List.length_pos_iff.2 (List.ne_nil_of_mem (List.mem_filter.2 ⟨hr,k⟩))
  omega
 ·intro h
  have:rs.filter (fun r=>A38 r e)=[]:=List.filter_eq_nil_iff.2 fun r hr k=>h ⟨r,hr,k⟩
  rw[this];rfl
theorem B46(rs:List Record)(e:Entry):E5 (Y5 ⟨[],[]⟩ [] rs) e=0↔E5 rs e=0:=by
 rw[J9,J9,B87 e rs.length rs (Nat.le_refl _) _ _ (fun d h=>by rw[B7z]at h;cases h)]
 simp
noncomputable def I0(es:List Entry)(rs:List Record):List Entry×Int:=if D2 es=0∧D9 rs=0 then(es.filter fun e=>decide (E5 rs e=0),0)else([],1)
def A39(rs:List Record):Nat:=(rs.map fun r=>r.past.cloud.length+1).sum
def tokR(rs:List Record):Prop:=A39 rs*16≤140737488350000∧rs.length*64≤140737488350000
end Go.Proofs.YtokhjapfekbobaaGreat
namespace Go.Proofs.YtokhjapfekbobaaGreat
open Go.E
set_option maxRecDepth 100000
set_option maxHeartbeats 4000000
def Ap3(x y:List Run)(i j:Int)(o:List Run):Prop:=o++T9 (x.drop i.toNat) (y.drop j.toNat)=T9 x y
def B0v(x y:List Run)(i j:Int)(o:List Run):Prop:=0≤i∧i≤x.length∧0≤j∧j≤y.length∧(o.length:Int)≤i+j∧Ap3 x y i j o
def decMe(x y:List Run)(i j:Int)(o:List Run):Nat:=(x.length-i+(y.length-j)).toNat
theorem B88{a:List Run}{i:Int}(h0:0≤i)(h:i < a.length):a.drop i.toNat=a[i.toNat]! :: a.drop (i+1).toNat:=by
 rw[show(i+1).toNat=i.toNat+1 by omega,getElem!_pos a i.toNat (by omega)]
 exact List.drop_eq_getElem_cons (by omega)
theorem Aw1{a:List Run}{i:Int}(h:¬ i < a.length):a.drop i.toNat=[]:=List.drop_of_length_le (by omega)
theorem A9p{x y o:List Run}{i j:Int}(h0:0≤i)(hi:i < x.length)(j0:0≤j)(hj:j < y.length)(h:Ap3 x y i j o) :
  (o++if max x[i.toNat]!.lo y[j.toNat]!.lo≤min x[i.toNat]!.hi y[j.toNat]!.hi then[⟨max x[i.toNat]!.lo y[j.toNat]!.lo,min x[i.toNat]!.hi y[j.toNat]!.hi⟩]else[]) ++
   (if x[i.toNat]!.hi < y[j.toNat]!.hi then T9 (x.drop (i+1).toNat) (y.drop j.toNat)else T9 (x.drop i.toNat) (y.drop (j+1).toNat))=T9 x y:=by
 unfold Ap3 at h
 rw[← h,B88 h0 hi,B88 j0 hj,A0p,List.append_assoc]
theorem me_in1{x y o:List Run}{i j:Int}(h0:0≤i)(hi:i < x.length)(j0:0≤j)(hj:j < y.length)(h:Ap3 x y i j o)(c:max x[i.toNat]!.lo y[j.toNat]!.lo≤min x[i.toNat]!.hi y[j.toNat]!.hi)(d:x[i.toNat]!.hi < y[j.toNat]!.hi) :
  Ap3 x y (i+1) j (o++[⟨max x[i.toNat]!.lo y[j.toNat]!.lo,min x[i.toNat]!.hi y[j.toNat]!.hi⟩]):=by
 have:=A9p h0 hi j0 hj h
 rw[if_pos c,if_pos d]at this
 exact this
theorem me_in2{x y o:List Run}{i j:Int}(h0:0≤i)(hi:i < x.length)(j0:0≤j)(hj:j < y.length)(h:Ap3 x y i j o)(c:max x[i.toNat]!.lo y[j.toNat]!.lo≤min x[i.toNat]!.hi y[j.toNat]!.hi)(d:¬ x[i.toNat]!.hi < y[j.toNat]!.hi) :
  Ap3 x y i (j+1) (o++[⟨max x[i.toNat]!.lo y[j.toNat]!.lo,min x[i.toNat]!.hi y[j.toNat]!.hi⟩]):=by
 have:=A9p h0 hi j0 hj h
 rw[if_pos c,if_neg d]at this
 exact this
theorem Bk2{x y o:List Run}{i j:Int}(h0:0≤i)(hi:i < x.length)(j0:0≤j)(hj:j < y.length)(h:Ap3 x y i j o)(c:¬ max x[i.toNat]!.lo y[j.toNat]!.lo≤min x[i.toNat]!.hi y[j.toNat]!.hi)(d:x[i.toNat]!.hi < y[j.toNat]!.hi):Ap3 x y (i+1) j o:=by
 have:=A9p h0 hi j0 hj h
 rw[if_neg c,if_pos d,List.append_nil]at this
 exact this
theorem Bk3{x y o:List Run}{i j:Int}(h0:0≤i)(hi:i < x.length)(j0:0≤j)(hj:j < y.length)(h:Ap3 x y i j o)(c:¬ max x[i.toNat]!.lo y[j.toNat]!.lo≤min x[i.toNat]!.hi y[j.toNat]!.hi)(d:¬ x[i.toNat]!.hi < y[j.toNat]!.hi):Ap3 x y i (j+1) o:=by
 have:=A9p h0 hi j0 hj h
 rw[if_neg c,if_neg d,List.append_nil]at this
 exact this
theorem me_end{x y o:List Run}{i j:Int}(hn:¬(i < x.length∧j < y.length))(h:Ap3 x y i j o):o=T9 x y:=by
 unfold Ap3 at h
 by_cases hi:i < x.length
 ·rw[Aw1 (a:=y) (i:=j) (fun k=>hn ⟨hi,k⟩),A0o,List.append_nil]at h
  exact h
 ·rw[Aw1 hi,N8,List.append_nil]at h
  exact h
theorem B89(x y:List Run):Ap3 x y 0 0 []:=rfl
def B1r(n:List Run)(x i:Int)(o:List Run):Prop:=o++A45 x (n.drop i.toNat)=A45 1 n
def B8a(n:List Run)(x i:Int)(o:List Run):Prop:=0≤i∧i≤n.length∧(o.length:Int)≤i∧1≤x∧x≤1000000001∧B1r n x i o
def decOt(n:List Run)(x i:Int)(o:List Run):Nat:=(n.length-i).toNat
theorem ot_in{n o:List Run}{x i:Int}(h0:0≤i)(hi:i < n.length)(h:B1r n x i o)(c:x < n[i.toNat]!.lo):B1r n (n[i.toNat]!.hi+1) (i+1) (o++[⟨x,n[i.toNat]!.lo-1⟩]):=by
 unfold B1r at *
 rw[B88 h0 hi,A45,if_pos c,← List.append_assoc]at h
 exact h
theorem ot_out{n o:List Run}{x i:Int}(h0:0≤i)(hi:i < n.length)(h:B1r n x i o)(c:¬ x < n[i.toNat]!.lo):B1r n (n[i.toNat]!.hi+1) (i+1) o:=by
 unfold B1r at *
 rw[B88 h0 hi,A45,if_neg c,List.nil_append]at h
 exact h
theorem Bk4{n o:List Run}{x i:Int}(hi:¬ i < n.length)(h:B1r n x i o)(c:x≤1000000000):o++[⟨x,1000000000⟩]=A45 1 n:=by
 unfold B1r at h
 rw[Aw1 hi,A45,if_pos c]at h
 exact h
theorem Bk5{n o:List Run}{x i:Int}(hi:¬ i < n.length)(h:B1r n x i o)(c:¬ x≤1000000000):o=A45 1 n:=by
 unfold B1r at h
 rw[Aw1 hi,A45,if_neg c,List.append_nil]at h
 exact h
def Bk6(A B:Nat→List Run)(r:Int)(T:Nat→List Run):Prop:=∀ k:Nat,k < 16→T k=if(k:Int) < r then Y1 (A k) (B k)else A k
def Bk7(A B:Nat→List Run)(r:Int)(T U:Nat→List Run):Prop:=U=B∧0≤r∧r≤16∧Bk6 A B r T
def decEa(r:Int)(T U:Nat→List Run):Nat:=(16-r).toNat
theorem B8b(A B:Nat→List Run):Bk6 A B 0 A:=fun k _=>by rw[if_neg (by omega)]
theorem ea_at{A B T:Nat→List Run}{r:Int}(h0:0≤r)(h1:r < 16)(h:Bk6 A B r T):T r.toNat=A r.toNat:=by
 rw[h r.toNat (by omega),if_neg (by omega)]
theorem Bk8{A B T:Nat→List Run}{r:Int}(h0:0≤r)(h1:r < 16)(h:Bk6 A B r T):Bk6 A B (r+1) (L4 T r.toNat (Y1 (T r.toNat) (B r.toNat))):=by
 intro k hk
 unfold L4
 by_cases e:k=r.toNat
 ·subst e
  rw[if_pos rfl,if_pos (by omega),ea_at h0 h1 h]
 ·rw[if_neg e,h k hk]
  by_cases c:(k:Int) < r
  ·rw[if_pos c,if_pos (by omega)]
  ·rw[if_neg c,if_neg (by omega)]
theorem ea_end{A B T:Nat→List Run}{r:Int}(hr:r≤16)(h1:¬ r < 16)(h:Bk6 A B r T):G1 T=G1 fun k=>Y1 (A k) (B k):=V8 fun k hk=>by
 rw[h k hk,if_pos (by omega)]
theorem con142(a b:List Run)(ha:a.length*16≤140737488351232)(hb:b.length*16≤140737488351232):Con Tryz.prog 142 [.sl (a.map c181),.sl (b.map c181)] (.sl ((metR a b).map c181)) :=
 by
 have h1:=N2 (F1 a)
 have h2:=N2 (F1 b)
 refine lN 0 c181 (a) Tryz.func142 fun hl_0=>lN 1 c181 (b) Tryz.func142 fun hl_1=>sC A9 [.tmp 4] 73 Tryz.func142 ?_
 intro e0 cx
 refine sq<|rG cx [0,1] [] z0<|sn<|sq ?_
 have hl_0:=(X7 a)
 have hl_1:=(X7 b)
 refine rG cx [5,6] [] (fT (Af7 (a) (by(with_reducible assumption))) (fT (Af7 (b) (by(with_reducible assumption))) (oA 1 (.sl (List.map c181 (nrm a))) (oA 3 (.sl (List.map c181 (nrm b))) z0))))<|sn<|sq<|rG cx [5,6,7] [] z0<|sn<|sq<|sq<|rG cx [5,6,7,8,9] [] z0<|sn<|bL 0<|G0 7 1007 181 2 (σ':=⟨[(5,.sl (List.map c181 (nrm a))),(6,.sl (List.map c181 (nrm b))),(7,.own 1007 0),(8,.i .i64 ((0:Int))),(9,.i .i64 ((0:Int)))],[(1007,⟨0,181,.row 2 (List.map c181 [])⟩)]⟩) (by kernel_rfl)<|sL (X:=Int×Int×List Run) (fun x=>⟨[(5,.sl (List.map c181 (nrm a))),(6,.sl (List.map c181 (nrm b))),(7,.own 1007 0),(8,.i .i64 (x.1)),(9,.i .i64 (x.2.1))],[(1007,⟨0,181,.row 2 (List.map c181 x.2.2)⟩)]⟩) (fun x ↦ decMe (nrm a) (nrm b) x.1 x.2.1 x.2.2) (fun x ↦ B0v (nrm a) (nrm b) x.1 x.2.1 x.2.2) [5,6,7,8,9] [1007] (((0:Int),(0:Int),[])) (show B0v (nrm a) (nrm b) (0:Int) (0:Int) []from(by exact⟨by omega,by omega,by omega,by omega,by simp,B89 _ _⟩)) ?_
 rintro⟨i2,j3,o4⟩ h_5
 obtain⟨h6,h7,h8,h9,h10,h11⟩:0≤i2∧i2≤(↑(nrm a).length:Int)∧0≤j3∧j3≤(↑(nrm b).length:Int)∧(↑o4.length:Int)≤i2+j3∧Ap3 (nrm a) (nrm b) i2 j3 o4:=h_5
 refine sq<|sq<|B3 (σ':=⟨[(5,.sl (List.map c181 (nrm a))),(6,.sl (List.map c181 (nrm b))),(7,.own 1007 0),(8,.i .i64 (i2)),(9,.i .i64 (j3)),(24,.b (decide (i2 <(↑(nrm a).length:Int)∧j3 <(↑(nrm b).length:Int))))],[(1007,⟨0,181,.row 2 (List.map c181 o4)⟩)]⟩) ?_ ?_
 refine A4 (i2 <(↑(nrm a).length:Int)) (fun h_13=>?_) (fun h_13=>?_)
 refine rG cx [5,6,7,8,9,24] [1007] (tL 2 c181 (nrm a) (tT 3 (A3 h_13) (tL 7 c181 (nrm b) (tB 8 (j3 <(↑(nrm b).length:Int)) (tD 9 (decide (j3 <(↑(nrm b).length:Int))) (i2 <(↑(nrm a).length:Int)∧j3 <(↑(nrm b).length:Int)) (by simp only [eq_true h_13,tsl]) z0))))) ?_
 exact⟨rfl,by kernel_rfl⟩
 refine rG cx [5,6,7,8,9,24] [1007] (tL 2 c181 (nrm a) (tT 3 (A0 h_13) (tD 9 false (i2 <(↑(nrm a).length:Int)∧j3 <(↑(nrm b).length:Int)) (by simp only [eq_false h_13,tsl]) z0))) ?_
 exact⟨rfl,by kernel_rfl⟩
 refine sn<|dC (i2 <(↑(nrm a).length:Int)∧j3 <(↑(nrm b).length:Int)) (fun h14=>?_) fun h14=>?_
 refine sK<|sn<|bL 1<|sq<|rA cx [5,6,7,8,9,10] [1007,10] (fA (0≤i2) (fG c181 (nrm a) i2.toNat (fR 2 (fA (0≤j3) (fG c181 (nrm b) j3.toNat (fR 2 (tT 10 (A4c:AV.i .i64 (if(nrm b)[j3.toNat]!.lo >(nrm a)[i2.toNat]!.lo then(nrm b)[j3.toNat]!.lo else(nrm a)[i2.toNat]!.lo)=AV.i .i64 (max (nrm a)[i2.toNat]!.lo (nrm b)[j3.toNat]!.lo)) (fA (0≤i2) (fG c181 (nrm a) i2.toNat (fR 2 (fA (0≤j3) (fG c181 (nrm b) j3.toNat (fR 2 (tT 21 (A4d:AV.i .i64 (if(nrm b)[j3.toNat]!.hi <(nrm a)[i2.toNat]!.hi then(nrm b)[j3.toNat]!.hi else(nrm a)[i2.toNat]!.hi)=AV.i .i64 (min (nrm a)[i2.toNat]!.hi (nrm b)[j3.toNat]!.hi)) (oR 2 (c181 (nrm a)[i2.toNat]!) (oR 7 (c181 (nrm b)[j3.toNat]!) (oR 13 (c181 (nrm a)[i2.toNat]!) (oR 18 (c181 (nrm b)[j3.toNat]!) z0))))))))))))))))))<|sn<|sq<|rD cx [5,6,7,8,9,10,52] [1007,10] (zB 4 (max (nrm a)[i2.toNat]!.lo (nrm b)[j3.toNat]!.lo≤min (nrm a)[i2.toNat]!.hi (nrm b)[j3.toNat]!.hi)) (fun h15=>?_) fun h15=>?_
 refine rG cx [5,6,7,8,9] [1007] (fR 181 (fR 2 (fR 2 (fX c181 [{ lo:=max (nrm a)[i2.toNat]!.lo (nrm b)[j3.toNat]!.lo,hi:=min (nrm a)[i2.toNat]!.hi (nrm b)[j3.toNat]!.hi:Run }] 2 (fS c181 o4 c181 [{ lo:=max (nrm a)[i2.toNat]!.lo (nrm b)[j3.toNat]!.lo,hi:=min (nrm a)[i2.toNat]!.hi (nrm b)[j3.toNat]!.hi:Run }] (fP (((List.map c181 o4).length+(List.map c181 [{ lo:=max (nrm a)[i2.toNat]!.lo (nrm b)[j3.toNat]!.lo,hi:=min (nrm a)[i2.toNat]!.hi (nrm b)[j3.toNat]!.hi:Run }]).length)*(16:Nat)≤(140737488355328:Nat)) (by simp only [List.length_map,List.length_cons,List.length_nil];omega) (fM c181 o4 [{ lo:=max (nrm a)[i2.toNat]!.lo (nrm b)[j3.toNat]!.lo,hi:=min (nrm a)[i2.toNat]!.hi (nrm b)[j3.toNat]!.hi:Run }] (oV 3 { rows:=some (List.map c181 (o4++[{ lo:=max (nrm a)[i2.toNat]!.lo (nrm b)[j3.toNat]!.lo,hi:=min (nrm a)[i2.toNat]!.hi (nrm b)[j3.toNat]!.hi:Run }])) } z0)))))))) ?_
 refine sn<|sq<|rA cx [5,6,7,8,9,67] [1007] (fA (0≤i2) (fG c181 (nrm a) i2.toNat (fR 2 (fA (0≤j3) (fG c181 (nrm b) j3.toNat (fR 2 (tB 10 ((nrm a)[i2.toNat]!.hi <(nrm b)[j3.toNat]!.hi) (oR 2 (c181 (nrm a)[i2.toNat]!) (oR 7 (c181 (nrm b)[j3.toNat]!) z0)))))))))<|sn<|dC ((nrm a)[i2.toNat]!.hi <(nrm b)[j3.toNat]!.hi) (fun h16=>?_) fun h16=>?_
 refine rG cx [5,6,7,8,9] [1007] (tW 1 (i2+1) z0)<|bN<|sn<|nX ((i2+1,j3,o4++[{ lo:=max (nrm a)[i2.toNat]!.lo (nrm b)[j3.toNat]!.lo,hi:=min (nrm a)[i2.toNat]!.hi (nrm b)[j3.toNat]!.hi:Run }])) (show((↑(nrm a).length:Int)-(i2+1)+((↑(nrm b).length:Int)-j3)).toNat <((↑(nrm a).length:Int)-i2+((↑(nrm b).length:Int)-j3)).toNat from(by omega)) (show B0v (nrm a) (nrm b) (i2+1) j3 (o4++[{ lo:=max (nrm a)[i2.toNat]!.lo (nrm b)[j3.toNat]!.lo,hi:=min (nrm a)[i2.toNat]!.hi (nrm b)[j3.toNat]!.hi:Run }])from(by exact⟨by omega,by omega,by omega,by omega,by simp only [List.length_append,List.length_cons,List.length_nil];omega,me_in1 h6 h14.1 h8 h14.2 h11 h15 h16⟩))
 refine rG cx [5,6,7,8,9] [1007] (tW 1 (j3+1) z0)<|bN<|sn<|nX ((i2,j3+1,o4++[{ lo:=max (nrm a)[i2.toNat]!.lo (nrm b)[j3.toNat]!.lo,hi:=min (nrm a)[i2.toNat]!.hi (nrm b)[j3.toNat]!.hi:Run }])) (show((↑(nrm a).length:Int)-i2+((↑(nrm b).length:Int)-(j3+1))).toNat <((↑(nrm a).length:Int)-i2+((↑(nrm b).length:Int)-j3)).toNat from(by omega)) (show B0v (nrm a) (nrm b) i2 (j3+1) (o4++[{ lo:=max (nrm a)[i2.toNat]!.lo (nrm b)[j3.toNat]!.lo,hi:=min (nrm a)[i2.toNat]!.hi (nrm b)[j3.toNat]!.hi:Run }])from(by exact⟨by omega,by omega,by omega,by omega,by simp only [List.length_append,List.length_cons,List.length_nil];omega,me_in2 h6 h14.1 h8 h14.2 h11 h15 h16⟩))
 refine sK<|sn<|sq<|rA cx [5,6,7,8,9,67] [1007] (fA (0≤i2) (fG c181 (nrm a) i2.toNat (fR 2 (fA (0≤j3) (fG c181 (nrm b) j3.toNat (fR 2 (tB 10 ((nrm a)[i2.toNat]!.hi <(nrm b)[j3.toNat]!.hi) (oR 2 (c181 (nrm a)[i2.toNat]!) (oR 7 (c181 (nrm b)[j3.toNat]!) z0)))))))))<|sn<|dC ((nrm a)[i2.toNat]!.hi <(nrm b)[j3.toNat]!.hi) (fun h17=>?_) fun h17=>?_
 refine rG cx [5,6,7,8,9] [1007] (tW 1 (i2+1) z0)<|bN<|sn<|nX ((i2+1,j3,o4)) (show((↑(nrm a).length:Int)-(i2+1)+((↑(nrm b).length:Int)-j3)).toNat <((↑(nrm a).length:Int)-i2+((↑(nrm b).length:Int)-j3)).toNat from(by omega)) (show B0v (nrm a) (nrm b) (i2+1) j3 o4 from(by exact⟨by omega,by omega,by omega,by omega,by omega,Bk2 h6 h14.1 h8 h14.2 h11 h15 h17⟩))
 refine rG cx [5,6,7,8,9] [1007] (tW 1 (j3+1) z0)<|bN<|sn<|nX ((i2,j3+1,o4)) (show((↑(nrm a).length:Int)-i2+((↑(nrm b).length:Int)-(j3+1))).toNat <((↑(nrm a).length:Int)-i2+((↑(nrm b).length:Int)-j3)).toNat from(by omega)) (show B0v (nrm a) (nrm b) i2 (j3+1) o4 from(by exact⟨by omega,by omega,by omega,by omega,by omega,Bk3 h6 h14.1 h8 h14.2 h11 h15 h17⟩))
 refine eX 0<|nE<|nE<|bH<|sn<|sq<|rG cx [4] [1007] z0<|sn<|rT<|qR (.sl (List.map c181 o4)) (.eq (by rw[me_end h14 h11];rfl))
theorem con143(n:List Run)(hn:N7 n):Con Tryz.prog 143 [.sl (n.map c181)] (.sl ((A45 1 n).map c181)) :=
 by
 have h1:=N2 hn
 have hr:∀ i:Int,0≤i→i < n.length→1≤n[i.toNat]!.lo∧n[i.toNat]!.lo≤n[i.toNat]!.hi∧n[i.toNat]!.hi≤1000000000:=fun i h0 h1=>hn.2 _ (E2 (by omega))
 refine lN 0 c181 (n) Tryz.func143 fun hl_0=>sC A9 [.tmp 2] 37 Tryz.func143 ?_
 intro e0 cx
 refine sq<|rG cx [0] [] z0<|sn<|sq<|rG cx [0,3] [] z0<|sn<|sq<|rG cx [0,3,4] [] z0<|sn<|sq<|sq<|rG cx [3,4,7,8,9] [] (tL 1 c181 n z0)<|sn<|bL 0<|G0 3 1003 181 2 (σ':=⟨[(3,.own 1003 0),(4,.i .i64 ((1:Int))),(7,.sl (List.map c181 n)),(8,.i .i64 ((↑n.length:Int))),(9,.i .i64 ((0:Int)))],[(1003,⟨0,181,.row 2 (List.map c181 [])⟩)]⟩) (by kernel_rfl)<|sL (X:=Int×Int×List Run) (fun x=>⟨[(3,.own 1003 0),(4,.i .i64 (x.1)),(7,.sl (List.map c181 n)),(8,.i .i64 ((↑n.length:Int))),(9,.i .i64 (x.2.1))],[(1003,⟨0,181,.row 2 (List.map c181 x.2.2)⟩)]⟩) (fun x ↦ decOt n x.1 x.2.1 x.2.2) (fun x ↦ B8a n x.1 x.2.1 x.2.2) [3,4,7,8,9] [1003] (((1:Int),(0:Int),[])) (show B8a n (1:Int) (0:Int) []from ?g0) ?_;rotate_left
 rintro⟨x0,i1,o2⟩ h_3
 obtain⟨h4,h5,h6,h7,h8,h9⟩:0≤i1∧i1≤(↑n.length:Int)∧(↑o2.length:Int)≤i1∧1≤x0∧x0≤1000000001∧B1r n x0 i1 o2:=h_3
 refine rE cx [3,4,7,8,9,10] [1003] (zB 0 (i1 <(↑n.length:Int))) (fun h10=>?_) fun h10=>?_
 refine sK<|sn<|sq<|bL 1<|sq<|rG cx [3,4,7,8,9,6] [1003,6] (fA (0≤i1) (fG c181 n i1.toNat (fR 2 (fN 2 2 (oR 0 (c181 n[i1.toNat]!) z0)))))<|sn<|sq<|rD cx [3,4,7,8,9,6,16] [1003,6] (zB 3 (x0 < n[i1.toNat]!.lo)) (fun h11=>?_) fun h11=>?_
 refine rG cx [3,7,8,9,6] [1003,6] (tT 4 (B7 (by omega) ?g1:AV.i .i64 (IntKind.i64.wrap (n[i1.toNat]!.lo-1))=AV.i .i64 (n[i1.toNat]!.lo-1)) (fR 181 (fR 2 (fR 2 (fX c181 [{ lo:=x0,hi:=n[i1.toNat]!.lo-1:Run }] 2 (fS c181 o2 c181 [{ lo:=x0,hi:=n[i1.toNat]!.lo-1:Run }] (fP (((List.map c181 o2).length+(List.map c181 [{ lo:=x0,hi:=n[i1.toNat]!.lo-1:Run }]).length)*(16:Nat)≤(140737488355328:Nat)) ?g2 (fM c181 o2 [{ lo:=x0,hi:=n[i1.toNat]!.lo-1:Run }] (oV 7 { rows:=some (List.map c181 (o2++[{ lo:=x0,hi:=n[i1.toNat]!.lo-1:Run }])) } z0))))))))) ?_;rotate_left 2
 refine sn<|rG cx [3,7,8,9,4] [1003] (tT 2 (B7 ?g3 ?g4:AV.i .i64 (IntKind.i64.wrap (n[i1.toNat]!.hi+1))=AV.i .i64 (n[i1.toNat]!.hi+1)) z0) ?_;rotate_left 2
 refine bN<|sn<|rG cx [3,7,8,9,4] [1003] (tW 0 (i1+1) z0)<|sn<|nX ((n[i1.toNat]!.hi+1,i1+1,o2++[{ lo:=x0,hi:=n[i1.toNat]!.lo-1:Run }])) (show((↑n.length:Int)-(i1+1)).toNat <((↑n.length:Int)-i1).toNat from(by omega)) (show B8a n (n[i1.toNat]!.hi+1) (i1+1) (o2++[{ lo:=x0,hi:=n[i1.toNat]!.lo-1:Run }])from ?g5);rotate_left
 refine sK<|sn<|rG cx [3,4,7,8,9] [1003] (tT 2 (B7 ?g6 ?g7:AV.i .i64 (IntKind.i64.wrap (n[i1.toNat]!.hi+1))=AV.i .i64 (n[i1.toNat]!.hi+1)) z0) ?_;rotate_left 2
 refine bN<|sn<|rG cx [3,4,7,8,9] [1003] (tW 0 (i1+1) z0)<|sn<|nX ((n[i1.toNat]!.hi+1,i1+1,o2)) (show((↑n.length:Int)-(i1+1)).toNat <((↑n.length:Int)-i1).toNat from(by omega)) (show B8a n (n[i1.toNat]!.hi+1) (i1+1) o2 from ?g8);rotate_left
 refine eX 0<|nE<|nE<|bH<|sn<|sq<|rD cx [3,4,30] [1003] (zB 1 (x0≤1000000000)) (fun h12=>?_) fun h12=>?_
 refine rG cx [3] [1003] (fR 181 (fR 2 (fR 2 (fX c181 [{ lo:=x0,hi:=(1000000000:Int):Run }] 2 (fP ((List.map c181 o2).length+(List.map c181 [{ lo:=x0,hi:=(1000000000:Int):Run }]).length≤maxLen) ?g9 (fP (((List.map c181 o2).length+(List.map c181 [{ lo:=x0,hi:=(1000000000:Int):Run }]).length)*(16:Nat)≤(140737488355328:Nat)) ?g10 (fM c181 o2 [{ lo:=x0,hi:=(1000000000:Int):Run }] (oV 4 { rows:=some (List.map c181 (o2++[{ lo:=x0,hi:=(1000000000:Int):Run }])) } z0)))))))) ?_;rotate_left 2
 refine sn<|sq<|rG cx [2] [1003] z0<|sn<|rT<|qR (.sl (List.map c181 (o2++[{ lo:=x0,hi:=(1000000000:Int):Run }]))) (.eq ?g11);rotate_left
 refine sK<|sn<|sq<|rG cx [2] [1003] z0<|sn<|rT<|qR (.sl (List.map c181 o2)) (.eq ?g12);rotate_left
 rotate_left
 revert x0 i1 o2 h4 h5 h6 h7 h8 h9 h10 h11;rotate_left
 revert x0 i1 o2 h4 h5 h6 h7 h8 h9 h10 h11;rotate_left
 revert x0 i1 o2 h4 h5 h6 h7 h8 h9 h10 h11;rotate_left
 revert x0 i1 o2 h4 h5 h6 h7 h8 h9 h10 h11;rotate_left
 revert x0 i1 o2 h4 h5 h6 h7 h8 h9 h10 h11;rotate_left
 revert x0 i1 o2 h4 h5 h6 h7 h8 h9 h10 h11;rotate_left
 revert x0 i1 o2 h4 h5 h6 h7 h8 h9 h10 h11;rotate_left
 revert x0 i1 o2 h4 h5 h6 h7 h8 h9 h10 h11;rotate_left
 revert x0 i1 o2 h4 h5 h6 h7 h8 h9 h10 h12;rotate_left
 revert x0 i1 o2 h4 h5 h6 h7 h8 h9 h10 h12;rotate_left
 revert x0 i1 o2 h4 h5 h6 h7 h8 h9 h10 h12;rotate_left
 revert x0 i1 o2 h4 h5 h6 h7 h8 h9 h10 h12;rotate_left
 case g0=>exact⟨by omega,by omega,by simp,by omega,by omega,rfl⟩
 case g5=>intro x i o k0 k1 k2 k3 k4 k5 k6 k7;have:=hr i k0 k6;exact⟨by omega,by omega,by simp only [List.length_append,List.length_cons,List.length_nil];omega,by omega,by omega,ot_in k0 k6 k5 k7⟩
 case g8=>intro x i o k0 k1 k2 k3 k4 k5 k6 k7;have:=hr i k0 k6;exact⟨by omega,by omega,by omega,by omega,by omega,ot_out k0 k6 k5 k7⟩
 case g2=>intro x i o k0 k1 k2 k3 k4 k5 k6 k7;simp only [List.length_map,List.length_cons,List.length_nil];omega
 case g9=>intro x i o k0 k1 k2 k3 k4 k5 k6 k7;simp only [List.length_map,List.length_cons,List.length_nil,Go.maxLen];omega
 case g10=>intro x i o k0 k1 k2 k3 k4 k5 k6 k7;simp only [List.length_map,List.length_cons,List.length_nil];omega
 case g11=>intro x i o k0 k1 k2 k3 k4 k5 k6 k7;rw[Bk4 k6 k5 k7]
 case g12=>intro x i o k0 k1 k2 k3 k4 k5 k6 k7;rw[Bk5 k6 k5 k7]
 all_goals (intro x i o k0 k1 k2 k3 k4 k5 k6 k7;have:=hr i k0 k6;omega)
theorem Bd3(a b:List Run)(ha:a.length*16≤140737488351232)(hb:b.length*16≤140737488351232):Con Tryz.prog 101 [.sl (a.map c181),.sl (b.map c181)] (.sl ((Y1 a b).map c181)) :=
 by
 have h2:=N2 (B3j b)
 refine lN 0 c181 (a) Tryz.func101 fun hl_0=>lN 1 c181 (b) Tryz.func101 fun hl_1=>sC A9 [.tmp 4] 10 Tryz.func101 ?_
 intro e0 cx
 refine sq<|rG cx [0,1] [] z0<|sn<|sq ?_
 have hl_0:=(X7 b)
 refine rG cx [4] [] (fT (Af7 (b) (by(with_reducible assumption))) (fT (con143 (nrm b) ?g0) (fT (con142 (a) (A45 (1:Int) (nrm b)) (by(with_reducible assumption)) ?g1) (oA 2 (.sl (List.map c181 (nrm b))) (oA 3 (.sl (List.map c181 (A45 (1:Int) (nrm b)))) (oA 4 (.sl (List.map c181 (metR a (A45 (1:Int) (nrm b))))) z0)))))) ?_;rotate_left 2
 refine sn<|rT<|qR (.sl (List.map c181 (metR a (A45 (1:Int) (nrm b))))) (.eq ?g2);rotate_left
 case g0=>exact F1 b
 case g1=>omega
 case g2=>rfl
theorem con100(a b:Past)(ha:a.cloud.length*16≤140737488350000)(hb:b.cloud.length*16≤140737488350000):Con Tryz.prog 100 [.agg (c26 a),.agg (c26 b),.fn (.func 101) [] []] (.agg (c26 (B6 a b))) :=
 by
 refine sC A9 [.cell 6 26] 38 Tryz.func100 ?_
 intro e0 cx
 refine sq<|rG cx [2,3,4,6] [3,4,6] z0<|sn<|sq<|rA cx [2,6,7,8] [6,12,15] (fT (A5d ([a]) (by exact A82 ha)) (fT (A5d ([b]) (by exact A82 hb)) (oV 2 { val:=some (.ptr ((155:Nat)) (0) (0) (0)),row:=(E8 c181 16 (A8 [a])) } (oV 5 { val:=some (.ptr ((155:Nat)) (0) (0) (0)),row:=(E8 c181 16 (A8 [b])) } z0)))) ?_
 refine sn<|sq<|sq<|rG cx [2,6,7,8,16] [6,12,15] z0<|sn<|bL 0<|sL (X:=Int×(Nat→List Run)×(Nat→List Run)) (fun x=>⟨[(2,.fn (Fn.func (101:FuncId)) [] []),(6,.ptr (6) (0) (0) (0)),(7,.ptr (12) (0) (0) (0)),(8,.ptr (15) (0) (0) (0)),(16,.i .i64 (x.1))],[(6,⟨0,26,.var [.nl,.nl]⟩),(12,⟨0,155,.arr (E8 c181 16 x.2.1)⟩),(15,⟨0,155,.arr (E8 c181 16 x.2.2)⟩)]⟩) (fun x ↦ decEa x.1 x.2.1 x.2.2) (fun x ↦ Bk7 (A8 [a]) (A8 [b]) x.1 x.2.1 x.2.2) [2,6,7,8,16] [6,12,15] (((0:Int),A8 [a],A8 [b])) (show Bk7 (A8 [a]) (A8 [b]) (0:Int) (A8 [a]) (A8 [b])from(by exact⟨rfl,by omega,by omega,B8b _ _⟩)) ?_
 rintro⟨r0,T1,U2⟩ h_3
 obtain⟨h4,h5,h6,h7⟩:U2=A8 [b]∧0≤r0∧r0≤16∧Bk6 (A8 [a]) (A8 [b]) r0 T1:=h_3
 refine rE cx [2,6,7,8,16,17] [6,12,15] (zB 0 (r0 <(16:Int))) (fun h8=>?_) fun h8=>?_
 refine sK<|sn<|sq<|bL 1<|sq<|rG cx [2,6,7,8,16,9] [6,12,15] z0<|sn<|rA cx [2,6,7,8,16] [6,12,15] (fA (0≤r0) (fO (r0 <(↑(16:Nat):Int)) (fP ((E8 c181 16 T1)[r0.toNat*(1:Nat)+0]?=some (AV.sl (List.map c181 (T1 r0.toNat)))) (by((try simp only [Nat.mul_one,Nat.add_zero,Nat.zero_add]);with_reducible refine E7 ?_;omega)) (fA (0≤r0) (fO (r0 <(↑(16:Nat):Int)) (fP ((E8 c181 16 U2)[r0.toNat*(1:Nat)+0]?=some (AV.sl (List.map c181 (U2 r0.toNat)))) (by((try simp only [Nat.mul_one,Nat.add_zero,Nat.zero_add]);with_reducible refine E7 ?_;omega)) (fT (Bd3 (T1 r0.toNat) (U2 r0.toNat) (by rw[ea_at h5 h8 h7];exact A5o ha _) (by subst h4;exact A5o hb _)) (fA (0≤r0) (fO (r0 <(↑(16:Nat):Int)) (fP (r0.toNat*(1:Nat)+0 <(E8 c181 16 T1).length) (by rw[S7];omega) (fR [(E0 (AV.sl (List.map c181 (Y1 (T1 r0.toNat) (U2 r0.toNat))))).headD AV.dead] (fP ((E8 c181 16 T1).set (r0.toNat*(1:Nat)+0) ((E0 (AV.sl (List.map c181 (Y1 (T1 r0.toNat) (U2 r0.toNat))))).headD AV.dead)=E8 c181 16 (L4 T1 r0.toNat (Y1 (T1 r0.toNat) (U2 r0.toNat)))) (by((try simp only [Nat.mul_one,Nat.add_zero,Nat.zero_add]);(with_reducible refine A51 ?_);exact Eq.refl _)) (oR 7 [.sl (List.map c181 (T1 r0.toNat))] (oR 12 [.sl (List.map c181 (U2 r0.toNat))] (oA 13 (.sl (List.map c181 (Y1 (T1 r0.toNat) (U2 r0.toNat)))) (oV 16 { rows:=some [(E8 c181 16 (L4 T1 r0.toNat (Y1 (T1 r0.toNat) (U2 r0.toNat))))] } z0)))))))))))))))) ?_
 refine bN<|sn<|rG cx [2,6,7,8,16] [6,12,15] (tW 0 (r0+1) z0)<|sn<|nX ((r0+1,L4 T1 r0.toNat (Y1 (T1 r0.toNat) (U2 r0.toNat)),U2)) (show(16-(r0+1)).toNat <(16-r0).toNat from(by omega)) (show Bk7 (A8 [a]) (A8 [b]) (r0+1) (L4 T1 r0.toNat (Y1 (T1 r0.toNat) (U2 r0.toNat))) U2 from(by subst h4;exact⟨rfl,by omega,by omega,Bk8 h5 h8 h7⟩))
 refine eX 0<|nE<|nE<|bH<|sn<|sq<|rG cx [6] [6] (fT (Au7 (T1) ?g7) (oA 1 (.agg [.sl (List.map c3 (G1 T1).vec),.sl (List.map B5 (G1 T1).cloud)]) z0)) ?_;rotate_left
 refine sn<|rT<|qR (.agg [.sl (List.map c3 (G1 T1).vec),.sl (List.map B5 (G1 T1).cloud)]) (.eq (by rw[ea_end h6 h8 h7];rfl))
 case g7=>revert r0 T1 U2 h4 h5 h6 h7 h8;intro r T U k0 k1 k2 k3 k4 q hq;rw[k3 q hq,if_pos (by omega)];have:=B7u (A8 [a] q) (A8 [b] q);omega
theorem con47(a b:Past)(ha:a.cloud.length*16≤140737488350000)(hb:b.cloud.length*16≤140737488350000):Con Tryz.prog 47 [.agg (c26 a),.agg (c26 b)] (.agg (c26 (B6 a b))) :=
 by
 refine sC A9 [.cell 4 26] 8 Tryz.func47 ?_
 intro e0 cx
 refine sq<|rG cx [2,3,4] [2,3,4] z0<|sn<|sq<|rG cx [4] [4] (fT (con100 (a) (b) (by(with_reducible assumption)) (by(with_reducible assumption))) (oA 2 (.agg [.sl (List.map c3 (B6 a b).vec),.sl (List.map B5 (B6 a b).cloud)]) z0))<|sn<|rT<|qR (.agg [.sl (List.map c3 (B6 a b).vec),.sl (List.map B5 (B6 a b).cloud)]) (.eq ?g0);rotate_left
 case g0=>exact rfl
theorem Bk9(ps:List Past)(hb:A1k ps*16≤140737488350000):Con Tryz.prog 60 [.sl (ps.map c26)] (.agg (c26 (C7 ps))) :=
 by
 have h2:=fun r=>Q7 r ps
 refine lN 0 c26 (ps) Tryz.func60 fun hl_0=>sC A9 [.cell 2 26] 6 Tryz.func60 ?_
 intro e0 cx
 refine sq<|rG cx [0,2] [2] z0<|sn<|sq<|rG cx [2] [2] (fT (A5d (ps) (by omega)) (fT (Au7 (A8 ps) ?g0) (oV 1 { val:=some (.ptr ((155:Nat)) (0) (0) (0)),row:=(E8 c181 16 (A8 ps)) } (oA 2 (.agg [.sl (List.map c3 (G1 (A8 ps)).vec),.sl (List.map B5 (G1 (A8 ps)).cloud)]) z0)))) ?_;rotate_left
 refine sn<|rT<|qR (.agg [.sl (List.map c3 (G1 (A8 ps)).vec),.sl (List.map B5 (G1 (A8 ps)).cloud)]) (.eq ?g1);rotate_left
 case g0=>intro r hr;have:=h2 r;omega
 case g1=>rfl
end Go.Proofs.YtokhjapfekbobaaGreat
