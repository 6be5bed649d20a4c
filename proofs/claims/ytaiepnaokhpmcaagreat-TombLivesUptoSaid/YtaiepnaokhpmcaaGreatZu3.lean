/- EV: slices.Clone at any element type: it hands back a row of the caller's own. Conditions: how its body is laid; sizes. Pd: span: Norm, Lead, and the library's Clone at runs. Conditions: sizes. Pn: span: the canonical form in plain words. Conditions: none. Pe: past: what the sets come to. Conditions: sizes. Pf: past: dots, and the set of dots. Conditions: sizes. Pg: past: the sets that pasts mean. Conditions: sizes. Ph: past: Norm. Conditions: sizes. Pi: past: the library's Equal, IsNorm. Conditions: sizes. Pj: past: Has. Conditions: none. Rh: the past in plain words: what is in a set in form. Conditions: none. Pp: span: what is in both, what is in neither, in plain words. Conditions: none. Pq: the total order of contexts, in plain words. Conditions: none. Pr: past.Compare, with the library's cmp.Compare, cmp.Or and slices.CompareFunc. Conditions: sizes. Sa: texts: their order is total. Conditions: none. Ps: strings.Compare. Conditions: none. Pl: runs: how many numbers, the greatest. Conditions: none. Pu: how many dots; the greatest of a replica: in plain words. Conditions: none. Ga: goods: is a text a SKU. Conditions: none. Kp: records: their order and form, in plain words. Conditions: none. Pk: span.Size, span.Last, past.Size, Empty, Last, Next. Conditions: sizes. Ka: keep.CheckRecord, Compare, Check. Conditions: sizes. Ra: the document's past: dots, Has, Same, sorted. Conditions: sizes. Rb: the document's turns: sorted (by halves). Conditions: sizes. Rt: the document's turns, in plain words: a sweep over where runs begin and end. Conditions: none. -/
import Derived.Below
import Derived.OwnWalk
import Derived.WalkKit
import Derived.KernelRfl
import Derived.Laws.MakeOwn
import Derived.Laws.OwnMore
import Derived.Laws.Slices
import Derived.Laws.CopyOwn
import Derived.Laws.AppendOwnNone
import Derived.Laws.Rows
import Derived.Orders
import Derived.Lib.Walk
import Derived.Shelf.SlLaysE0
import Derived.Shelf.RegionOpenPlain
import Derived.Deep.LoopGhost
import Derived.Lib.SliceRun
import Derived.Test.YtaiepnaokhpmcaaGreatProg
import Derived.DataReads
import Derived.ChangeOld
import Derived.DataElems
import Derived.SizedLaws
import Derived.ChangeKeysEq
import Derived.Sort.LotA
import Derived.Shelf.SlSortFuncK.RowK2
import Derived.Shelf.SlSortCmp.NoneTotal
import Derived.Lib.Bytealg
import Derived.Test.YtaiepnaokhpmcaaGreatZu2
set_option linter.unusedVariables false
set_option linter.unusedSimpArgs false
namespace Go.E
open Go Go.Proofs Go.Shelf Go.RowKit Go.Lib
variable {P : Program} {ρ : Ren}
set_option maxHeartbeats 2000000 in
set_option maxRecDepth 100000 in
theorem Az1 (L:SlLaysE0.n41 P ρ) (i0:TypeInfo) (z:Value) (size bytes:Nat) (hi:P.info? (ρ.t 23)=some i0) (hz0:i0.zero=some z) (hz1:i0.size=size) (hz2:i0.bytes=bytes) (hzs:z.cells.size=size) (hsz:0 < size) (z23:∀ w,(Go.sizeOf (ρ.t 23)).run P w=.ok size w)
  (ad:Addr) (n c:Nat) (news:List Value) (w:World) (hl:news.length=n*size) (hn:n≤maxLen) (hbig:n*bytes≤140737488355328)
  (hc:∀ j u,news[j]?=some u→w.cell? (ad.add j)=some u) (h1:∀ u∈news,u.oneCell'=true) :
  Calls P (ρ.f 41) #[.slice (some ad) n c] w fun e w'=>∃ v',e=.returned v'∧w'.ownsRow w.heap.size (ρ.t 23) size v' n news∧Below w.heap.size w w':=by
 have mixed:=L.mixed;have t4:=L.t4;have a4:=L.a4;have z4:=L.z4;have v4:=L.v4;have t22:=L.t22;have a22:=L.a22;have z22:=L.z22;have v22:=L.v22
 have q22:∀(w:World) (a:Option Addr) (n c n' c':Nat),(binOp .eql (ρ.t 22) (.slice a n c) (.slice none n' c')).run P w=.ok (.bool a.isNone) w:=fun w a n c n' c'=>Lib.run_eql_slice_nil w _ _ a n c n' c' L.t22
 have u22:∀ w,Sem.run P (underlying (ρ.t 22)) w=.ok (TypeDesc.slice (ρ.t 23)) w:=run_underlying t22
 have A:Aside (∀ j u,news[j]?=some u→w.cell? (ad.add j)=some u):=hc
 clear hc
 obtain⟨_,_,FG⟩:=L.f41
 go_enter FG,SlBodyN.n41_ntmps ρ
 go_wp2_with (at_builtin;refine wpList_append_own _ rfl _ _ (ρ.t 22) rfl w.heap.size (ρ.t 23) i0 z size bytes t22 hi hz0 hz1 hz2 hzs hsz _ _ _ rfl (World.ownsRow_made w #[] 0 (Nat.le_refl _) (Nat.zero_le _) (by simp)) ad n c news rfl ?qc1 ?qc2 ?qc3 ?qc4 ?qc5 ?qc6 ?_)
 case qc1=>exact hl
 case qc2 =>
  intro j u hj
  exact Lib.cell?_alloc_some _ (A.out j u hj)
 case qc3=>exact h1
 case qc4=>rw[Nat.zero_add];exact hn
 case qc5=>rw[Nat.zero_add];exact hbig
 case qc6=>simp
 intro v' w1 hown hgrow hnil
 go_wp2
 go_ret
 refine⟨v',rfl,by simpa using hown,?_⟩
 exact((Below.refl _ w).alloc (Nat.le_refl _) _).grown hgrow (by simp) (by intro k hk;simp [Value.ownBlock]at hk;omega)
set_option maxHeartbeats 1000000 in
theorem Az2 (L:SlLaysE0.n41 P ρ) (n c:Nat) (w:World) :
  Calls P (ρ.f 41) #[.slice none n c] w fun e w'=>e=.returned (.slice none 0 0)∧w'=w:=by
 have mixed:=L.mixed;have t4:=L.t4;have a4:=L.a4;have z4:=L.z4;have v4:=L.v4;have t22:=L.t22;have a22:=L.a22;have z22:=L.z22;have v22:=L.v22
 have q22:∀(w:World) (a:Option Addr) (n c n' c':Nat),(binOp .eql (ρ.t 22) (.slice a n c) (.slice none n' c')).run P w=.ok (.bool a.isNone) w:=fun w a n c n' c'=>Lib.run_eql_slice_nil w _ _ a n c n' c' L.t22
 obtain⟨_,_,FG⟩:=L.f41
 go_enter FG,SlBodyN.n41_ntmps ρ
 go_wp2
 go_ret
 exact⟨rfl,rfl⟩
theorem A2r(L:SlLaysE0.n41 P ρ){T:Tab}(hT:TabOk P T){te:TI}(hte:look T (ρ.t 23)=some te)(hcl:E4 P (ρ.f 41))(hz:te.zero.length=te.size)(h0:0 < te.size){rows:List (List AV)}(hsz:∀ r∈rows,r.length=te.size)
  (hbig:rows.length*te.bytes≤140737488355328):A3l P (ρ.f 41) [.sl rows] (ρ.t 23) (.row te.size rows):=by
 refine⟨hcl,fun w S0 vs hS hl hv=>?_⟩
 obtain⟨v,rfl⟩:∃ v,vs=[v]:=by
  match vs,hl with
  | [v],_=>exact⟨v,rfl⟩
 have hr:=hv 0 _ v rfl rfl
 have hm:rows.length≤maxLen:=by cases hr with | sl _ A cap sz u hc hm=>exact hm
 obtain⟨i,zv,i1,i2,i3,i4,i5⟩:=inf hT hte
 rcases(Ao6 hr).flat hsz with⟨rfl,rfl⟩ | ⟨ad,cap,xs,rfl,x1,x2,x3,x4⟩
 ·refine(Az2 L 0 0 w).mono ?_
  rintro e w' ⟨rfl,rfl⟩
  exact⟨_,rfl,⟨fun r hr=>by simp at hr,[],World.ownsRow_nil _ _ _ _,fun u hu=>by simp at hu,fun j b u hb=>by simp at hb⟩,Below.refl _ _⟩
 ·have hzl:zv.cells.size=te.size:=by
   have:=congrArg List.length i5
   simpa [hz]using this
  refine(Az1 L i zv te.size te.bytes i1 i4 i2 i3 hzl h0 (A9j hT hte) ad rows.length cap xs w x1 hm hbig x2 x3).mono ?_
  rintro e w' ⟨v',rfl,ho,hb⟩
  refine⟨v',rfl,⟨hsz,xs,ho,x3,fun j b u hb' hu=>(x4 j b u hb' hu).mono (fun k hk=>⟨.inl hk,fun e=>?_⟩) (fun k hk=>hb.block k (hS k hk))⟩,hb⟩
  have:=hS k hk
  rcases ho.2 with⟨rfl,_⟩ | ⟨g,cap',cur,rfl,g1,_⟩
  ·simp [blkOf]at e
  ·simp [blkOf]at e;omega
end Go.E
namespace Go.Proofs.YtaiepnaokhpmcaaGreat
open Go.E
set_option maxRecDepth 100000
set_option maxHeartbeats 4000000
open Go Go.Shelf Go.Proofs
def renClR:Go.Shelf.Ren:=⟨fun | 41=>183 | n=>n,fun | 4=>4 | 22=>150 | 23=>154 | n=>n,fun n=>n⟩
theorem Bd8:Go.Proofs.SlLaysE0.n41 Tryz.prog renClR:={ mixed:=by kernel_rfl,f41:=⟨Tryz.f183.name,by decide,Tryz.func183.trans (congrArg some (by kernel_rfl))⟩,t4:=Tryz.underlying4,a4:=Tryz.isAgg4,z4:=Tryz.sizeOf4,v4:=Tryz.zeroValue4,t22:=Tryz.underlying150,a22:=Tryz.isAgg150,z22:=Tryz.sizeOf150,v22:=Tryz.zeroValue150 }
theorem con183(es:List Run)(hl:es.length*16≤140737488355328):A3l Tryz.prog 183 [.sl (es.map c154)] 154 (.row 2 (es.map c154)) :=
 A2r (T:=tab) Bd8 B1 (te:=_) rfl ⟨_,Tryz.func183,by kernel_rfl,by kernel_rfl⟩ (by kernel_rfl) (by decide +kernel) (fun r hr=>by obtain⟨x,_,rfl⟩:=List.mem_map.1 hr;kernel_rfl) (by rw[List.length_map];exact hl)
def renClI:Go.Shelf.Ren:=⟨fun | 41=>148 | n=>n,fun | 4=>4 | 22=>23 | 23=>3 | n=>n,fun n=>n⟩
theorem Bd9:Go.Proofs.SlLaysE0.n41 Tryz.prog renClI:={ mixed:=by kernel_rfl,f41:=⟨Tryz.f148.name,by decide,Tryz.func148.trans (congrArg some (by kernel_rfl))⟩,t4:=Tryz.underlying4,a4:=Tryz.isAgg4,z4:=Tryz.sizeOf4,v4:=Tryz.zeroValue4,t22:=Tryz.underlying23,a22:=Tryz.isAgg23,z22:=Tryz.sizeOf23,v22:=Tryz.zeroValue23 }
theorem con148(es:List Int)(hl:es.length*8≤140737488355328):A3l Tryz.prog 148 [.sl (es.map c3)] 3 (.row 1 (es.map c3)) :=
 A2r (T:=tab) Bd9 B1 (te:=_) rfl ⟨_,Tryz.func148,by kernel_rfl,by kernel_rfl⟩ (by kernel_rfl) (by decide +kernel) (fun r hr=>by obtain⟨x,_,rfl⟩:=List.mem_map.1 hr;kernel_rfl) (by rw[List.length_map];exact hl)
def nrm(a:List Run):List Run:=unR [a]
def C2(n:List Run):Int×List Run:=if n.length=0∨¬ n[0]!.lo=1 then(0,n)else(n[0]!.hi,n.drop 1)
theorem B2a(l:List Run):(Ay9 l).length≤l.length:=by
 have:∀(l out:List Run),(l.foldl A3g out).length≤out.length+l.length:=by
  intro l
  induction l with
  | nil=>intro out;simp
  | cons r l ih =>
   intro out
   have h1:=ih (A3g out r)
   have h2:=Aq5 out r
   simp only [List.foldl_cons,List.length_cons]
   omega
 have h:=this l []
 simpa [Ay9]using h
theorem X1(a:List Run):(nrm a).length≤a.length:=by
 have h1:=B2a (A0n (L9 [a].flatten))
 have h2:=(V2 (l:=L9 [a].flatten) fun r hr=>(J1 r hr).1).length_eq
 have h3:=Z5 [a].flatten
 unfold nrm unR
 simp only [List.flatten_cons,List.flatten_nil,List.append_nil]at *
 omega
theorem Ab1(a:List Run)(hb:a.length*16≤140737488351232):Con Tryz.prog 182 [.sl (a.map c154)] (.sl ((nrm a).map c154)) :=
 by
 refine lN 0 c154 (a) Tryz.func182 fun hl_0=>sC B1 [.tmp 2] 6 Tryz.func182 ?_
 intro e0 cx
 refine sq<|rG cx [0] [] z0<|sn<|sq<|rG cx [2] [5] (fT (con208 ([a]) ?g0) (oV 2 { val:=some (.own (154:Nat) (2:Nat)),rows:=some (List.map c154 (unR [a])) } z0)) ?_;rotate_left
 refine sn<|rT<|qR (.sl (((E.look [(2,{ val:=some (AV.own (154:Nat) (2:Nat)),rows:=some (List.map c154 (unR [a])):Ov })] (2)).getD {:Ov }).rows.getD [])) (.eq ?g1);rotate_left
 case g0=>exact(by simpa using hb)
 case g1=>exact rfl
theorem con147(a:List Run)(hb:a.length*16≤140737488351232):Con Tryz.prog 147 [.sl (a.map c154)] (.tup [.i .i64 (C2 (nrm a)).1,.sl ((C2 (nrm a)).2.map c154)]) :=
 by
 have hn:=X1 a
 refine lN 0 c154 (a) Tryz.func147 fun hl_0=>sC B1 [.tmp 2,.tmp 3] 25 Tryz.func147 ?_
 intro e0 cx
 refine sq<|rG cx [0] [] z0<|sn<|sq ?_
 have hl_0:=(X1 a)
 refine rG cx [4] [] (fT (Ab1 (a) (by(with_reducible assumption))) (oA 1 (.sl (List.map c154 (nrm a))) z0))<|sn<|sq<|sq<|B4 (σ':=⟨[(4,.sl (List.map c154 (nrm a))),(16,.b (decide ((↑(nrm a).length:Int)=0∨¬(nrm a)[(0:Nat)]!.lo=1)))],[]⟩) ?_ ?_
 refine A4 ((↑(nrm a).length:Int)=0) (fun h2=>?_) (fun h2=>?_)
 refine rG cx [4,16] [] (tL 1 c154 (nrm a) (tT 2 (A6 h2) (tD 9 true ((↑(nrm a).length:Int)=0∨¬(nrm a)[(0:Nat)]!.lo=1) (by simp only [eq_true h2,tsl]) z0))) ?_
 exact⟨rfl,by kernel_rfl⟩
 refine rG cx [4,16] [] (tL 1 c154 (nrm a) (tT 2 (A3 h2) (fO ((0:Int)≤(0:Int)) (fP ((List.map c154 (nrm a))[Int.toNat (0:Int)]?=some (c154 (nrm a)[(0:Nat)]!)) (by exact F7 (by omega)) (fR 2 (tN 8 ((nrm a)[(0:Nat)]!.lo) (1:Int) (tD 9 (decide ¬(nrm a)[(0:Nat)]!.lo=1) ((↑(nrm a).length:Int)=0∨¬(nrm a)[(0:Nat)]!.lo=1) (by simp only [eq_false h2,tsl]) (oR 5 (c154 (nrm a)[(0:Nat)]!) z0)))))))) ?_
 exact⟨rfl,by kernel_rfl⟩
 refine sn<|dC ((↑(nrm a).length:Int)=0∨¬(nrm a)[(0:Nat)]!.lo=1) (fun h3=>?_) fun h3=>?_
 refine sq<|rG cx [2,3] [] z0<|sn<|rT<|nR<|qR (.tup [.i .i64 ((0:Int)),.sl (List.map c154 (nrm a))]) (B8.tup (ZLe.cons (B8.eq (show AV.i .i64 0=AV.i .i64 (C2 (nrm a)).1 from(by unfold C2;rw[if_pos (h3.imp (fun k=>by omega) id)]))) (ZLe.cons (B8.eq (show AV.sl (List.map c154 (nrm a))=AV.sl (List.map c154 (C2 (nrm a)).2)from(by unfold C2;rw[if_pos (h3.imp (fun k=>by omega) id)]))) ZLe.nil)))
 refine sK<|sn<|sq<|rA cx [2,3] [24] (fO ((0:Int)≤(0:Int)) (fP ((List.map c154 (nrm a))[Int.toNat (0:Int)]?=some (c154 (nrm a)[(0:Nat)]!)) (by exact F7 (by omega)) (fR 2 (tT 5 (Ap8 c154 (nrm a) (Int.toNat (1:Int)):AV.sl (List.drop (Int.toNat (1:Int)) (List.take (none.getD (↑(List.map c154 (nrm a)).length:Int)).toNat (List.map c154 (nrm a))))=AV.sl (List.map c154 (List.drop (Int.toNat (1:Int)) (nrm a)))) (fO ((0:Int)≤(1:Int)) (fP (1≤none.getD (↑(List.map c154 (nrm a)).length:Int)) (by have:¬((nrm a).length:Int)=0:=fun k=>h3 (.inl k);simp only [Option.getD_none,List.length_map];omega) (fP (none.getD (↑(List.map c154 (nrm a)).length:Int)≤(↑(List.map c154 (nrm a)).length:Int)) (by exact Int.le_refl _) (fX c154 (nrm a) 2 (fT (con183 (List.drop (Int.toNat (1:Int)) (nrm a)) (by rw[List.length_drop];omega)) (oR 1 (c154 (nrm a)[(0:Nat)]!) (oV 6 { val:=some (.own (154:Nat) (2:Nat)),rows:=some (List.map c154 (List.drop (Int.toNat (1:Int)) (nrm a))) } z0))))))))))) ?_
 refine sn<|rT<|qR (.tup [.i .i64 ((nrm a)[(0:Nat)]!.hi),.sl (((E.look [(6,{ val:=some (AV.own (154:Nat) (2:Nat)),rows:=some (List.map c154 (List.drop (Int.toNat (1:Int)) (nrm a))):Ov })] (6)).getD {:Ov }).rows.getD [])]) (B8.tup (ZLe.cons (B8.eq (show AV.i .i64 (nrm a)[(0:Nat)]!.hi=AV.i .i64 (C2 (nrm a)).1 from(by unfold C2;rw[if_neg (fun k=>h3 (k.imp (fun k=>by omega) id))]))) (ZLe.cons (B8.eq (show AV.sl (((E.look [(6,{ val:=some (AV.own (154:Nat) (2:Nat)),rows:=some (List.map c154 (List.drop (Int.toNat (1:Int)) (nrm a))):Ov })] (6)).getD {:Ov }).rows.getD [])=AV.sl (List.map c154 (C2 (nrm a)).2)from(by show AV.sl (List.map c154 (List.drop 1 (nrm a)))=_;unfold C2;rw[if_neg (fun k=>h3 (k.imp (fun k=>by omega) id))]))) ZLe.nil)))
end Go.Proofs.YtaiepnaokhpmcaaGreat
namespace Go.Proofs.YtaiepnaokhpmcaaGreat
open Go.E
set_option maxRecDepth 100000
set_option maxHeartbeats 4000000
def V3(l:List Run):Prop:=l.Pairwise (fun x y=>x.hi+1 < y.lo)∧∀ r∈l,1≤r.lo∧r.lo≤r.hi∧r.hi≤1000000000
def inR(l:List Run)(n:Int):Prop:=∃ r∈l,r.lo≤n∧n≤r.hi
theorem B2b{α:Type}[Inhabited α]{l:List α}(h:0 <(l.length:Int)):∃ p,l=p++[l[((l.length:Int)-1).toNat]!]:=by
 refine⟨l.take (l.length-1),?_⟩
 have e:((l.length:Int)-1).toNat=l.length-1:=by omega
 rw[e]
 have h1:=List.take_succ_eq_append_getElem (l:=l) (i:=l.length-1) (by omega)
 rw[getElem!_pos l (l.length-1) (by omega),← h1,List.take_of_length_le (by omega)]
theorem Ab2(p:List Run)(x r:Run):A3g (p++[x]) r=if r.lo≤x.hi+1 then p++[⟨x.lo,max x.hi r.hi⟩]else p++[x]++[r]:=by
 have e:(((p++[x]).length:Int)-1).toNat=p.length:=by rw[List.length_append,List.length_singleton];omega
 have hx:A82 (p++[x])=x:=by unfold A82;rw[e];simp
 unfold A3g
 rw[hx,e]
 by_cases h:r.lo≤x.hi+1
 ·rw[if_pos ⟨by rw[List.length_append,List.length_singleton];omega,h⟩,if_pos h]
  simp
 ·rw[if_neg (fun k=>h k.2),if_neg h]
theorem Aq6(r:Run):A3g [] r=[r]:=by simp [A3g]
theorem A0c:V3 []:=⟨List.Pairwise.nil,fun r hr=>by cases hr⟩
theorem B6f {out : List Run} {r : Run} (h : V3 out) (hr : A1p r) : V3 (A3g out r) := by
  unfold A1p okR at hr
  by_cases h0:out=[]
  · subst h0
    rw[Aq6]
    exact ⟨by simp, fun x hx => by have : x = r := by simpa using hx
                                   subst this;omega⟩
  · obtain ⟨p, hp⟩ := B2b (l := out) (by have := List.length_pos_iff.2 h0; omega)
    generalize out[((out.length:Int)-1).toNat]! = x at hp
    subst hp
    obtain⟨h1,h2⟩:=h
    rw[List.pairwise_append]at h1
    obtain⟨q1,_,q3⟩:=h1
    have hx:=h2 x (by simp)
    rw[Ab2]
    split
    · refine ⟨List.pairwise_append.2 ⟨q1, by simp, fun a ha b hb => ?_⟩, fun a ha => ?_⟩
      · have : b = ⟨x.lo, max x.hi r.hi⟩ := by simpa using hb
        subst this
        exact q3 a ha x (by simp)
      · rcases List.mem_append.1 ha with ha | ha
        · exact h2 a (by simp [ha])
        · have : a = ⟨x.lo, max x.hi r.hi⟩ := by simpa using ha
          subst this
          simp only
          omega
    · rename_i hn
      refine⟨List.pairwise_append.2 ⟨List.pairwise_append.2 ⟨q1,by simp,q3⟩,by simp,fun a ha b hb=>?_⟩,fun a ha=>?_⟩
      · have : b = r := by simpa using hb
        subst this
        rcases List.mem_append.1 ha with ha | ha
        · have:=q3 a ha x (by simp);omega
        · have : a = x := by simpa using ha
          subst this
          omega
      · rcases List.mem_append.1 ha with ha | ha
        · exact h2 a ha
        · have : a = r := by simpa using ha
          subst this
          omega
theorem Be0{out:List Run}{r:Run}(hl:∀ x∈out,x.lo≤r.lo)(hs:V3 out)(n:Int):inR (A3g out r) n↔inR out n∨(r.lo≤n∧n≤r.hi):=by
 by_cases h0:out=[]
 ·subst h0
  rw[Aq6]
  simp [inR]
 ·obtain⟨p,hp⟩:=B2b (l:=out) (by have:=List.length_pos_iff.2 h0;omega)
  generalize out[((out.length:Int)-1).toNat]! = x at hp
  subst hp
  have hx:=hs.2 x (by simp)
  have hlx:=hl x (by simp)
  rw[Ab2]
  have app:∀(a b:List Run),inR (a++b) n↔inR a n∨inR b n:=by
   intro a b
   unfold inR
   constructor
   ·rintro⟨y,hy,h⟩
    rcases List.mem_append.1 hy with hy | hy
    ·exact .inl ⟨y,hy,h⟩
    ·exact .inr ⟨y,hy,h⟩
   ·rintro(⟨y,hy,h⟩ | ⟨y,hy,h⟩)
    ·exact⟨y,List.mem_append.2 (.inl hy),h⟩
    ·exact⟨y,List.mem_append.2 (.inr hy),h⟩
  have one:∀ y:Run,inR [y] n↔(y.lo≤n∧n≤y.hi):=by intro y;simp [inR]
  split
  ·rw[app,app,one,one,or_assoc]
   refine or_congr_right ?_
   simp only
   omega
  ·rw[app,one]
theorem A6l(l:List Run):∀(out:List Run),V3 out→(∀ r∈l,A1p r)→l.Pairwise (fun x y=>x.lo≤y.lo)→(∀ x∈out,∀ r∈l,x.lo≤r.lo) →
  V3 (l.foldl A3g out)∧∀ n,inR (l.foldl A3g out) n↔inR out n∨inR l n:=by
 induction l with
 | nil=>intro out h _ _ _;exact⟨h,fun n=>by simp [inR]⟩
 | cons r l ih =>
  intro out h hg hp hl
  rw[List.pairwise_cons]at hp
  have hlo:∀ x∈A3g out r,∀ y∈l,x.lo≤y.lo:=by
   intro x hx y hy
   have hy1:=hp.1 y hy
   unfold A3g at hx
   split at hx
   ·rename_i hc
    rcases List.mem_or_eq_of_mem_set hx with hx | rfl
    ·have:=hl x hx r (by simp);omega
    ·have:=hl _ (D6 (l:=out) (i:=((out.length:Int)-1).toNat) (by omega)) r (by simp)
     unfold A82
     simp only
     omega
   ·rcases List.mem_append.1 hx with hx | hx
    ·have:=hl x hx r (by simp);omega
    ·have:x=r:=by simpa using hx
     subst this
     exact hy1
  obtain⟨g1,g2⟩:=ih (A3g out r) (B6f h (hg r (by simp))) (fun y hy=>hg y (by simp [hy])) hp.2 hlo
  refine⟨g1,fun n=>?_⟩
  rw[List.foldl_cons,g2 n,Be0 (fun x hx=>hl x hx r (by simp)) h n,or_assoc]
  refine or_congr_right ?_
  simp [inR]
theorem Be1(ss:List (List Run)):V3 (unR ss):=by
 have hg:∀ r∈L9 ss.flatten,A1p r:=J1
 exact(A6l _ [] A0c (A13 hg) (A6h _) (fun x hx=>by cases hx)).1
theorem unR_in(ss:List (List Run))(n:Int):inR (unR ss) n↔1≤n∧n≤1000000000∧inR ss.flatten n:=by
 have hg:∀ r∈L9 ss.flatten,A1p r:=J1
 have h:=(A6l _ [] A0c (A13 hg) (A6h _) (fun x hx=>by cases hx)).2 n
 unfold unR Ay9
 rw[h]
 have hp:=V2 (l:=L9 ss.flatten) fun r hr=>(hg r hr).1
 constructor
 ·rintro(⟨r,hr,_⟩ | ⟨r,hr,h1,h2⟩)
  ·cases hr
  ·have hr:=hp.subset hr
   unfold L9 at hr
   obtain⟨hr,_⟩:=List.mem_filter.1 hr
   obtain⟨x,hx,rfl⟩:=List.mem_map.1 hr
   simp only [F1]at h1 h2
   exact⟨by omega,by omega,x,hx,by omega,by omega⟩
 ·rintro⟨h1,h2,x,hx,h3,h4⟩
  refine .inr ⟨F1 x,hp.symm.subset ?_,?_,?_⟩
  ·unfold L9
   refine List.mem_filter.2 ⟨List.mem_map.2 ⟨x,hx,rfl⟩,?_⟩
   show decide ((F1 x).lo≤(F1 x).hi)=true
   rw[decide_eq_true_iff]
   show max x.lo 1≤min x.hi 1000000000
   omega
  ·simp only [F1];omega
  ·simp only [F1];omega
theorem Aj8{l:List Run}(h:V3 l):∀ i:Nat,i < l.length→2*(i:Int)+1≤l[i]!.lo
 | 0,hi=>by have:=h.2 _ (D6 hi);omega
 | i+1,hi=>by
  have h1:=Aj8 h i (by omega)
  have h2:=List.pairwise_iff_getElem.1 h.1 i (i+1) (by omega) hi (by omega)
  rw[← getElem!_pos l i (by omega),← getElem!_pos l (i+1) hi]at h2
  have h3:=h.2 _ (D6 (l:=l) (i:=i) (by omega))
  omega
theorem P6{l:List Run}(h:V3 l):l.length≤500000000:=by
 by_cases h0:l.length=0
 ·omega
 ·have h1:=Aj8 h (l.length-1) (by omega)
  have h2:=h.2 _ (D6 (l:=l) (i:=l.length-1) (by omega))
  omega
theorem E8(a:List Run):V3 (nrm a):=Be1 [a]
theorem Y5(a:List Run)(n:Int):inR (nrm a) n↔1≤n∧n≤1000000000∧inR a n:=by
 have:=unR_in [a] n
 simpa [nrm]using this
theorem A0d:∀ {a b:List Run},V3 a→V3 b→(∀ n,inR a n↔inR b n)→a=b
 | [],[],_,_,_=>rfl
 | [],y :: b,_,hb,h=>by
  have:=hb.2 y (by simp)
  obtain⟨r,hr,_⟩:=(h y.lo).2 ⟨y,by simp,by omega,by omega⟩
  cases hr
 | x :: a,[],ha,_,h=>by
  have:=ha.2 x (by simp)
  obtain⟨r,hr,_⟩:=(h x.lo).1 ⟨x,by simp,by omega,by omega⟩
  cases hr
 | x :: a,y :: b,ha,hb,h=>by
  have hx:=ha.2 x (by simp)
  have hy:=hb.2 y (by simp)
  have pa:=List.pairwise_cons.1 ha.1
  have pb:=List.pairwise_cons.1 hb.1
  have la:∀ n,inR a n→x.hi+1 < n:=fun n ⟨r,hr,h1,_⟩=>by have:=pa.1 r hr;omega
  have lb:∀ n,inR b n→y.hi+1 < n:=fun n ⟨r,hr,h1,_⟩=>by have:=pb.1 r hr;omega
  have ca:∀ n,inR (x :: a) n↔(x.lo≤n∧n≤x.hi)∨inR a n:=fun n=>by simp [inR]
  have cb:∀ n,inR (y :: b) n↔(y.lo≤n∧n≤y.hi)∨inR b n:=fun n=>by simp [inR]
  have e1:x.lo=y.lo:=by
   have h1:=(cb x.lo).1 ((h x.lo).1 ((ca x.lo).2 (.inl (by omega))))
   have h2:=(ca y.lo).1 ((h y.lo).2 ((cb y.lo).2 (.inl (by omega))))
   rcases h1 with h1 | h1
   ·rcases h2 with h2 | h2
    ·omega
    ·have:=la _ h2;omega
   ·have:=lb _ h1
    rcases h2 with h2 | h2
    ·omega
    ·have:=la _ h2;omega
  have e2:x.hi=y.hi:=by
   have h1:=(cb x.hi).1 ((h x.hi).1 ((ca x.hi).2 (.inl (by omega))))
   have h2:=(ca y.hi).1 ((h y.hi).2 ((cb y.hi).2 (.inl (by omega))))
   have h3:¬ x.hi < y.hi:=fun k=>by
    have:=(ca (x.hi+1)).1 ((h (x.hi+1)).2 ((cb (x.hi+1)).2 (.inl (by omega))))
    rcases this with g | g
    ·omega
    ·have:=la _ g;omega
   have h4:¬ y.hi < x.hi:=fun k=>by
    have:=(cb (y.hi+1)).1 ((h (y.hi+1)).1 ((ca (y.hi+1)).2 (.inl (by omega))))
    rcases this with g | g
    ·omega
    ·have:=lb _ g;omega
   omega
  have e:x=y:=by cases x;cases y;simp only at e1 e2;rw[e1,e2]
  subst e
  rw[A0d (a:=a) (b:=b) ⟨pa.2,fun r hr=>ha.2 r (by simp [hr])⟩ ⟨pb.2,fun r hr=>hb.2 r (by simp [hr])⟩ fun n=>?_]
  have:=h n
  rw[ca,cb]at this
  constructor
  ·intro g
   have g1:=la n g
   rcases this.1 (.inr g)with k | k
   ·omega
   ·exact k
  ·intro g
   have g1:=lb n g
   rcases this.2 (.inr g)with k | k
   ·omega
   ·exact k
end Go.Proofs.YtaiepnaokhpmcaaGreat
namespace Go.Proofs.YtaiepnaokhpmcaaGreat
open Go.E
set_option maxRecDepth 100000
set_option maxHeartbeats 4000000
def A0o(T:Nat→List Run)(r:Nat):Int:=(C2 (nrm (T r))).1
def X2(T:Nat→List Run)(r:Nat):List Span:=(C2 (nrm (T r))).2.map fun x=>⟨r,x.lo,x.hi⟩
def szT(T:Nat→List Run):Nat→Int
 | 0=>0
 | n+1=>if 0 < A0o T n then n+1 else szT T n
def J3(T:Nat→List Run):Nat→List Span
 | 0=>[]
 | n+1=>J3 T n++X2 T n
def A6m(T:Nat→List Run)(n:Nat):List Int:=(List.range n).map (A0o T)++List.replicate (16-n) 0
def H3(T:Nat→List Run):Past:=⟨(A6m T 16).take (szT T 16).toNat,J3 T 16⟩
def B2c(T:Nat→List Run)(r s:Int):Prop:=s=szT T r.toNat
def A14(T:Nat→List Run)(r:Int)(v:List Int):Prop:=v=A6m T r.toNat
def L1(T:Nat→List Run)(r:Int)(c:List Span):Prop:=c=J3 T r.toNat
def K5(T:Nat→List Run)(r j:Int)(c:List Span):Prop:=c=J3 T r.toNat++(X2 T r.toNat).take j.toNat
def Aq7(T:Nat→List Run)(s r:Int)(v:List Int)(c:List Span):Prop:=0≤r∧r≤16∧0≤s∧s≤r∧v.length=16∧B2c T r s∧A14 T r v∧L1 T r c
def dec81a(s r:Int)(v:List Int)(c:List Span):Nat:=(16-r).toNat
def A6n(T:Nat→List Run)(r:Int)(w:List Int)(j:Int)(v:List Int)(c:List Span):Prop:=v=w∧0≤j∧j≤(C2 (nrm (T r.toNat))).2.length∧K5 T r j c
def B98(T:Nat→List Run)(r:Int)(j:Int)(v:List Int)(c:List Span):Nat:=((C2 (nrm (T r.toNat))).2.length-j).toNat
theorem A3t(T:Nat→List Run)(r:Nat):(C2 (nrm (T r))).2.length≤500000000:=by
 have h:=P6 (E8 (T r))
 unfold C2
 split
 ·exact h
 ·simp only [List.length_drop];omega
theorem A1r(T:Nat→List Run):∀ n:Nat,(J3 T n).length≤n*500000000
 | 0=>by simp [J3]
 | n+1=>by
  have h1:=A1r T n
  have h2:=A3t T n
  rw[J3,List.length_append,X2,List.length_map]
  omega
theorem A0e{T:Nat→List Run}{r j:Int}{c:List Span}(h0:0≤r)(h1:r < 16)(hc:K5 T r j c):c.length≤8000000000:=by
 unfold K5 at hc
 have h2:=A1r T r.toNat
 have h3:=A3t T r.toNat
 rw[hc,List.length_append,List.length_take,X2,List.length_map]
 omega
theorem A3b{T:Nat→List Run}{r:Int}{c:List Span}(hc:L1 T r c):K5 T r 0 c:=by
 unfold L1 K5 at *
 simpa using hc
theorem A4j{T:Nat→List Run}{r j:Int}{c:List Span}(h0:0≤r)(j0:0≤j)(jl:j <(C2 (nrm (T r.toNat))).2.length)(hc:K5 T r j c) :
  K5 T r (j+1) (c++[⟨r,((C2 (nrm (T r.toNat))).2[j.toNat]!).lo,((C2 (nrm (T r.toNat))).2[j.toNat]!).hi⟩]):=by
 unfold K5 at *
 have hl:(j:Int) <(X2 T r.toNat).length:=by rw[X2,List.length_map];exact jl
 rw[← D9 j0 hl,← List.append_assoc,← hc]
 have e:(X2 T r.toNat)[j.toNat]! =⟨r,((C2 (nrm (T r.toNat))).2[j.toNat]!).lo,((C2 (nrm (T r.toNat))).2[j.toNat]!).hi⟩:=by
  have hj:j.toNat <(C2 (nrm (T r.toNat))).2.length:=by omega
  rw[getElem!_pos (X2 T r.toNat) j.toNat (by omega),getElem!_pos (C2 (nrm (T r.toNat))).2 j.toNat hj]
  simp only [X2,List.getElem_map]
  congr 1
  omega
 rw[e]
theorem A6o{T:Nat→List Run}{r j:Int}{c:List Span}(h0:0≤r)(jl:¬ j <(C2 (nrm (T r.toNat))).2.length)(hc:K5 T r j c):L1 T (r+1) c:=by
 unfold K5 L1 at *
 rw[hc,show(r+1).toNat=r.toNat+1 by omega,J3,List.take_of_length_le (by rw[X2,List.length_map];omega)]
theorem A84{T:Nat→List Run}{r:Int}{v:List Int}(h0:0≤r)(h1:r < 16)(hv:A14 T r v):A14 T (r+1) (v.set r.toNat (C2 (nrm (T r.toNat))).1):=by
 unfold A14 at *
 rw[hv,show(r+1).toNat=r.toNat+1 by omega]
 unfold A6m
 generalize hn:r.toNat=n
 have hn':n < 16:=by omega
 rw[List.set_append_right _ _ (by simp),List.length_map,List.length_range,Nat.sub_self,show 16-n=(16-(n+1))+1 by omega,List.replicate_succ,List.set_cons_zero,List.range_succ,List.map_append,List.append_assoc]
 rfl
theorem Aj9{T:Nat→List Run}{r s:Int}(h0:0≤r)(hs:B2c T r s):B2c T (r+1) (if 0 <(C2 (nrm (T r.toNat))).1 then r+1 else s):=by
 unfold B2c at *
 rw[show(r+1).toNat=r.toNat+1 by omega,szT,A0o,hs]
 split
 ·omega
 ·rfl
theorem A85{T:Nat→List Run}{r s:Int}{v:List Int}{c:List Span}(h1:r≤16)(h:¬ r < 16)(hs:B2c T r s)(hv:A14 T r v)(hc:L1 T r c):H3 T=⟨v.take s.toNat,c⟩:=by
 unfold B2c A14 L1 at *
 have:r.toNat=16:=by omega
 rw[this]at hs hv hc
 unfold H3
 rw[hs,hv,hc]
theorem Aq8(t:Nat→List Run)(hb:∀ r:Nat,r < 16→(t r).length*16≤140737488351232):Con Tryz.prog 103 [.eptr (I0 c154 16 t)] (.agg (c26 (H3 t))) :=
 by
 refine sC B1 [.cell 2 26] 59 Tryz.func103 ?_
 intro e0 cx
 refine sq<|rG cx [0,2] [2] z0<|sn<|sq<|rG cx [0,2,3] [2,3] z0<|sn<|sq<|rG cx [0,2,3,4] [2,3,11] (fR (↑(16:Nat):Int) (fR (↑(16:Nat):Int) (fO ((8:Nat)*(16:Nat)≤(281474976710656:Nat)) (fP ((16:Nat)≤maxLen) (by(simp only [Go.maxLen];omega)) (fR 1 (fP (ZLe [AV.i .i64 (0:Int)] [AV.i .i64 (0:Int)]) (by(with_reducible exact ZLe.refl _)) (fP (List.replicate (16:Nat) [AV.i .i64 (0:Int)]=List.map c3 (List.replicate (16:Nat) (0:Int))) (by(with_reducible refine Ai9 ?_;kernel_rfl)) (oV 0 { row:=[.i .i64 ((0:Int))],rows:=some (List.map c3 (List.replicate (16:Nat) (0:Int))),n:=(16:Nat) } z0)))))))) ?_
 refine sn<|sq<|rG cx [0,2,3,4,5] [2,3,11] z0<|sn<|sq<|sq<|rG cx [0,2,3,4,5,12] [2,3,11] z0<|sn<|bL 0<|A08 3 104 3 1 5301 (σ':=⟨[(0,.eptr (I0 c154 16 t)),(2,.ptr (2) (0) (0) (0)),(3,.ptr (3) (0) (0) (0)),(4,.own 11 0),(5,.i .i64 ((0:Int))),(12,.i .i64 ((0:Int)))],[(2,⟨0,26,.var [.nl,.nl]⟩),(3,⟨0,26,.var [.nl,.own 5301 0]⟩),(11,⟨0,3,.row 1 (List.map c3 (List.replicate (16:Nat) (0:Int)))⟩),(5301,⟨0,104,.row 3 (List.map B7 [])⟩)]⟩) (by kernel_rfl)<|sL (X:=Int×Int×List Int×List Span) (fun x=>⟨[(0,.eptr (I0 c154 16 t)),(2,.ptr (2) (0) (0) (0)),(3,.ptr (3) (0) (0) (0)),(4,.own 11 0),(5,.i .i64 (x.1)),(12,.i .i64 (x.2.1))],[(2,⟨0,26,.var [.nl,.nl]⟩),(3,⟨0,26,.var [.nl,.own 5301 0]⟩),(11,⟨0,3,.row 1 (List.map c3 x.2.2.1)⟩),(5301,⟨0,104,.row 3 (List.map B7 x.2.2.2)⟩)]⟩) (fun x ↦ dec81a x.1 x.2.1 x.2.2.1 x.2.2.2) (fun x ↦ Aq7 t x.1 x.2.1 x.2.2.1 x.2.2.2) [0,2,3,4,5,12] [2,3,11,5301] (((0:Int),(0:Int),List.replicate (16:Nat) (0:Int),[])) (show Aq7 t (0:Int) (0:Int) (List.replicate (16:Nat) (0:Int)) []from ?g0) ?_;rotate_left
 rintro⟨s0,r1,v2,cc3⟩ h_4
 obtain⟨hh5,hh6,hh7,hh8,hh9,h10,h11,h12⟩:0≤r1∧r1≤16∧0≤s0∧s0≤r1∧v2.length=(16:Nat)∧B2c t r1 s0∧A14 t r1 v2∧L1 t r1 cc3:=h_4
 refine rE cx [0,2,3,4,5,12,13] [2,3,11,5301] (zB 0 (r1 <(16:Int))) (fun h13=>?_) fun h13=>?_
 refine sK<|sn<|sq<|bL 1<|sq<|rG cx [0,2,3,4,5,12,6] [2,3,11,5301] z0<|sn<|sq ?_
 have hl_14:=(X1 (t r1.toNat))
 refine rG cx [0,2,3,4,5,12,6,7,8] [2,3,11,5301] (fA (0≤r1) (fO (r1 <(↑(16:Nat):Int)) (fP ((List.drop (r1.toNat*(1:Nat)) (I0 c154 16 t))[(0:Nat)]?=some (AV.sl (List.map c154 (t r1.toNat)))) (by(exact A7v (by omega))) (fT (con147 (t r1.toNat) ?g1) (oR 4 [.sl (List.map c154 (t r1.toNat))] (oA 5 (.tup [.i .i64 ((C2 (nrm (t r1.toNat))).1),.sl (List.map c154 (C2 (nrm (t r1.toNat))).2)]) z0)))))) ?_;rotate_left
 refine sn<|sq<|rG cx [0,2,3,4,5,12,6,7,8] [2,3,11,5301] (fA (0≤r1) (fP (r1.toNat <(List.map c3 v2).length) (by(first | omega | (simp only [List.length_map];omega))) (fR 1 (fG c3 v2 r1.toNat (fR 1 (fP (0+(1:Nat)≤1) (by(first | omega | (simp only [List.length_map];omega))) (fP ((List.map c3 v2).set r1.toNat (List.take (0) (c3 v2[r1.toNat]!)++E2 (AV.i .i64 (C2 (nrm (t r1.toNat))).1)++List.drop (0+(1:Nat)) (c3 v2[r1.toNat]!))=List.map c3 (v2.set r1.toNat (C2 (nrm (t r1.toNat))).1)) (by(with_reducible refine A2q ?_;kernel_rfl)) (oV 4 { row:=(c3 v2[r1.toNat]!),rows:=some (List.map c3 (v2.set r1.toNat (C2 (nrm (t r1.toNat))).1)) } z0)))))))) ?_
 refine sn<|sq<|rD cx [0,2,3,4,5,12,6,8,29] [2,3,11,5301] (zB 1 ((0:Int) <(C2 (nrm (t r1.toNat))).1)) (fun h_15=>?_) fun h_15=>?_
 refine rG cx [0,2,3,4,5,12,6,8] [2,3,11,5301] (tW 1 (r1+1) z0)<|sn<|sq<|rG cx [0,2,3,4,5,12,6,32,33,34] [2,3,11,5301] (tL 1 c154 ((C2 (nrm (t r1.toNat))).2) z0)<|sn<|bL 2<|sL (X:=Int×List Int×List Span) (fun x=>⟨[(0,.eptr (I0 c154 16 t)),(2,.ptr (2) (0) (0) (0)),(3,.ptr (3) (0) (0) (0)),(4,.own 11 0),(5,.i .i64 (r1+1)),(12,.i .i64 (r1)),(6,.i .i64 (r1)),(32,.sl (List.map c154 (C2 (nrm (t r1.toNat))).2)),(33,.i .i64 ((↑(C2 (nrm (t r1.toNat))).2.length:Int))),(34,.i .i64 (x.1))],[(2,⟨0,26,.var [.nl,.nl]⟩),(3,⟨0,26,.var [.nl,.own 5301 0]⟩),(11,⟨0,3,.row 1 (List.map c3 x.2.1)⟩),(5301,⟨0,104,.row 3 (List.map B7 x.2.2)⟩)]⟩) (fun x ↦ B98 t r1 x.1 x.2.1 x.2.2) (fun x ↦ A6n t r1 (v2.set r1.toNat (C2 (nrm (t r1.toNat))).1) x.1 x.2.1 x.2.2) [0,2,3,4,5,12,6,32,33,34] [2,3,11,5301] (((0:Int),v2.set r1.toNat (C2 (nrm (t r1.toNat))).1,cc3)) (show A6n t r1 (v2.set r1.toNat (C2 (nrm (t r1.toNat))).1) (0:Int) (v2.set r1.toNat (C2 (nrm (t r1.toNat))).1) cc3 from ?g2) ?_;rotate_left
 rintro⟨j_16,v_17,c_18⟩ h_19
 obtain⟨h_20,h_21,h_22,h_23⟩:v_17=v2.set r1.toNat (C2 (nrm (t r1.toNat))).1∧0≤j_16∧j_16≤(↑(C2 (nrm (t r1.toNat))).2.length:Int)∧K5 t r1 j_16 c_18:=h_19
 refine rE cx [0,2,3,4,5,12,6,32,33,34,35] [2,3,11,5301] (zB 0 (j_16 <(↑(C2 (nrm (t r1.toNat))).2.length:Int))) (fun h_24=>?_) fun h_24=>?_
 refine sK<|sn<|sq<|bL 3<|sq<|rG cx [0,2,3,4,5,12,6,32,33,34,10] [2,3,11,5301,10] (fA (0≤j_16) (fG c154 ((C2 (nrm (t r1.toNat))).2) j_16.toNat (fR 2 (fN 2 2 (oR 0 (c154 (C2 (nrm (t r1.toNat))).2[j_16.toNat]!) z0)))))<|sn<|rG cx [0,2,3,4,5,12,6,32,33,34] [2,3,11,5301] (fR 104 (fR 3 (fR 3 (fX B7 [{ rep:=r1,lo:=(C2 (nrm (t r1.toNat))).2[j_16.toNat]!.lo,hi:=(C2 (nrm (t r1.toNat))).2[j_16.toNat]!.hi:Span }] 3 (fP ((List.map B7 c_18).length+(List.map B7 [{ rep:=r1,lo:=(C2 (nrm (t r1.toNat))).2[j_16.toNat]!.lo,hi:=(C2 (nrm (t r1.toNat))).2[j_16.toNat]!.hi:Span }]).length≤maxLen) ?g3 (fP (((List.map B7 c_18).length+(List.map B7 [{ rep:=r1,lo:=(C2 (nrm (t r1.toNat))).2[j_16.toNat]!.lo,hi:=(C2 (nrm (t r1.toNat))).2[j_16.toNat]!.hi:Span }]).length)*(24:Nat)≤(140737488355328:Nat)) ?g4 (fM B7 c_18 [{ rep:=r1,lo:=(C2 (nrm (t r1.toNat))).2[j_16.toNat]!.lo,hi:=(C2 (nrm (t r1.toNat))).2[j_16.toNat]!.hi:Span }] (oV 9 { rows:=some (List.map B7 (c_18++[{ rep:=r1,lo:=(C2 (nrm (t r1.toNat))).2[j_16.toNat]!.lo,hi:=(C2 (nrm (t r1.toNat))).2[j_16.toNat]!.hi:Span }])) } z0)))))))) ?_;rotate_left 2
 refine bN<|sn<|rG cx [0,2,3,4,5,12,6,32,33,34] [2,3,11,5301] (tT 0 (B6 (by omega) ?g5:AV.i .i64 (IntKind.i64.wrap (j_16+1))=AV.i .i64 (j_16+1)) z0) ?_;rotate_left
 refine sn<|nX ((j_16+1,v_17,c_18++[{ rep:=r1,lo:=(C2 (nrm (t r1.toNat))).2[j_16.toNat]!.lo,hi:=(C2 (nrm (t r1.toNat))).2[j_16.toNat]!.hi:Span }])) (show((↑(C2 (nrm (t r1.toNat))).2.length:Int)-(j_16+1)).toNat <((↑(C2 (nrm (t r1.toNat))).2.length:Int)-j_16).toNat from(by omega)) (show A6n t r1 (v2.set r1.toNat (C2 (nrm (t r1.toNat))).1) (j_16+1) v_17 (c_18++[{ rep:=r1,lo:=(C2 (nrm (t r1.toNat))).2[j_16.toNat]!.lo,hi:=(C2 (nrm (t r1.toNat))).2[j_16.toNat]!.hi:Span }])from ?g6);rotate_left
 refine eX 2<|nE<|nE<|bH<|bN<|sn<|rG cx [0,2,3,4,5,12] [2,3,11,5301] (tW 0 (r1+1) z0)<|sn<|nX ((r1+1,r1+1,v_17,c_18)) (show(16-(r1+1)).toNat <(16-r1).toNat from(by omega)) (show Aq7 t (r1+1) (r1+1) v_17 c_18 from ?g7);rotate_left
 refine sK<|sn<|sq<|rG cx [0,2,3,4,5,12,6,32,33,34] [2,3,11,5301] (tL 1 c154 ((C2 (nrm (t r1.toNat))).2) z0)<|sn<|bL 2<|sL (X:=Int×List Int×List Span) (fun x=>⟨[(0,.eptr (I0 c154 16 t)),(2,.ptr (2) (0) (0) (0)),(3,.ptr (3) (0) (0) (0)),(4,.own 11 0),(5,.i .i64 (s0)),(12,.i .i64 (r1)),(6,.i .i64 (r1)),(32,.sl (List.map c154 (C2 (nrm (t r1.toNat))).2)),(33,.i .i64 ((↑(C2 (nrm (t r1.toNat))).2.length:Int))),(34,.i .i64 (x.1))],[(2,⟨0,26,.var [.nl,.nl]⟩),(3,⟨0,26,.var [.nl,.own 5301 0]⟩),(11,⟨0,3,.row 1 (List.map c3 x.2.1)⟩),(5301,⟨0,104,.row 3 (List.map B7 x.2.2)⟩)]⟩) (fun x ↦ B98 t r1 x.1 x.2.1 x.2.2) (fun x ↦ A6n t r1 (v2.set r1.toNat (C2 (nrm (t r1.toNat))).1) x.1 x.2.1 x.2.2) [0,2,3,4,5,12,6,32,33,34] [2,3,11,5301] (((0:Int),v2.set r1.toNat (C2 (nrm (t r1.toNat))).1,cc3)) (show A6n t r1 (v2.set r1.toNat (C2 (nrm (t r1.toNat))).1) (0:Int) (v2.set r1.toNat (C2 (nrm (t r1.toNat))).1) cc3 from ?g8) ?_;rotate_left
 rintro⟨j_25,v_26,c_27⟩ h_28
 obtain⟨h_29,h_30,h_31,h_32⟩:v_26=v2.set r1.toNat (C2 (nrm (t r1.toNat))).1∧0≤j_25∧j_25≤(↑(C2 (nrm (t r1.toNat))).2.length:Int)∧K5 t r1 j_25 c_27:=h_28
 refine rE cx [0,2,3,4,5,12,6,32,33,34,35] [2,3,11,5301] (zB 0 (j_25 <(↑(C2 (nrm (t r1.toNat))).2.length:Int))) (fun h_33=>?_) fun h_33=>?_
 refine sK<|sn<|sq<|bL 3<|sq<|rG cx [0,2,3,4,5,12,6,32,33,34,10] [2,3,11,5301,10] (fA (0≤j_25) (fG c154 ((C2 (nrm (t r1.toNat))).2) j_25.toNat (fR 2 (fN 2 2 (oR 0 (c154 (C2 (nrm (t r1.toNat))).2[j_25.toNat]!) z0)))))<|sn<|rG cx [0,2,3,4,5,12,6,32,33,34] [2,3,11,5301] (fR 104 (fR 3 (fR 3 (fX B7 [{ rep:=r1,lo:=(C2 (nrm (t r1.toNat))).2[j_25.toNat]!.lo,hi:=(C2 (nrm (t r1.toNat))).2[j_25.toNat]!.hi:Span }] 3 (fP ((List.map B7 c_27).length+(List.map B7 [{ rep:=r1,lo:=(C2 (nrm (t r1.toNat))).2[j_25.toNat]!.lo,hi:=(C2 (nrm (t r1.toNat))).2[j_25.toNat]!.hi:Span }]).length≤maxLen) ?g9 (fP (((List.map B7 c_27).length+(List.map B7 [{ rep:=r1,lo:=(C2 (nrm (t r1.toNat))).2[j_25.toNat]!.lo,hi:=(C2 (nrm (t r1.toNat))).2[j_25.toNat]!.hi:Span }]).length)*(24:Nat)≤(140737488355328:Nat)) ?g10 (fM B7 c_27 [{ rep:=r1,lo:=(C2 (nrm (t r1.toNat))).2[j_25.toNat]!.lo,hi:=(C2 (nrm (t r1.toNat))).2[j_25.toNat]!.hi:Span }] (oV 9 { rows:=some (List.map B7 (c_27++[{ rep:=r1,lo:=(C2 (nrm (t r1.toNat))).2[j_25.toNat]!.lo,hi:=(C2 (nrm (t r1.toNat))).2[j_25.toNat]!.hi:Span }])) } z0)))))))) ?_;rotate_left 2
 refine bN<|sn<|rG cx [0,2,3,4,5,12,6,32,33,34] [2,3,11,5301] (tT 0 (B6 (by omega) ?g11:AV.i .i64 (IntKind.i64.wrap (j_25+1))=AV.i .i64 (j_25+1)) z0) ?_;rotate_left
 refine sn<|nX ((j_25+1,v_26,c_27++[{ rep:=r1,lo:=(C2 (nrm (t r1.toNat))).2[j_25.toNat]!.lo,hi:=(C2 (nrm (t r1.toNat))).2[j_25.toNat]!.hi:Span }])) (show((↑(C2 (nrm (t r1.toNat))).2.length:Int)-(j_25+1)).toNat <((↑(C2 (nrm (t r1.toNat))).2.length:Int)-j_25).toNat from(by omega)) (show A6n t r1 (v2.set r1.toNat (C2 (nrm (t r1.toNat))).1) (j_25+1) v_26 (c_27++[{ rep:=r1,lo:=(C2 (nrm (t r1.toNat))).2[j_25.toNat]!.lo,hi:=(C2 (nrm (t r1.toNat))).2[j_25.toNat]!.hi:Span }])from ?g12);rotate_left
 refine eX 2<|nE<|nE<|bH<|bN<|sn<|rG cx [0,2,3,4,5,12] [2,3,11,5301] (tW 0 (r1+1) z0)<|sn<|nX ((s0,r1+1,v_26,c_27)) (show(16-(r1+1)).toNat <(16-r1).toNat from(by omega)) (show Aq7 t s0 (r1+1) v_26 c_27 from ?g13);rotate_left
 refine eX 0<|nE<|nE<|bH<|sn<|sq<|rD cx [2,3,4,5,52] [2,3,11,5301] (zB 1 ((0:Int) < s0)) (fun h34=>?_) fun h34=>?_
 refine rG cx [2,3] [2,3,5301,56] (fO ((0:Int)≤(0:Int)) (fA (0≤s0) (fP (s0≤(↑(List.map c3 v2).length:Int)) (by(first | omega | (simp only [List.length_map];omega))) (fP ((0:Int) <(↑(List.map c3 v2).length:Int)) (by(first | omega | (simp only [List.length_map];omega))) (fR (some (1)) (fP (A3l Tryz.prog (148:Nat) [AV.sl (List.take (s0-0).toNat (List.drop (0) (List.map c3 v2)))] (3:Nat) (BK.row (1:Nat) (List.map c3 (List.take (s0-0).toNat (List.drop (0) v2))))) (A3l.le (con148 (List.take (s0-0).toNat (List.drop (0) v2)) ?g14) (ZLe.cons (B8.eq (by simp only [List.map_take,List.map_drop])) ZLe.nil)) (oV 3 { val:=some (.own (3:Nat) (1:Nat)),rows:=some (List.map c3 (List.take (s0-0).toNat (List.drop (0) v2))) } z0))))))) ?_;rotate_left
 refine sn<|sq<|P3 [56,5301] [2,3] [2,3] (σ':=⟨[(2,.ptr (2) (0) (0) (0)),(3,.ptr (3) (0) (0) (0))],[(2,⟨0,26,.var [.nl,.nl]⟩),(3,⟨0,26,.var [.sl (((E.look [(3,{ val:=some (AV.own (3:Nat) (1:Nat)),rows:=some (List.map c3 (List.take (s0-0).toNat (List.drop (0) v2))):Ov })] (3)).getD {:Ov }).rows.getD []),.sl (List.map B7 cc3)]⟩)]⟩) (by kernel_rfl)<|rG cx [2] [2,3] z0<|sn<|rT<|qR (.agg [.sl (((E.look [(3,{ val:=some (AV.own (3:Nat) (1:Nat)),rows:=some (List.map c3 (List.take (s0-0).toNat (List.drop (0) v2))):Ov })] (3)).getD {:Ov }).rows.getD []),.sl (List.map B7 cc3)]) (.eq ?g15);rotate_left
 refine sK<|sn<|sq<|P3 [5301] [2,3,4,5,52] [2,3,11] (σ':=⟨[(2,.ptr (2) (0) (0) (0)),(3,.ptr (3) (0) (0) (0)),(4,.own 11 0),(5,.i .i64 (s0)),(52,.b (decide ((0:Int) < s0)))],[(2,⟨0,26,.var [.nl,.nl]⟩),(3,⟨0,26,.var [.nl,.sl (List.map B7 cc3)]⟩),(11,⟨0,3,.row 1 (List.map c3 v2)⟩)]⟩) (by kernel_rfl)<|rG cx [2] [2] z0<|sn<|rT<|qR (.agg [.nl,.sl (List.map B7 cc3)]) (B8.agg (ZLe.cons (B8.nl' (show List.map c3 (H3 t).vec=[]from ?g17)) (ZLe.cons (B8.eq (show AV.sl (List.map B7 cc3)=AV.sl (List.map B7 (H3 t).cloud)from ?g16)) ZLe.nil)));rotate_left 2
 rotate_left
 clear hl_14;revert s0 r1 v2 cc3 hh5 hh6 hh7 hh8 hh9 h10 h11 h12 h13;rotate_left
 clear hl_14;revert s0 r1 v2 cc3 hh5 hh6 hh7 hh8 hh9 h10 h11 h12 h13 h_15;rotate_left
 clear hl_14;revert s0 r1 v2 cc3 hh5 hh6 hh7 hh8 hh9 h10 h11 h12 h13 h_15 j_16 v_17 c_18 h_20 h_21 h_22 h_23 h_24;rotate_left
 clear hl_14;revert s0 r1 v2 cc3 hh5 hh6 hh7 hh8 hh9 h10 h11 h12 h13 h_15 j_16 v_17 c_18 h_20 h_21 h_22 h_23 h_24;rotate_left
 clear hl_14;revert s0 r1 v2 cc3 hh5 hh6 hh7 hh8 hh9 h10 h11 h12 h13 h_15 j_16 v_17 c_18 h_20 h_21 h_22 h_23 h_24;rotate_left
 clear hl_14;revert s0 r1 v2 cc3 hh5 hh6 hh7 hh8 hh9 h10 h11 h12 h13 h_15 j_16 v_17 c_18 h_20 h_21 h_22 h_23 h_24;rotate_left
 clear hl_14;revert s0 r1 v2 cc3 hh5 hh6 hh7 hh8 hh9 h10 h11 h12 h13 h_15 j_16 v_17 c_18 h_20 h_21 h_22 h_23 h_24;rotate_left
 clear hl_14;revert s0 r1 v2 cc3 hh5 hh6 hh7 hh8 hh9 h10 h11 h12 h13 h_15;rotate_left
 clear hl_14;revert s0 r1 v2 cc3 hh5 hh6 hh7 hh8 hh9 h10 h11 h12 h13 h_15 j_25 v_26 c_27 h_29 h_30 h_31 h_32 h_33;rotate_left
 clear hl_14;revert s0 r1 v2 cc3 hh5 hh6 hh7 hh8 hh9 h10 h11 h12 h13 h_15 j_25 v_26 c_27 h_29 h_30 h_31 h_32 h_33;rotate_left
 clear hl_14;revert s0 r1 v2 cc3 hh5 hh6 hh7 hh8 hh9 h10 h11 h12 h13 h_15 j_25 v_26 c_27 h_29 h_30 h_31 h_32 h_33;rotate_left
 clear hl_14;revert s0 r1 v2 cc3 hh5 hh6 hh7 hh8 hh9 h10 h11 h12 h13 h_15 j_25 v_26 c_27 h_29 h_30 h_31 h_32 h_33;rotate_left
 clear hl_14;revert s0 r1 v2 cc3 hh5 hh6 hh7 hh8 hh9 h10 h11 h12 h13 h_15 j_25 v_26 c_27 h_29 h_30 h_31 h_32 h_33;rotate_left
 revert s0 r1 v2 cc3 hh5 hh6 hh7 hh8 hh9 h10 h11 h12 h13 h34;rotate_left
 revert s0 r1 v2 cc3 hh5 hh6 hh7 hh8 hh9 h10 h11 h12 h13 h34;rotate_left
 revert s0 r1 v2 cc3 hh5 hh6 hh7 hh8 hh9 h10 h11 h12 h13 h34;rotate_left
 revert s0 r1 v2 cc3 hh5 hh6 hh7 hh8 hh9 h10 h11 h12 h13 h34;rotate_left
 case g0=>exact⟨by omega,by omega,by omega,by omega,by simp,rfl,by simp [A14,A6m],rfl⟩
 case g1=>intro s r v c h0 h1 h2 h3 h4 h5 h6 h7 h8;exact hb _ (by omega)
 case g2=>intro s r v c h0 h1 h2 h3 h4 h5 h6 h7 h8 h9;exact⟨rfl,by omega,by omega,A3b h7⟩
 case g8=>intro s r v c h0 h1 h2 h3 h4 h5 h6 h7 h8 h9;exact⟨rfl,by omega,by omega,A3b h7⟩
 case g3=>intro s r v c h0 h1 h2 h3 h4 h5 h6 h7 h8 h9 j w d k0 k1 k2 k3 k4;have:=A0e h0 h8 k3;simp only [List.length_map,List.length_cons,List.length_nil,Go.maxLen];omega
 case g9=>intro s r v c h0 h1 h2 h3 h4 h5 h6 h7 h8 h9 j w d k0 k1 k2 k3 k4;have:=A0e h0 h8 k3;simp only [List.length_map,List.length_cons,List.length_nil,Go.maxLen];omega
 case g4=>intro s r v c h0 h1 h2 h3 h4 h5 h6 h7 h8 h9 j w d k0 k1 k2 k3 k4;have:=A0e h0 h8 k3;simp only [List.length_map,List.length_cons,List.length_nil];omega
 case g10=>intro s r v c h0 h1 h2 h3 h4 h5 h6 h7 h8 h9 j w d k0 k1 k2 k3 k4;have:=A0e h0 h8 k3;simp only [List.length_map,List.length_cons,List.length_nil];omega
 case g5=>intro s r v c h0 h1 h2 h3 h4 h5 h6 h7 h8 h9 j w d k0 k1 k2 k3 k4;have:=A3t t r.toNat;omega
 case g11=>intro s r v c h0 h1 h2 h3 h4 h5 h6 h7 h8 h9 j w d k0 k1 k2 k3 k4;have:=A3t t r.toNat;omega
 case g6=>intro s r v c h0 h1 h2 h3 h4 h5 h6 h7 h8 h9 j w d k0 k1 k2 k3 k4;exact⟨k0,by omega,by omega,A4j h0 k1 k4 k3⟩
 case g12=>intro s r v c h0 h1 h2 h3 h4 h5 h6 h7 h8 h9 j w d k0 k1 k2 k3 k4;exact⟨k0,by omega,by omega,A4j h0 k1 k4 k3⟩
 case g7 =>
  intro s r v c h0 h1 h2 h3 h4 h5 h6 h7 h8 h9 j w d k0 k1 k2 k3 k4
  have hs:=Aj9 h0 h5
  rw[if_pos h9]at hs
  subst k0
  exact⟨by omega,by omega,by omega,by omega,by simpa using h4,hs,A84 h0 h8 h6,A6o h0 k4 k3⟩
 case g13 =>
  intro s r v c h0 h1 h2 h3 h4 h5 h6 h7 h8 h9 j w d k0 k1 k2 k3 k4
  have hs:=Aj9 h0 h5
  rw[if_neg h9]at hs
  subst k0
  exact⟨by omega,by omega,by omega,by omega,by simpa using h4,hs,A84 h0 h8 h6,A6o h0 k4 k3⟩
 case g14=>intro s r v c h0 h1 h2 h3 h4 h5 h6 h7 h8 h9;rw[List.drop_zero,List.length_take];omega
 case g15 =>
  intro s r v c h0 h1 h2 h3 h4 h5 h6 h7 h8 h9
  rw[A85 h1 h8 h5 h6 h7]
  show AV.agg [AV.sl (List.map c3 (List.take (s-0).toNat (List.drop 0 v))),AV.sl (List.map B7 c)]=_
  rw[List.drop_zero,Int.sub_zero]
  rfl
 case g16=>intro s r v c h0 h1 h2 h3 h4 h5 h6 h7 h8 h9;rw[A85 h1 h8 h5 h6 h7]
 case g17=>intro s r v c h0 h1 h2 h3 h4 h5 h6 h7 h8 h9;rw[A85 h1 h8 h5 h6 h7,show s.toNat=0 by omega];rfl
end Go.Proofs.YtaiepnaokhpmcaaGreat
namespace Go.Proofs.YtaiepnaokhpmcaaGreat
open Go.E
set_option maxRecDepth 100000
set_option maxHeartbeats 4000000
def A0f(d:Dot):Bool:=decide (0≤d.rep∧d.rep < 16∧1≤d.num∧d.num≤1000000000)
def ofT(dots:List Dot)(r:Nat):List Run:=(dots.filter fun d=>A0f d && decide (d.rep=r)).map fun d=>⟨d.num,d.num⟩
def Ak0(dots:List Dot)(i:Int)(T:Nat→List Run):Prop:=∀ r:Nat,r < 16→T r=ofT (dots.take i.toNat) r
def B6g(dots:List Dot)(i:Int)(T:Nat→List Run):Prop:=0≤i∧i≤dots.length∧Ak0 dots i T
def dec62(dots:List Dot)(i:Int)(T:Nat→List Run):Nat:=(dots.length-i).toNat
theorem A0g{T U:Nat→List Run}(h:∀ r:Nat,r < 16→T r=U r):H3 T=H3 U:=by
 have hl:∀ n:Nat,n≤16→szT T n=szT U n∧J3 T n=J3 U n:=by
  intro n
  induction n with
  | zero=>intro _;exact⟨rfl,rfl⟩
  | succ n ih =>
   intro hn
   obtain⟨h1,h2⟩:=ih (by omega)
   have e:=h n (by omega)
   exact⟨by rw[szT,szT,h1,A0o,A0o,e],by rw[J3,J3,h2,X2,X2,e]⟩
 have hv:A6m T 16=A6m U 16:=by
  unfold A6m
  congr 1
  refine List.map_congr_left fun r hr=>?_
  have hr:r < 16:=by simpa using hr
  rw[A0o,A0o,h r hr]
 unfold H3
 rw[(hl 16 (Nat.le_refl _)).1,(hl 16 (Nat.le_refl _)).2,hv]
theorem Be2(dots:List Dot)(r:Nat):(ofT dots r).length≤dots.length:=by
 unfold ofT
 rw[List.length_map]
 exact List.length_filter_le _ _
theorem B2d(a:List Dot)(d:Dot)(r:Nat):ofT (a++[d]) r=ofT a r++if A0f d=true∧d.rep=(r:Int)then[⟨d.num,d.num⟩]else[]:=by
 unfold ofT
 rw[List.filter_append,List.map_append]
 congr 1
 by_cases h:A0f d=true∧d.rep=(r:Int)
 ·rw[if_pos h];simp [List.filter_cons,h.1,h.2]
 ·rw[if_neg h]
  have:(A0f d && decide (d.rep=(r:Int)))=false:=by
   rw[Bool.and_eq_false_iff]
   by_cases h1:A0f d=true
   ·exact .inr (by simpa using fun h2=>h ⟨h1,h2⟩)
   ·exact .inl (by simpa using h1)
  simp [List.filter_cons,this]
theorem H5{d:Dot}(h:A0f d=true):0≤d.rep∧d.rep < 16∧1≤d.num∧d.num≤1000000000:=by
 unfold A0f at h
 simpa using h
theorem Ak1{dots:List Dot}{i:Int}{T:Nat→List Run}(h1:i≤dots.length)(ht:Ak0 dots i T){r:Nat}(hr:r < 16):((T r).length:Int)≤i∨(T r).length=0:=by
 rw[ht r hr]
 have:=Be2 (dots.take i.toNat) r
 rw[List.length_take]at this
 omega
theorem tab_in{dots:List Dot}{i:Int}{T:Nat→List Run}(h0:0≤i)(h1:i < dots.length)(ht:Ak0 dots i T)(hd:A0f dots[i.toNat]! = true) :
  Ak0 dots (i+1) (N0 T dots[i.toNat]!.rep.toNat (T dots[i.toNat]!.rep.toNat++[⟨dots[i.toNat]!.num,dots[i.toNat]!.num⟩])):=by
 intro r hr
 have hb:=H5 hd
 rw[← D9 h0 h1,B2d]
 unfold N0
 by_cases e:r=dots[i.toNat]!.rep.toNat
 ·rw[if_pos e,if_pos ⟨hd,by omega⟩,← e,ht r hr]
 ·rw[if_neg e,if_neg (fun k=>e (by omega)),List.append_nil,ht r hr]
theorem Be3{dots:List Dot}{i:Int}{T:Nat→List Run}(h0:0≤i)(h1:i < dots.length)(ht:Ak0 dots i T)(hd:A0f dots[i.toNat]! = false):Ak0 dots (i+1) T:=by
 intro r hr
 rw[← D9 h0 h1,B2d,if_neg (fun k=>by rw[hd]at k;cases k.1),List.append_nil,ht r hr]
theorem B99(d:Dot):Con Tryz.prog 154 [.agg (c43 d)] (.b (A0f d)) :=
 by
 refine sC B1 [.tmp 2] 21 Tryz.func154 ?_
 intro e0 cx
 refine sq<|rG cx [1] [1] z0<|sn<|sq<|B4 (σ':=⟨[(2,.b (decide (0≤d.rep∧d.rep <(16:Int)∧1≤d.num∧d.num≤1000000000)))],[]⟩) ?_ ?_
 refine A4 (0≤d.rep) (fun h_1=>?_) (fun h_1=>?_)
 refine A4 (d.rep <(16:Int)) (fun h_2=>?_) (fun h_2=>?_)
 refine A4 (1≤d.num) (fun h_3=>?_) (fun h_3=>?_)
 refine rG cx [2] [] (tT 2 (A6 h_1) (tT 6 (A6 h_2) (tT 11 (A6 h_3) (tB 16 (d.num≤1000000000) (tD 18 (decide (d.num≤1000000000)) (0≤d.rep∧d.rep <(16:Int)∧1≤d.num∧d.num≤1000000000) (by simp only [eq_true h_1,eq_true h_2,eq_true h_3,tsl]) z0))))) ?_
 exact⟨rfl,by kernel_rfl⟩
 refine rG cx [2] [] (tT 2 (A6 h_1) (tT 6 (A6 h_2) (tT 11 (A3 h_3) (tD 18 false (0≤d.rep∧d.rep <(16:Int)∧1≤d.num∧d.num≤1000000000) (by simp only [eq_true h_1,eq_true h_2,eq_false h_3,tsl]) z0)))) ?_
 exact⟨rfl,by kernel_rfl⟩
 refine rG cx [2] [] (tT 2 (A6 h_1) (tT 6 (A3 h_2) (tD 18 false (0≤d.rep∧d.rep <(16:Int)∧1≤d.num∧d.num≤1000000000) (by simp only [eq_true h_1,eq_false h_2,tsl]) z0))) ?_
 exact⟨rfl,by kernel_rfl⟩
 refine rG cx [2] [] (tT 2 (A3 h_1) (tD 18 false (0≤d.rep∧d.rep <(16:Int)∧1≤d.num∧d.num≤1000000000) (by simp only [eq_false h_1,tsl]) z0)) ?_
 exact⟨rfl,by kernel_rfl⟩
 refine sn<|rT<|qR (.b (decide (0≤d.rep∧d.rep <(16:Int)∧1≤d.num∧d.num≤1000000000))) (.eq ?g0);rotate_left
 case g0=>exact rfl
theorem con136(dots:List Dot)(hb:dots.length*16≤140737488351232):Con Tryz.prog 136 [.sl (dots.map c43)] (.agg (c26 (H3 (ofT dots)))) :=
 by
 refine lN 0 c43 (dots) Tryz.func136 fun hl_0=>sC B1 [.cell 2 26] 37 Tryz.func136 ?_
 intro e0 cx
 refine sq<|rG cx [0,2] [2] z0<|sn<|sq<|rG cx [0,2,3] [2,7] z0<|sn<|sq<|sq<|rG cx [2,3,8,9,10] [2,7] (tL 1 c43 dots z0)<|sn<|bL 0<|A1n 7 154 2 100700 16 (σ':=⟨[(2,.ptr (2) (0) (0) (0)),(3,.ptr (7) (0) (0) (0)),(8,.sl (List.map c43 dots)),(9,.i .i64 ((↑dots.length:Int))),(10,.i .i64 ((0:Int)))],[(2,⟨0,26,.var [.nl,.nl]⟩),(7,⟨0,152,.var (G6 100700 16)⟩)]++C7 100700 154 2 16 (c154) (fun x ↦ [])⟩) (by kernel_rfl)<|sL (X:=Int×(Nat→List Run)) (fun x=>⟨[(2,.ptr (2) (0) (0) (0)),(3,.ptr (7) (0) (0) (0)),(8,.sl (List.map c43 dots)),(9,.i .i64 ((↑dots.length:Int))),(10,.i .i64 (x.1))],[(2,⟨0,26,.var [.nl,.nl]⟩),(7,⟨0,152,.var (G6 100700 16)⟩)]++C7 100700 154 2 16 (c154) (x.2)⟩) (fun x ↦ dec62 dots x.1 x.2) (fun x ↦ B6g dots x.1 x.2) [2,3,8,9,10] ([2,7]++List.range' 100700 16) (((0:Int),fun x ↦ [])) (show B6g dots (0:Int) fun x ↦ []from(by exact⟨by omega,by omega,fun r _=>by simp [ofT]⟩)) ?_
 rintro⟨i0,T1⟩ h_2
 obtain⟨hh3,hh4,h5⟩:0≤i0∧i0≤(↑dots.length:Int)∧Ak0 dots i0 T1:=h_2
 refine rE cx [2,3,8,9,10,11] ([2,7]++List.range' 100700 16) (zB 0 (i0 <(↑dots.length:Int))) (fun h6=>?_) fun h6=>?_
 refine sK<|sn<|sq<|bL 1<|sq<|rG cx [2,3,8,9,10,5] ([2,7]++List.range' 100700 16++[5]) (fA (0≤i0) (fG c43 dots i0.toNat (fR 2 (fN 2 2 (oR 0 (c43 dots[i0.toNat]!) z0)))))<|sn<|sq<|rG cx [2,3,8,9,10,5,15] ([2,7]++List.range' 100700 16++[5]) (fT (B99 (dots[i0.toNat]!)) (oA 1 (.b (A0f dots[i0.toNat]!)) z0))<|sn<|W8 (A0f dots[i0.toNat]!) (by kernel_rfl) (by kernel_rfl) (fun h7=>?_) (fun h7=>?_)
 refine A09 (F:=fun kx=>⟨[(2,.ptr (2) (0) (0) (0)),(3,.ptr (7) (0) (0) (0)),(8,.sl (List.map c43 dots)),(9,.i .i64 ((↑dots.length:Int))),(10,.i .i64 (i0)),(5,.ptr (5) (0) (0) (0)),(15,.b (A0f dots[i0.toNat]!))],[(2,⟨0,26,.var [.nl,.nl]⟩),(7,⟨0,152,.var (G6 100700 16)⟩)]++C7 100700 154 2 16 (c154) (T1)++[(5,⟨0,43,.var [.i .i64 (kx),.i .i64 (dots[i0.toNat]!.num)]⟩)]⟩) (G:=fun kx=>⟨[(2,.ptr (2) (0) (0) (0)),(3,.ptr (7) (0) (0) (0)),(8,.sl (List.map c43 dots)),(9,.i .i64 ((↑dots.length:Int))),(10,.i .i64 (i0))],[(2,⟨0,26,.var [.nl,.nl]⟩),(7,⟨0,152,.var (G6 100700 16)⟩)]++C7 100700 154 2 16 (c154) (N0 T1 kx.toNat (T1 kx.toNat++[{ lo:=dots[i0.toNat]!.num,hi:=dots[i0.toNat]!.num:Run }]))⟩) (A:=fun kx=>(0≤kx)∧(kx <(↑(16:Nat):Int))∧(154=(154:Nat))∧((2:Nat)=2)∧([AV.i .i64 (0:Int),AV.i .i64 (0:Int)].length=(2:Nat))∧(∀(r:List AV),r∈List.map c154 [{ lo:=dots[i0.toNat]!.num,hi:=dots[i0.toNat]!.num:Run }]→r.length=2)∧((List.map c154 (T1 kx.toNat)).length+(List.map c154 [{ lo:=dots[i0.toNat]!.num,hi:=dots[i0.toNat]!.num:Run }]).length≤maxLen)∧(((List.map c154 (T1 kx.toNat)).length+(List.map c154 [{ lo:=dots[i0.toNat]!.num,hi:=dots[i0.toNat]!.num:Run }]).length)*(16:Nat)≤(140737488355328:Nat))∧(List.map c154 (T1 kx.toNat)++List.map c154 [{ lo:=dots[i0.toNat]!.num,hi:=dots[i0.toNat]!.num:Run }]=List.map c154 (T1 kx.toNat++[{ lo:=dots[i0.toNat]!.num,hi:=dots[i0.toNat]!.num:Run }]))∧(0≤kx)∧(kx <(↑(16:Nat):Int))) cx (fun kx=>[(15,{ rows:=some (List.map c154 (T1 kx.toNat++[{ lo:=dots[i0.toNat]!.num,hi:=dots[i0.toNat]!.num:Run }])) })]) [2,3,8,9,10] ([2,7]++List.range' 100700 16) (dots[i0.toNat]!.rep) (by exact(H5 h7).1) (by exact(H5 h7).2.1) (by kernel_rfl) (by kernel_rfl) ⟨(by show _=_;kernel_rfl),(by show _=_;kernel_rfl),(by show _=_;kernel_rfl),(by show _=_;kernel_rfl),(by show _=_;kernel_rfl),(by show _=_;kernel_rfl),(by show _=_;kernel_rfl),(by show _=_;kernel_rfl),(by show _=_;kernel_rfl),(by show _=_;kernel_rfl),(by show _=_;kernel_rfl),(by show _=_;kernel_rfl),(by show _=_;kernel_rfl),(by show _=_;kernel_rfl),(by show _=_;kernel_rfl),(by show _=_;kernel_rfl)⟩ ⟨(by exact(H5 h7).1),(by exact(H5 h7).2.1),(by kernel_rfl),(by kernel_rfl),(by kernel_rfl),(by(with_reducible refine O4 (fun _=>?_) _;kernel_rfl)),(by have hd:=H5 h7;have:=Ak1 hh4 h5 (r:=dots[i0.toNat]!.rep.toNat) (by omega);simp only [List.length_map,List.length_cons,List.length_nil,Go.maxLen];omega),(by have hd:=H5 h7;have:=Ak1 hh4 h5 (r:=dots[i0.toNat]!.rep.toNat) (by omega);simp only [List.length_map,List.length_cons,List.length_nil];omega),(by(with_reducible refine Z3 ?_;kernel_rfl)),(by exact(H5 h7).1),(by exact(H5 h7).2.1)⟩ ?_
 refine bN<|sn<|rG cx [2,3,8,9,10] ([2,7]++List.range' 100700 16) (tW 0 (i0+1) z0)<|sn<|nX ((i0+1,N0 T1 dots[i0.toNat]!.rep.toNat (T1 dots[i0.toNat]!.rep.toNat++[{ lo:=dots[i0.toNat]!.num,hi:=dots[i0.toNat]!.num:Run }]))) (show((↑dots.length:Int)-(i0+1)).toNat <((↑dots.length:Int)-i0).toNat from(by omega)) (show B6g dots (i0+1) (N0 T1 dots[i0.toNat]!.rep.toNat (T1 dots[i0.toNat]!.rep.toNat++[{ lo:=dots[i0.toNat]!.num,hi:=dots[i0.toNat]!.num:Run }]))from(by exact⟨by omega,by omega,tab_in hh3 h6 h5 h7⟩))
 refine sK<|bN<|sn<|rG cx [2,3,8,9,10] ([2,7]++List.range' 100700 16) (tW 0 (i0+1) z0)<|sn<|nX ((i0+1,T1)) (show((↑dots.length:Int)-(i0+1)).toNat <((↑dots.length:Int)-i0).toNat from(by omega)) (show B6g dots (i0+1) T1 from(by exact⟨by omega,by omega,Be3 hh3 h6 h5 h7⟩))
 refine eX 0<|nE<|nE<|bH<|sn<|sq<|P3 (List.range' 100700 16) [2,3,8,9,10,11] [2,7] (σ':=⟨[(2,.ptr (2) (0) (0) (0)),(3,.ptr (7) (0) (0) (0)),(8,.sl (List.map c43 dots)),(9,.i .i64 ((↑dots.length:Int))),(10,.i .i64 (i0)),(11,.b (decide (i0 <(↑dots.length:Int))))],[(2,⟨0,26,.var [.nl,.nl]⟩),(7,⟨0,152,.var [.sl (List.map c154 (T1 (0))),.sl (List.map c154 (T1 (1))),.sl (List.map c154 (T1 (2))),.sl (List.map c154 (T1 (3))),.sl (List.map c154 (T1 (4))),.sl (List.map c154 (T1 (5))),.sl (List.map c154 (T1 (6))),.sl (List.map c154 (T1 (7))),.sl (List.map c154 (T1 (8))),.sl (List.map c154 (T1 (9))),.sl (List.map c154 (T1 (10))),.sl (List.map c154 (T1 (11))),.sl (List.map c154 (T1 (12))),.sl (List.map c154 (T1 (13))),.sl (List.map c154 (T1 (14))),.sl (List.map c154 (T1 (15)))]⟩)]⟩) (by kernel_rfl)<|N1 7 ⟨0,152,.var [.sl (List.map c154 (T1 (0))),.sl (List.map c154 (T1 (1))),.sl (List.map c154 (T1 (2))),.sl (List.map c154 (T1 (3))),.sl (List.map c154 (T1 (4))),.sl (List.map c154 (T1 (5))),.sl (List.map c154 (T1 (6))),.sl (List.map c154 (T1 (7))),.sl (List.map c154 (T1 (8))),.sl (List.map c154 (T1 (9))),.sl (List.map c154 (T1 (10))),.sl (List.map c154 (T1 (11))),.sl (List.map c154 (T1 (12))),.sl (List.map c154 (T1 (13))),.sl (List.map c154 (T1 (14))),.sl (List.map c154 (T1 (15)))]⟩ [.sl (List.map c154 (T1 (0))),.sl (List.map c154 (T1 (1))),.sl (List.map c154 (T1 (2))),.sl (List.map c154 (T1 (3))),.sl (List.map c154 (T1 (4))),.sl (List.map c154 (T1 (5))),.sl (List.map c154 (T1 (6))),.sl (List.map c154 (T1 (7))),.sl (List.map c154 (T1 (8))),.sl (List.map c154 (T1 (9))),.sl (List.map c154 (T1 (10))),.sl (List.map c154 (T1 (11))),.sl (List.map c154 (T1 (12))),.sl (List.map c154 (T1 (13))),.sl (List.map c154 (T1 (14))),.sl (List.map c154 (T1 (15)))] (I0 c154 16 T1) (σ':=⟨[(2,.ptr (2) (0) (0) (0)),(3,.ptr (7) (0) (0) (0)),(8,.sl (List.map c43 dots)),(9,.i .i64 ((↑dots.length:Int))),(10,.i .i64 (i0)),(11,.b (decide (i0 <(↑dots.length:Int))))],[(2,⟨0,26,.var [.nl,.nl]⟩),(7,⟨0,152,.arr (I0 c154 16 T1)⟩)]⟩) (by kernel_rfl) (by kernel_rfl) (by kernel_rfl) (by kernel_rfl) (ZLe.of_eq (by kernel_rfl)) (by kernel_rfl)<|rG cx [2] [2] (fT (Aq8 (T1) ?g11) (oA 1 (.agg [.sl (List.map c3 (H3 T1).vec),.sl (List.map B7 (H3 T1).cloud)]) z0)) ?_;rotate_left
 refine sn<|rT<|qR (.agg [.sl (List.map c3 (H3 T1).vec),.sl (List.map B7 (H3 T1).cloud)]) (.eq ?g12);rotate_left
 case g11=>revert i0 T1 hh3 hh4 h5 h6;intro i T h0 h1 h2 h3 r hr;have:=Ak1 h1 h2 hr;omega
 case g12 =>
  have e:H3 T1=H3 (ofT dots):=A0g fun r hr=>by rw[h5 r hr,List.take_of_length_le (by omega)]
  rw[e]
  rfl
end Go.Proofs.YtaiepnaokhpmcaaGreat
namespace Go.Proofs.YtaiepnaokhpmcaaGreat
open Go.E
set_option maxRecDepth 100000
set_option maxHeartbeats 4000000
def Az3(v:List Int)(r:Nat):List Run:=if r < v.length then[⟨1,v[r]!⟩]else[]
def S7(c:List Span)(r:Nat):List Run:=(c.filter fun(s:Span)=>decide (s.rep=(r:Int))).map fun s=>⟨s.lo,s.hi⟩
def B5(ps:List Past)(r:Nat):List Run:=(ps.map fun p=>Az3 p.vec r++S7 p.cloud r).flatten
def A6p(ps:List Past)(i:Int)(T:Nat→List Run):Prop:=∀ r:Nat,r < 16→T r=B5 (ps.take i.toNat) r
def X3(ps:List Past)(i j:Int)(T:Nat→List Run):Prop:=∀ r:Nat,r < 16→T r=B5 (ps.take i.toNat) r++if(r:Int) < j then Az3 (ps[i.toNat]!).vec r else[]
def Q5(ps:List Past)(i j:Int)(T:Nat→List Run):Prop:=∀ r:Nat,r < 16→T r=B5 (ps.take i.toNat) r++Az3 (ps[i.toNat]!).vec r++S7 ((ps[i.toNat]!).cloud.take j.toNat) r
def Ak2(ps:List Past)(i:Int)(T:Nat→List Run):Prop:=0≤i∧i≤ps.length∧A6p ps i T
def Be4(ps:List Past)(i:Int)(T:Nat→List Run):Nat:=(ps.length-i).toNat
def Ak3(ps:List Past)(i:Int)(n:Int)(j:Int)(T:Nat→List Run)(v:List Int)(c:List Span):Prop:=v=(ps[i.toNat]!).vec∧c=(ps[i.toNat]!).cloud∧0≤j∧j≤n∧X3 ps i j T
def Be5(n:Int)(j:Int)(T:Nat→List Run)(v:List Int)(c:List Span):Nat:=(n-j).toNat
def A86(ps:List Past)(i:Int)(j:Int)(T:Nat→List Run):Prop:=0≤j∧j≤(ps[i.toNat]!).cloud.length∧Q5 ps i j T
def Be6(ps:List Past)(i:Int)(j:Int)(T:Nat→List Run):Nat:=((ps[i.toNat]!).cloud.length-j).toNat
def A15(ps:List Past):Nat:=(ps.map fun p=>p.cloud.length+1).sum
theorem B2e(a:List Past)(p:Past)(r:Nat):B5 (a++[p]) r=B5 a r++(Az3 p.vec r++S7 p.cloud r):=by simp [B5]
theorem Aq9(v:List Int)(r:Nat):(Az3 v r).length≤1:=by unfold Az3;split <;> simp
theorem A6q(c:List Span)(r:Nat):(S7 c r).length≤c.length:=by
 unfold S7
 rw[List.length_map]
 exact List.length_filter_le _ _
theorem Q6(r:Nat):∀ ps:List Past,(B5 ps r).length≤A15 ps
 | []=>by simp [B5]
 | p :: ps=>by
  have h1:=Q6 r ps
  have h2:=Aq9 p.vec r
  have h3:=A6q p.cloud r
  simp only [B5,A15,List.map_cons,List.flatten_cons,List.length_append,List.sum_cons]at *
  omega
theorem B6h(a b:List Past):A15 (a++b)=A15 a+A15 b:=by simp [A15]
theorem Ab3{ps:List Past}{i:Int}(h0:0≤i)(h:i < ps.length):A15 (ps.take i.toNat)+(ps[i.toNat]!).cloud.length+1≤A15 ps:=by
 have e:A15 ps=A15 (ps.take (i+1).toNat)+A15 (ps.drop (i+1).toNat):=by
  rw[← B6h,List.take_append_drop]
 rw[← D9 h0 h]at e
 simp only [A15,List.map_append,List.sum_append,List.map_cons,List.map_nil,List.sum_cons,List.sum_nil]at *
 omega
theorem A4k{ps:List Past}{i:Int}{T:Nat→List Run}(h:A6p ps i T):X3 ps i 0 T:=fun r hr=>by
 rw[h r hr,if_neg (by omega),List.append_nil]
theorem A6r{ps:List Past}{i j:Int}{T:Nat→List Run}(j0:0≤j)(jl:j <(ps[i.toNat]!).vec.length)(h:X3 ps i j T) :
  X3 ps i (j+1) (N0 T j.toNat (T j.toNat++[⟨1,(ps[i.toNat]!).vec[j.toNat]!⟩])):=by
 intro r hr
 unfold N0
 by_cases e:r=j.toNat
 ·rw[if_pos e,← e,h r hr,if_neg (by omega),if_pos (by omega),List.append_nil,Az3,if_pos (by omega)]
 ·rw[if_neg e,h r hr]
  by_cases k:(r:Int) < j
  ·rw[if_pos k,if_pos (by omega)]
  ·rw[if_neg k,if_neg (by omega)]
theorem A4l{ps:List Past}{i j:Int}{T:Nat→List Run}(j1:j≤min ((ps[i.toNat]!).vec.length:Int) 16)(jl:¬ j < min ((ps[i.toNat]!).vec.length:Int) 16)(h:X3 ps i j T):Q5 ps i 0 T:=by
 intro r hr
 rw[h r hr,show(0:Int).toNat=0 from rfl,List.take_zero,show S7 [] r=[]from rfl,List.append_nil]
 by_cases k:(r:Int) < j
 ·rw[if_pos k]
 ·rw[if_neg k,Az3,if_neg (by omega)]
theorem A6s(c:List Span)(s:Span)(r:Nat):S7 (c++[s]) r=S7 c r++if s.rep=(r:Int)then[⟨s.lo,s.hi⟩]else[]:=by
 unfold S7
 rw[List.filter_append,List.map_append]
 congr 1
 by_cases h:s.rep=(r:Int)
 ·rw[if_pos h];simp [List.filter_cons,h]
 ·rw[if_neg h];simp [List.filter_cons,h]
theorem Ar0{ps:List Past}{i j:Int}{T:Nat→List Run}(j0:0≤j)(jl:j <(ps[i.toNat]!).cloud.length)(hr:0≤((ps[i.toNat]!).cloud[j.toNat]!).rep∧((ps[i.toNat]!).cloud[j.toNat]!).rep < 16)(h:Q5 ps i j T) :
  Q5 ps i (j+1) (N0 T ((ps[i.toNat]!).cloud[j.toNat]!).rep.toNat (T ((ps[i.toNat]!).cloud[j.toNat]!).rep.toNat++[⟨((ps[i.toNat]!).cloud[j.toNat]!).lo,((ps[i.toNat]!).cloud[j.toNat]!).hi⟩])):=by
 intro r hr'
 rw[← D9 j0 jl,A6s]
 unfold N0
 by_cases e:r=((ps[i.toNat]!).cloud[j.toNat]!).rep.toNat
 ·rw[if_pos e,if_pos (by omega),← e,h r hr',List.append_assoc,List.append_assoc]
 ·rw[if_neg e,if_neg (by omega),List.append_nil,h r hr']
theorem Ab4{ps:List Past}{i j:Int}{T:Nat→List Run}(j0:0≤j)(jl:j <(ps[i.toNat]!).cloud.length)(hr:¬(0≤((ps[i.toNat]!).cloud[j.toNat]!).rep∧((ps[i.toNat]!).cloud[j.toNat]!).rep < 16))(h:Q5 ps i j T):Q5 ps i (j+1) T:=by
 intro r hr'
 rw[← D9 j0 jl,A6s,if_neg (by omega),List.append_nil,h r hr']
theorem Ab5{ps:List Past}{i j:Int}{T:Nat→List Run}(h0:0≤i)(h1:i < ps.length)(jl:¬ j <(ps[i.toNat]!).cloud.length)(h:Q5 ps i j T):A6p ps (i+1) T:=by
 intro r hr
 rw[← D9 h0 h1,B2e,h r hr,List.take_of_length_le (l:=(ps[i.toNat]!).cloud) (by omega),List.append_assoc]
theorem A4m{ps:List Past}{i j:Int}{T:Nat→List Run}(h0:0≤i)(h1:i < ps.length)(h:X3 ps i j T){r:Nat}(hr:r < 16)(k:¬(r:Int) < j):(T r).length+1≤A15 ps:=by
 rw[h r hr,if_neg k,List.append_nil]
 have:=Q6 r (ps.take i.toNat)
 have:=Ab3 h0 h1
 omega
theorem V4{ps:List Past}{i j:Int}{T:Nat→List Run}(h0:0≤i)(h1:i < ps.length)(j0:0≤j)(jl:j <(ps[i.toNat]!).cloud.length)(h:Q5 ps i j T){r:Nat}(hr:r < 16):(T r).length+1≤A15 ps+1∧j+1≤A15 ps:=by
 rw[h r hr,List.length_append,List.length_append]
 have:=Q6 r (ps.take i.toNat)
 have:=Ab3 h0 h1
 have:=Aq9 (ps[i.toNat]!).vec r
 have:=A6q ((ps[i.toNat]!).cloud.take j.toNat) r
 rw[List.length_take]at this
 omega
theorem Ab6(ps:List Past)(hb:A15 ps*16≤140737488351232):A3l Tryz.prog 102 [.sl (ps.map c26)] 152 (.arr (I0 c154 16 (B5 ps))) :=
 by
 refine A1m 0 (c26) (ps) (by kernel_rfl) Tryz.func102 (by kernel_rfl) fun hl_0=>A7u B1 (by kernel_rfl) (.tmp 2) 78 Tryz.func102 (by kernel_rfl) (by kernel_rfl) ?_
 intro e0 cx
 refine sq<|rG cx [0] [] z0<|sn<|sq<|rG cx [0,3] [10] z0<|sn<|sq<|sq<|rG cx [3,11,12,13] [10] (tL 1 c26 ps z0)<|sn<|bL 0<|A1n 10 154 2 101000 16 (σ':=⟨[(3,.ptr (10) (0) (0) (0)),(11,.sl (List.map c26 ps)),(12,.i .i64 ((↑ps.length:Int))),(13,.i .i64 ((0:Int)))],[(10,⟨0,152,.var (G6 101000 16)⟩)]++C7 101000 154 2 16 (c154) (fun x ↦ [])⟩) (by kernel_rfl)<|sL (X:=Int×(Nat→List Run)) (fun x=>⟨[(3,.ptr (10) (0) (0) (0)),(11,.sl (List.map c26 ps)),(12,.i .i64 ((↑ps.length:Int))),(13,.i .i64 (x.1))],[(10,⟨0,152,.var (G6 101000 16)⟩)]++C7 101000 154 2 16 (c154) (x.2)⟩) (fun x ↦ Be4 ps x.1 x.2) (fun x ↦ Ak2 ps x.1 x.2) [3,11,12,13] ([10]++List.range' 101000 16) (((0:Int),fun x ↦ [])) (show Ak2 ps (0:Int) fun x ↦ []from(by exact⟨by omega,by omega,fun r _=>rfl⟩)) ?_
 rintro⟨i0,T1⟩ h_2
 obtain⟨hh3,h4,h5⟩:0≤i0∧i0≤(↑ps.length:Int)∧A6p ps i0 T1:=h_2
 refine rE cx [3,11,12,13,14] ([10]++List.range' 101000 16) (zB 0 (i0 <(↑ps.length:Int))) (fun h6=>?_) fun h6=>?_
 refine sK<|sn<|sq<|bL 1<|sq<|rG cx [3,11,12,13,5] ([10]++List.range' 101000 16++[5]) (fA (0≤i0) (fG c26 ps i0.toNat (fR 2 (fN 2 2 (oR 0 (c26 ps[i0.toNat]!) z0)))))<|sn<|sq<|sq<|rG cx [3,11,12,13,5,20,21] ([10]++List.range' 101000 16++[5]) (tL 2 c3 ps[i0.toNat]!.vec (tT 3 (A3p:AV.i .i64 (if(16:Int) <(↑ps[i0.toNat]!.vec.length:Int)then(16:Int)else(↑ps[i0.toNat]!.vec.length:Int))=AV.i .i64 (min (↑ps[i0.toNat]!.vec.length:Int) (16:Int))) z0))<|sn<|bL 2<|sL (X:=Int×(Nat→List Run)×List Int×List Span) (fun x=>⟨[(3,.ptr (10) (0) (0) (0)),(11,.sl (List.map c26 ps)),(12,.i .i64 ((↑ps.length:Int))),(13,.i .i64 (i0)),(5,.ptr (5) (0) (0) (0)),(20,.i .i64 (min (↑ps[i0.toNat]!.vec.length:Int) (16:Int))),(21,.i .i64 (x.1))],[(10,⟨0,152,.var (G6 101000 16)⟩)]++C7 101000 154 2 16 (c154) (x.2.1)++[(5,⟨0,26,.var [.sl (List.map c3 x.2.2.1),.sl (List.map B7 x.2.2.2)]⟩)]⟩) (fun x ↦ Be5 (min (↑ps[i0.toNat]!.vec.length:Int) (16:Int)) x.1 x.2.1 x.2.2.1 x.2.2.2) (fun x ↦ Ak3 ps i0 (min (↑ps[i0.toNat]!.vec.length:Int) (16:Int)) x.1 x.2.1 x.2.2.1 x.2.2.2) [3,11,12,13,5,20,21] ([10]++List.range' 101000 16++[5]) (((0:Int),T1,ps[i0.toNat]!.vec,ps[i0.toNat]!.cloud)) (show Ak3 ps i0 (min (↑ps[i0.toNat]!.vec.length:Int) (16:Int)) (0:Int) T1 ps[i0.toNat]!.vec ps[i0.toNat]!.cloud from(by exact⟨rfl,rfl,by omega,by omega,A4k h5⟩)) ?_
 rintro⟨j7,T8,v9,c10⟩ h_11
 obtain⟨h12,h13,h14,h15,h16⟩:v9=ps[i0.toNat]!.vec∧c10=ps[i0.toNat]!.cloud∧0≤j7∧j7≤min (↑ps[i0.toNat]!.vec.length:Int) (16:Int)∧X3 ps i0 j7 T8:=h_11
 refine rE cx [3,11,12,13,5,20,21,22] ([10]++List.range' 101000 16++[5]) (zB 0 (j7 < min (↑ps[i0.toNat]!.vec.length:Int) (16:Int))) (fun h17=>?_) fun h17=>?_
 refine sK<|sn<|sq<|bL 3<|sq<|rG cx [3,11,12,13,5,20,21,6] ([10]++List.range' 101000 16++[5]) z0<|sn<|A09 (F:=fun kx=>⟨[(3,.ptr (10) (0) (0) (0)),(11,.sl (List.map c26 ps)),(12,.i .i64 ((↑ps.length:Int))),(13,.i .i64 (i0)),(5,.ptr (5) (0) (0) (0)),(20,.i .i64 (min (↑ps[i0.toNat]!.vec.length:Int) (16:Int))),(21,.i .i64 (kx)),(6,.i .i64 (kx))],[(10,⟨0,152,.var (G6 101000 16)⟩)]++C7 101000 154 2 16 (c154) (T8)++[(5,⟨0,26,.var [.sl (List.map c3 v9),.sl (List.map B7 c10)]⟩)]⟩) (G:=fun kx=>⟨[(3,.ptr (10) (0) (0) (0)),(11,.sl (List.map c26 ps)),(12,.i .i64 ((↑ps.length:Int))),(13,.i .i64 (i0)),(5,.ptr (5) (0) (0) (0)),(20,.i .i64 (min (↑ps[i0.toNat]!.vec.length:Int) (16:Int))),(21,.i .i64 (kx))],[(10,⟨0,152,.var (G6 101000 16)⟩)]++C7 101000 154 2 16 (c154) (N0 T8 kx.toNat (T8 kx.toNat++[{ lo:=(1:Int),hi:=v9[kx.toNat]!:Run }]))++[(5,⟨0,26,.var [.sl (List.map c3 v9),.sl (List.map B7 c10)]⟩)]⟩) (A:=fun kx=>(0≤kx)∧(kx <(↑(16:Nat):Int))∧(0≤kx)∧((List.map c3 v9)[kx.toNat]?=some (c3 v9[kx.toNat]!))∧((c3 v9[kx.toNat]!).length=(1:Nat))∧(154=(154:Nat))∧((2:Nat)=2)∧([AV.i .i64 (0:Int),AV.i .i64 (0:Int)].length=(2:Nat))∧(∀(r:List AV),r∈List.map c154 [{ lo:=(1:Int),hi:=v9[kx.toNat]!:Run }]→r.length=2)∧((List.map c154 (T8 kx.toNat)).length+(List.map c154 [{ lo:=(1:Int),hi:=v9[kx.toNat]!:Run }]).length≤maxLen)∧(((List.map c154 (T8 kx.toNat)).length+(List.map c154 [{ lo:=(1:Int),hi:=v9[kx.toNat]!:Run }]).length)*(16:Nat)≤(140737488355328:Nat))∧(List.map c154 (T8 kx.toNat)++List.map c154 [{ lo:=(1:Int),hi:=v9[kx.toNat]!:Run }]=List.map c154 (T8 kx.toNat++[{ lo:=(1:Int),hi:=v9[kx.toNat]!:Run }]))∧(0≤kx)∧(kx <(↑(16:Nat):Int))) cx (fun kx=>[(10,{ row:=(c3 v9[kx.toNat]!) }),(14,{ rows:=some (List.map c154 (T8 kx.toNat++[{ lo:=(1:Int),hi:=v9[kx.toNat]!:Run }])) })]) [3,11,12,13,5,20,21] ([10]++List.range' 101000 16++[5]) (j7) (by(with_reducible assumption)) (by omega) (by kernel_rfl) (by kernel_rfl) ⟨(by show _=_;kernel_rfl),(by show _=_;kernel_rfl),(by show _=_;kernel_rfl),(by show _=_;kernel_rfl),(by show _=_;kernel_rfl),(by show _=_;kernel_rfl),(by show _=_;kernel_rfl),(by show _=_;kernel_rfl),(by show _=_;kernel_rfl),(by show _=_;kernel_rfl),(by show _=_;kernel_rfl),(by show _=_;kernel_rfl),(by show _=_;kernel_rfl),(by show _=_;kernel_rfl),(by show _=_;kernel_rfl),(by show _=_;kernel_rfl)⟩ ⟨(by(with_reducible assumption)),(by omega),(by(with_reducible assumption)),(by subst_vars;exact F7 (by omega)),(by kernel_rfl),(by kernel_rfl),(by kernel_rfl),(by kernel_rfl),(by(with_reducible refine O4 (fun _=>?_) _;kernel_rfl)),(by have:=A4m hh3 h6 h16 (r:=j7.toNat) (by omega) (by omega);simp only [List.length_map,List.length_cons,List.length_nil,Go.maxLen];omega),(by have:=A4m hh3 h6 h16 (r:=j7.toNat) (by omega) (by omega);simp only [List.length_map,List.length_cons,List.length_nil];omega),(by(with_reducible refine Z3 ?_;kernel_rfl)),(by(with_reducible assumption)),(by omega)⟩ ?_
 refine bN<|sn<|rG cx [3,11,12,13,5,20,21] ([10]++List.range' 101000 16++[5]) (tW 0 (j7+1) z0)<|sn<|nX ((j7+1,N0 T8 j7.toNat (T8 j7.toNat++[{ lo:=(1:Int),hi:=v9[j7.toNat]!:Run }]),v9,c10)) (show(min (↑ps[i0.toNat]!.vec.length:Int) 16-(j7+1)).toNat <(min (↑ps[i0.toNat]!.vec.length:Int) 16-j7).toNat from(by omega)) (show Ak3 ps i0 (min (↑ps[i0.toNat]!.vec.length:Int) (16:Int)) (j7+1) (N0 T8 j7.toNat (T8 j7.toNat++[{ lo:=(1:Int),hi:=v9[j7.toNat]!:Run }])) v9 c10 from(by subst h12 h13;exact⟨rfl,rfl,by omega,by omega,A6r h14 (by omega) h16⟩))
 refine eX 2<|nE<|nE<|bH<|sn<|sq<|rG cx [3,11,12,13,43,44,45] ([10]++List.range' 101000 16) (tL 2 B7 c10 z0)<|sn<|bL 4<|sL (X:=Int×(Nat→List Run)) (fun x=>⟨[(3,.ptr (10) (0) (0) (0)),(11,.sl (List.map c26 ps)),(12,.i .i64 ((↑ps.length:Int))),(13,.i .i64 (i0)),(43,.sl (List.map B7 c10)),(44,.i .i64 ((↑c10.length:Int))),(45,.i .i64 (x.1))],[(10,⟨0,152,.var (G6 101000 16)⟩)]++C7 101000 154 2 16 (c154) (x.2)⟩) (fun x ↦ Be6 ps i0 x.1 x.2) (fun x ↦ A86 ps i0 x.1 x.2) [3,11,12,13,43,44,45] ([10]++List.range' 101000 16) (((0:Int),T8)) (show A86 ps i0 (0:Int) T8 from(by exact⟨by omega,by omega,A4l h15 h17 h16⟩)) ?_
 rintro⟨j18,T19⟩ h_20
 obtain⟨h21,h22,h23⟩:0≤j18∧j18≤(↑ps[i0.toNat]!.cloud.length:Int)∧Q5 ps i0 j18 T19:=h_20
 refine rE cx [3,11,12,13,43,44,45,46] ([10]++List.range' 101000 16) (zB 0 (j18 <(↑c10.length:Int))) (fun h24=>?_) fun h24=>?_
 refine sK<|sn<|sq<|bL 5<|sq<|rG cx [3,11,12,13,43,44,45,8] ([10]++List.range' 101000 16++[8]) (fA (0≤j18) (fG B7 c10 j18.toNat (fR 3 (fN 3 3 (oR 0 (B7 c10[j18.toNat]!) z0)))))<|sn<|sq<|B4 (σ':=⟨[(3,.ptr (10) (0) (0) (0)),(11,.sl (List.map c26 ps)),(12,.i .i64 ((↑ps.length:Int))),(13,.i .i64 (i0)),(43,.sl (List.map B7 c10)),(44,.i .i64 ((↑c10.length:Int))),(45,.i .i64 (j18)),(8,.ptr (8) (0) (0) (0)),(56,.b (decide (0≤c10[j18.toNat]!.rep∧c10[j18.toNat]!.rep <(16:Int))))],[(10,⟨0,152,.var (G6 101000 16)⟩)]++C7 101000 154 2 16 (c154) (T19)++[(8,⟨0,104,.var [.i .i64 (c10[j18.toNat]!.rep),.i .i64 (c10[j18.toNat]!.lo),.i .i64 (c10[j18.toNat]!.hi)]⟩)]⟩) ?_ ?_
 refine A4 (0≤c10[j18.toNat]!.rep) (fun h_26=>?_) (fun h_26=>?_)
 refine rG cx [3,11,12,13,43,44,45,8,56] ([10]++List.range' 101000 16++[8]) (tT 2 (A6 h_26) (tB 6 (c10[j18.toNat]!.rep <(16:Int)) (tD 7 (decide (c10[j18.toNat]!.rep <(16:Int))) (0≤c10[j18.toNat]!.rep∧c10[j18.toNat]!.rep <(16:Int)) (by simp only [eq_true h_26,tsl]) z0))) ?_
 exact⟨rfl,by kernel_rfl⟩
 refine rG cx [3,11,12,13,43,44,45,8,56] ([10]++List.range' 101000 16++[8]) (tT 2 (A3 h_26) (tD 7 false (0≤c10[j18.toNat]!.rep∧c10[j18.toNat]!.rep <(16:Int)) (by simp only [eq_false h_26,tsl]) z0)) ?_
 exact⟨rfl,by kernel_rfl⟩
 refine sn<|dC (0≤c10[j18.toNat]!.rep∧c10[j18.toNat]!.rep <(16:Int)) (fun h27=>?_) fun h27=>?_
 refine A09 (F:=fun kx=>⟨[(3,.ptr (10) (0) (0) (0)),(11,.sl (List.map c26 ps)),(12,.i .i64 ((↑ps.length:Int))),(13,.i .i64 (i0)),(43,.sl (List.map B7 c10)),(44,.i .i64 ((↑c10.length:Int))),(45,.i .i64 (j18)),(8,.ptr (8) (0) (0) (0)),(56,.b (decide (0≤kx∧kx <(16:Int))))],[(10,⟨0,152,.var (G6 101000 16)⟩)]++C7 101000 154 2 16 (c154) (T19)++[(8,⟨0,104,.var [.i .i64 (kx),.i .i64 (c10[j18.toNat]!.lo),.i .i64 (c10[j18.toNat]!.hi)]⟩)]⟩) (G:=fun kx=>⟨[(3,.ptr (10) (0) (0) (0)),(11,.sl (List.map c26 ps)),(12,.i .i64 ((↑ps.length:Int))),(13,.i .i64 (i0)),(43,.sl (List.map B7 c10)),(44,.i .i64 ((↑c10.length:Int))),(45,.i .i64 (j18))],[(10,⟨0,152,.var (G6 101000 16)⟩)]++C7 101000 154 2 16 (c154) (N0 T19 kx.toNat (T19 kx.toNat++[{ lo:=c10[j18.toNat]!.lo,hi:=c10[j18.toNat]!.hi:Run }]))⟩) (A:=fun kx=>(0≤kx)∧(kx <(↑(16:Nat):Int))∧(154=(154:Nat))∧((2:Nat)=2)∧([AV.i .i64 (0:Int),AV.i .i64 (0:Int)].length=(2:Nat))∧(∀(r:List AV),r∈List.map c154 [{ lo:=c10[j18.toNat]!.lo,hi:=c10[j18.toNat]!.hi:Run }]→r.length=2)∧((List.map c154 (T19 kx.toNat)).length+(List.map c154 [{ lo:=c10[j18.toNat]!.lo,hi:=c10[j18.toNat]!.hi:Run }]).length≤maxLen)∧(((List.map c154 (T19 kx.toNat)).length+(List.map c154 [{ lo:=c10[j18.toNat]!.lo,hi:=c10[j18.toNat]!.hi:Run }]).length)*(16:Nat)≤(140737488355328:Nat))∧(List.map c154 (T19 kx.toNat)++List.map c154 [{ lo:=c10[j18.toNat]!.lo,hi:=c10[j18.toNat]!.hi:Run }]=List.map c154 (T19 kx.toNat++[{ lo:=c10[j18.toNat]!.lo,hi:=c10[j18.toNat]!.hi:Run }]))∧(0≤kx)∧(kx <(↑(16:Nat):Int))) cx (fun kx=>[(15,{ rows:=some (List.map c154 (T19 kx.toNat++[{ lo:=c10[j18.toNat]!.lo,hi:=c10[j18.toNat]!.hi:Run }])) })]) [3,11,12,13,43,44,45] ([10]++List.range' 101000 16) (c10[j18.toNat]!.rep) (by omega) (by omega) (by kernel_rfl) (by kernel_rfl) ⟨(by show _=_;kernel_rfl),(by show _=_;kernel_rfl),(by show _=_;kernel_rfl),(by show _=_;kernel_rfl),(by show _=_;kernel_rfl),(by show _=_;kernel_rfl),(by show _=_;kernel_rfl),(by show _=_;kernel_rfl),(by show _=_;kernel_rfl),(by show _=_;kernel_rfl),(by show _=_;kernel_rfl),(by show _=_;kernel_rfl),(by show _=_;kernel_rfl),(by show _=_;kernel_rfl),(by show _=_;kernel_rfl),(by show _=_;kernel_rfl)⟩ ⟨(by omega),(by omega),(by kernel_rfl),(by kernel_rfl),(by kernel_rfl),(by(with_reducible refine O4 (fun _=>?_) _;kernel_rfl)),(by subst h12 h13;have:=V4 hh3 h6 h21 h24 h23 (r:=((ps[i0.toNat]!).cloud[j18.toNat]!).rep.toNat) (by omega);simp only [List.length_map,List.length_cons,List.length_nil,Go.maxLen];omega),(by subst h12 h13;have:=V4 hh3 h6 h21 h24 h23 (r:=((ps[i0.toNat]!).cloud[j18.toNat]!).rep.toNat) (by omega);simp only [List.length_map,List.length_cons,List.length_nil];omega),(by(with_reducible refine Z3 ?_;kernel_rfl)),(by omega),(by omega)⟩ ?_
 refine bN<|sn<|rG cx [3,11,12,13,43,44,45] ([10]++List.range' 101000 16) (tT 0 (B6 (by omega) (by subst h12 h13;have:=V4 hh3 h6 h21 h24 h23 (r:=0) (by omega);omega):AV.i .i64 (IntKind.i64.wrap (j18+1))=AV.i .i64 (j18+1)) z0) ?_
 refine sn<|nX ((j18+1,N0 T19 c10[j18.toNat]!.rep.toNat (T19 c10[j18.toNat]!.rep.toNat++[{ lo:=c10[j18.toNat]!.lo,hi:=c10[j18.toNat]!.hi:Run }]))) (show((↑ps[i0.toNat]!.cloud.length:Int)-(j18+1)).toNat <((↑ps[i0.toNat]!.cloud.length:Int)-j18).toNat from(by subst h12 h13;omega)) (show A86 ps i0 (j18+1) (N0 T19 c10[j18.toNat]!.rep.toNat (T19 c10[j18.toNat]!.rep.toNat++[{ lo:=c10[j18.toNat]!.lo,hi:=c10[j18.toNat]!.hi:Run }]))from(by subst h12 h13;exact⟨by omega,by omega,Ar0 h21 h24 h27 h23⟩))
 refine sK<|bN<|sn<|rG cx [3,11,12,13,43,44,45] ([10]++List.range' 101000 16) (tT 0 (B6 (by omega) (by subst h12 h13;have:=V4 hh3 h6 h21 h24 h23 (r:=0) (by omega);omega):AV.i .i64 (IntKind.i64.wrap (j18+1))=AV.i .i64 (j18+1)) z0) ?_
 refine sn<|nX ((j18+1,T19)) (show((↑ps[i0.toNat]!.cloud.length:Int)-(j18+1)).toNat <((↑ps[i0.toNat]!.cloud.length:Int)-j18).toNat from(by subst h12 h13;omega)) (show A86 ps i0 (j18+1) T19 from(by subst h12 h13;exact⟨by omega,by omega,Ab4 h21 h24 h27 h23⟩))
 refine eX 4<|nE<|nE<|bH<|bN<|sn<|rG cx [3,11,12,13] ([10]++List.range' 101000 16) (tW 0 (i0+1) z0)<|sn<|nX ((i0+1,T19)) (show((↑ps.length:Int)-(i0+1)).toNat <((↑ps.length:Int)-i0).toNat from(by omega)) (show Ak2 ps (i0+1) T19 from(by subst h12 h13;exact⟨by omega,by omega,Ab5 hh3 h6 h24 h23⟩))
 refine eX 0<|nE<|nE<|bH<|sn<|sq<|P3 (List.range' 101000 16) [3,11,12,13,14] [10] (σ':=⟨[(3,.ptr (10) (0) (0) (0)),(11,.sl (List.map c26 ps)),(12,.i .i64 ((↑ps.length:Int))),(13,.i .i64 (i0)),(14,.b (decide (i0 <(↑ps.length:Int))))],[(10,⟨0,152,.var [.sl (List.map c154 (T1 (0))),.sl (List.map c154 (T1 (1))),.sl (List.map c154 (T1 (2))),.sl (List.map c154 (T1 (3))),.sl (List.map c154 (T1 (4))),.sl (List.map c154 (T1 (5))),.sl (List.map c154 (T1 (6))),.sl (List.map c154 (T1 (7))),.sl (List.map c154 (T1 (8))),.sl (List.map c154 (T1 (9))),.sl (List.map c154 (T1 (10))),.sl (List.map c154 (T1 (11))),.sl (List.map c154 (T1 (12))),.sl (List.map c154 (T1 (13))),.sl (List.map c154 (T1 (14))),.sl (List.map c154 (T1 (15)))]⟩)]⟩) (by kernel_rfl)<|N1 10 ⟨0,152,.var [.sl (List.map c154 (T1 (0))),.sl (List.map c154 (T1 (1))),.sl (List.map c154 (T1 (2))),.sl (List.map c154 (T1 (3))),.sl (List.map c154 (T1 (4))),.sl (List.map c154 (T1 (5))),.sl (List.map c154 (T1 (6))),.sl (List.map c154 (T1 (7))),.sl (List.map c154 (T1 (8))),.sl (List.map c154 (T1 (9))),.sl (List.map c154 (T1 (10))),.sl (List.map c154 (T1 (11))),.sl (List.map c154 (T1 (12))),.sl (List.map c154 (T1 (13))),.sl (List.map c154 (T1 (14))),.sl (List.map c154 (T1 (15)))]⟩ [.sl (List.map c154 (T1 (0))),.sl (List.map c154 (T1 (1))),.sl (List.map c154 (T1 (2))),.sl (List.map c154 (T1 (3))),.sl (List.map c154 (T1 (4))),.sl (List.map c154 (T1 (5))),.sl (List.map c154 (T1 (6))),.sl (List.map c154 (T1 (7))),.sl (List.map c154 (T1 (8))),.sl (List.map c154 (T1 (9))),.sl (List.map c154 (T1 (10))),.sl (List.map c154 (T1 (11))),.sl (List.map c154 (T1 (12))),.sl (List.map c154 (T1 (13))),.sl (List.map c154 (T1 (14))),.sl (List.map c154 (T1 (15)))] (I0 c154 16 T1) (σ':=⟨[(3,.ptr (10) (0) (0) (0)),(11,.sl (List.map c26 ps)),(12,.i .i64 ((↑ps.length:Int))),(13,.i .i64 (i0)),(14,.b (decide (i0 <(↑ps.length:Int))))],[(10,⟨0,152,.arr (I0 c154 16 T1)⟩)]⟩) (by kernel_rfl) (by kernel_rfl) (by kernel_rfl) (by kernel_rfl) (ZLe.of_eq (by kernel_rfl)) (by kernel_rfl)<|rG cx [2] [10] z0<|sn<|rT<|qb_ptr (cells':=(I0 c154 16 T1)) .ret (.inr rfl) 2 10 0 (by kernel_rfl) (by kernel_rfl) (by kernel_rfl) ?g16;rotate_left
 case g16 =>
  unfold I0
  refine List.map_congr_left fun r hr=>?_
  rw[h5 r (by simpa using hr),List.take_of_length_le (by omega)]
end Go.Proofs.YtaiepnaokhpmcaaGreat
namespace Go.Proofs.YtaiepnaokhpmcaaGreat
open Go.E
set_option maxRecDepth 100000
set_option maxHeartbeats 4000000
def A5(p:Past):Past:=H3 (B5 [p])
theorem Ak4(p:Past):A15 [p]=p.cloud.length+1:=by simp [A15]
theorem Ab7(p:Past)(hb:p.cloud.length*16≤140737488350000):Con Tryz.prog 107 [.agg (c26 p)] (.agg (c26 (A5 p))) :=
 by
 have h1:=Ak4 p
 have h2:=fun r=>Q6 r [p]
 refine sC B1 [.cell 2 26] 7 Tryz.func107 ?_
 intro e0 cx
 refine sq<|rG cx [1,2] [1,2] z0<|sn<|sq<|rG cx [2] [2] (fT (Ab6 ([p]) ?g0) (fT (Aq8 (B5 [p]) ?g1) (oV 2 { val:=some (.ptr ((152:Nat)) (0) (0) (0)),row:=(I0 c154 16 (B5 [p])) } (oA 3 (.agg [.sl (List.map c3 (H3 (B5 [p])).vec),.sl (List.map B7 (H3 (B5 [p])).cloud)]) z0)))) ?_;rotate_left 2
 refine sn<|rT<|qR (.agg [.sl (List.map c3 (H3 (B5 [p])).vec),.sl (List.map B7 (H3 (B5 [p])).cloud)]) (.eq ?g2);rotate_left
 all_goals
  ( intros <;> first
  | omega
  | exact rfl
  | (have:=h2 ‹Nat›;omega))
end Go.Proofs.YtaiepnaokhpmcaaGreat
namespace Go.Proofs.YtaiepnaokhpmcaaGreat
open Go.E
set_option maxRecDepth 100000
set_option maxHeartbeats 4000000
def Bn6{α:Type}[Inhabited α](a b:List α)(i:Int):Prop:=0≤i∧i≤a.length∧a.length=b.length∧∀ j:Nat,(j:Int) < i→a[j]! = b[j]!
def decE{α:Type}(a b:List α)(i:Int):Nat:=(a.length-i).toNat
theorem V5{α:Type}[Inhabited α]{a b:List α}(hl:a.length=b.length)(h:∀ j:Nat,j < a.length→a[j]! = b[j]!):a=b:=by
 apply List.ext_getElem hl
 intro j h1 h2
 have:=h j h1
 rwa [getElem!_pos a j h1,getElem!_pos b j h2]at this
theorem B9a(a b:List Int):Con Tryz.prog 130 [.sl (a.map c3),.sl (b.map c3)] (.b (decide (a=b))) :=
 by
 refine lN 0 c3 (a) Tryz.func130 fun hl_0=>lN 1 c3 (b) Tryz.func130 fun hl_1=>sC B1 [.tmp 4] 26 Tryz.func130 ?_
 intro e0 cx
 refine sq<|rG cx [0,1] [] z0<|sn<|sq<|sq<|rG cx [0,1,10] [] (tL 1 c3 a (tL 3 c3 b (tN 4 (↑a.length:Int) (↑b.length:Int) z0)))<|sn<|dC (¬(↑a.length:Int)=(↑b.length:Int)) (fun hh0=>?_) fun hh0=>?_
 refine sq<|rG cx [4] [] z0<|sn<|rT<|nR<|qR (.b (false)) (.eq (by exact(by rw[decide_eq_false (fun k=>hh0 (by rw[k]))])))
 refine sK<|sn<|sq<|sq<|rG cx [0,1,12,13] [] (tL 1 c3 a z0)<|sn<|bL 0<|sL (X:=Int) (fun x=>⟨[(0,.sl (List.map c3 a)),(1,.sl (List.map c3 b)),(12,.i .i64 ((↑a.length:Int))),(13,.i .i64 (x))],[]⟩) (fun x ↦ decE a b x) (fun x ↦ Bn6 a b x) [0,1,12,13] [] ((0:Int)) (show Bn6 a b (0:Int)from(by exact⟨by omega,by omega,by omega,fun j hj=>by omega⟩)) ?_
 intro i1 h_2
 obtain⟨hh3,hh4,hh5,h6⟩:0≤i1∧i1≤(↑a.length:Int)∧a.length=b.length∧∀(j:Nat),(↑j:Int) < i1→a[j]! = b[j]!:=h_2
 refine rE cx [0,1,12,13,14] [] (zB 0 (i1 <(↑a.length:Int))) (fun h7=>?_) fun h7=>?_
 refine sK<|sn<|sq<|bL 1<|sq<|rG cx [0,1,12,13,5] [] z0<|sn<|sq<|rA cx [0,1,12,13,24] [] (fA (0≤i1) (fG c3 a i1.toNat (fR 1 (fA (0≤i1) (fG c3 b i1.toNat (fR 1 (tN 8 a[i1.toNat]! b[i1.toNat]! (oR 2 (c3 a[i1.toNat]!) (oR 6 (c3 b[i1.toNat]!) z0)))))))))<|sn<|dC (¬a[i1.toNat]! = b[i1.toNat]!) (fun h8=>?_) fun h8=>?_
 refine sq<|rG cx [4] [] z0<|sn<|rT<|bR<|nR<|nR<|bR<|nR<|qR (.b (false)) (.eq (by exact(by rw[decide_eq_false (fun k=>h8 (by rw[k]))])))
 refine sK<|bN<|sn<|rG cx [0,1,12,13] [] (tW 0 (i1+1) z0)<|sn<|nX (i1+1) (show((↑a.length:Int)-(i1+1)).toNat <((↑a.length:Int)-i1).toNat from(by omega)) (show Bn6 a b (i1+1)from ?g3);rotate_left
 refine eX 0<|nE<|nE<|bH<|sn<|sq<|rG cx [4] [] z0<|sn<|rT<|qR (.b (true)) (.eq (by exact(by rw[decide_eq_true (V5 hh5 fun j hj=>h6 j (by omega))])))
 case g3=>revert hh0 i1 hh3 hh4 hh5 h6 h7 h8;exact(fun h i h0 h1 h2 h3 h4 h5=>⟨by omega,by omega,h2,fun j hj=>by
   by_cases e:j=i.toNat
   ·rw[e];exact Classical.not_not.1 h5
   ·exact h3 j (by omega)⟩)
theorem con131(a b:List Span):Con Tryz.prog 131 [.sl (a.map B7),.sl (b.map B7)] (.b (decide (a=b))) :=
 by
 refine lN 0 B7 (a) Tryz.func131 fun hl_0=>lN 1 B7 (b) Tryz.func131 fun hl_1=>sC B1 [.tmp 4] 26 Tryz.func131 ?_
 intro e0 cx
 refine sq<|rG cx [0,1] [] z0<|sn<|sq<|sq<|rG cx [0,1,10] [] (tL 1 B7 a (tL 3 B7 b (tN 4 (↑a.length:Int) (↑b.length:Int) z0)))<|sn<|dC (¬(↑a.length:Int)=(↑b.length:Int)) (fun hh0=>?_) fun hh0=>?_
 refine sq<|rG cx [4] [] z0<|sn<|rT<|nR<|qR (.b (false)) (.eq (by exact(by rw[decide_eq_false (fun k=>hh0 (by rw[k]))])))
 refine sK<|sn<|sq<|sq<|rG cx [0,1,12,13] [] (tL 1 B7 a z0)<|sn<|bL 0<|sL (X:=Int) (fun x=>⟨[(0,.sl (List.map B7 a)),(1,.sl (List.map B7 b)),(12,.i .i64 ((↑a.length:Int))),(13,.i .i64 (x))],[]⟩) (fun x ↦ decE a b x) (fun x ↦ Bn6 a b x) [0,1,12,13] [] ((0:Int)) (show Bn6 a b (0:Int)from(by exact⟨by omega,by omega,by omega,fun j hj=>by omega⟩)) ?_
 intro i1 h_2
 obtain⟨hh3,hh4,hh5,h6⟩:0≤i1∧i1≤(↑a.length:Int)∧a.length=b.length∧∀(j:Nat),(↑j:Int) < i1→a[j]! = b[j]!:=h_2
 refine rE cx [0,1,12,13,14] [] (zB 0 (i1 <(↑a.length:Int))) (fun h7=>?_) fun h7=>?_
 refine sK<|sn<|sq<|bL 1<|sq<|rG cx [0,1,12,13,5] [] z0<|sn<|sq<|rA cx [0,1,12,13,24] [] (fA (0≤i1) (fG B7 a i1.toNat (fR 3 (fN 3 3 (fA (0≤i1) (fG B7 b i1.toNat (fR 3 (fN 3 3 (fT (V1 (eq104 a[i1.toNat]! b[i1.toNat]!)) (oR 2 (B7 a[i1.toNat]!) (oR 6 (B7 b[i1.toNat]!) (oA 8 (.b (decide ¬a[i1.toNat]! = b[i1.toNat]!)) z0))))))))))))<|sn<|dC (¬a[i1.toNat]! = b[i1.toNat]!) (fun h8=>?_) fun h8=>?_
 refine sq<|rG cx [4] [] z0<|sn<|rT<|bR<|nR<|nR<|bR<|nR<|qR (.b (false)) (.eq (by exact(by rw[decide_eq_false (fun k=>h8 (by rw[k]))])))
 refine sK<|bN<|sn<|rG cx [0,1,12,13] [] (tW 0 (i1+1) z0)<|sn<|nX (i1+1) (show((↑a.length:Int)-(i1+1)).toNat <((↑a.length:Int)-i1).toNat from(by omega)) (show Bn6 a b (i1+1)from ?g3);rotate_left
 refine eX 0<|nE<|nE<|bH<|sn<|sq<|rG cx [4] [] z0<|sn<|rT<|qR (.b (true)) (.eq (by exact(by rw[decide_eq_true (V5 hh5 fun j hj=>h6 j (by omega))])))
 case g3=>revert hh0 i1 hh3 hh4 hh5 h6 h7 h8;exact(fun h i h0 h1 h2 h3 h4 h5=>⟨by omega,by omega,h2,fun j hj=>by
   by_cases e:j=i.toNat
   ·rw[e];exact Classical.not_not.1 h5
   ·exact h3 j (by omega)⟩)
theorem B2f(p:Past)(hb:p.cloud.length*16≤140737488350000):Con Tryz.prog 82 [.agg (c26 p)] (.b (decide (p=A5 p))) :=
 by
 refine sC B1 [.tmp 2] 18 Tryz.func82 ?_
 intro e0 cx
 refine sq<|rG cx [1] [1] z0<|sn<|sq<|rG cx [1,3] [1,3] (fT (Ab7 (p) (by(with_reducible assumption))) (oA 1 (.agg [.sl (List.map c3 (A5 p).vec),.sl (List.map B7 (A5 p).cloud)]) z0))<|sn<|sq<|B4 (σ':=⟨[(2,.b (decide (p.vec=(A5 p).vec∧p.cloud=(A5 p).cloud)))],[]⟩) ?_ ?_
 refine A4 (p.vec=(A5 p).vec) (fun h_1=>?_) (fun h_1=>?_)
 refine rg (A:=_∧_∧_∧(AV.b (decide (p.cloud=(A5 p).cloud))=AV.b (decide (p.vec=(A5 p).vec∧p.cloud=(A5 p).cloud)))) cx [(4,{ val:=some (.b (decide (p.vec=(A5 p).vec))),tell:=some (.b (true)) }),(10,{ val:=some (.b (decide (p.cloud=(A5 p).cloud))) }),(12,{ tell:=some (.b (decide (p.vec=(A5 p).vec∧p.cloud=(A5 p).cloud))) })] [2] [] ⟨(A6 h_1),(B9a (p.vec) ((A5 p).vec)),(con131 (p.cloud) ((A5 p).cloud)),(by simp only [eq_true h_1,tsl])⟩ ?_
 exact⟨rfl,by kernel_rfl⟩
 refine rg (A:=_∧_∧(AV.b false=AV.b (decide (p.vec=(A5 p).vec∧p.cloud=(A5 p).cloud)))) cx [(4,{ val:=some (.b (decide (p.vec=(A5 p).vec))),tell:=some (.b (false)) }),(12,{ tell:=some (.b (decide (p.vec=(A5 p).vec∧p.cloud=(A5 p).cloud))) })] [2] [] ⟨(A3 h_1),(B9a (p.vec) ((A5 p).vec)),(by simp only [eq_false h_1,tsl])⟩ ?_
 exact⟨rfl,by kernel_rfl⟩
 refine sn<|rT<|qR (.b (decide (p.vec=(A5 p).vec∧p.cloud=(A5 p).cloud))) (.eq ?g0);rotate_left
 case' g0=>refine(by
  congr 1
  refine decide_eq_decide.2 ?_
  generalize A5 p=q
  cases p;cases q;simp)
end Go.Proofs.YtaiepnaokhpmcaaGreat
namespace Go.Proofs.YtaiepnaokhpmcaaGreat
open Go.E
set_option maxRecDepth 100000
set_option maxHeartbeats 4000000
def A64(s:Span)(d:Dot):Bool:=decide (s.rep=d.rep∧s.lo≤d.num∧d.num≤s.hi)
def Ar1(c:List Span)(d:Dot):Int:=if c.any (fun s=>A64 s d)=true then(c.findIdx (fun s=>A64 s d):Int)else -1
def invI(c:List Span)(d:Dot)(i:Int):Prop:=0≤i∧i≤c.length∧∀ j:Nat,(j:Int) < i→A64 c[j]! d=false
def decI(c:List Span)(d:Dot)(i:Int):Nat:=(c.length-i).toNat
def C5(p:Past)(d:Dot):Bool:=A0f d && (decide (d.rep < p.vec.length∧d.num≤p.vec[d.rep.toNat]!) || p.cloud.any fun s=>A64 s d)
theorem idx_at{c:List Span}{d:Dot}:∀ {i:Nat},i < c.length→A64 c[i]! d=true→(∀ j:Nat,j < i→A64 c[j]! d=false)→Ar1 c d=i:=by
 intro i hi h hn
 have hany:c.any (fun s=>A64 s d)=true:=List.any_eq_true.2 ⟨c[i]!,D6 hi,h⟩
 unfold Ar1
 rw[if_pos hany]
 have:c.findIdx (fun s=>A64 s d)=i:=by
  rw[List.findIdx_eq hi]
  refine⟨by rwa [getElem!_pos c i hi]at h,fun j hj=>?_⟩
  have:=hn j hj
  rwa [getElem!_pos c j (by omega)]at this
 rw[this]
theorem B9b{c:List Span}{d:Dot}(h:∀ j:Nat,j < c.length→A64 c[j]! d=false):Ar1 c d=-1:=by
 unfold Ar1
 rw[if_neg]
 intro k
 obtain⟨x,hx,hk⟩:=List.any_eq_true.1 k
 obtain⟨j,hj,rfl⟩:=List.mem_iff_getElem.1 hx
 have:=h j hj
 rw[getElem!_pos c j hj]at this
 rw[this]at hk
 cases hk
theorem B2g(c:List Span)(d:Dot):decide (0≤Ar1 c d)=c.any fun s=>A64 s d:=by
 unfold Ar1
 cases h:c.any fun s=>A64 s d with
 | true=>rw[if_pos rfl];simp
 | false=>rw[if_neg (by simp)];rfl
theorem con156(s:Span)(d:Dot):Con Tryz.prog 156 [.agg (B7 s),.eptr (c43 d)] (.b (A64 s d)) :=
 by
 refine sC B1 [.tmp 3] 23 Tryz.func156 ?_
 intro e0 cx
 refine sq<|rG cx [1,2] [2] z0<|sn<|sq<|B4 (σ':=⟨[(3,.b (decide (s.rep=d.rep∧s.lo≤d.num∧d.num≤s.hi)))],[]⟩) ?_ ?_
 refine A4 (s.rep=d.rep) (fun h_1=>?_) (fun h_1=>?_)
 refine A4 (s.lo≤d.num) (fun h_2=>?_) (fun h_2=>?_)
 refine rG cx [3] [] (tT 4 (A6 h_1) (tT 10 (A6 h_2) (tB 17 (d.num≤s.hi) (tD 19 (decide (d.num≤s.hi)) (s.rep=d.rep∧s.lo≤d.num∧d.num≤s.hi) (by simp only [eq_true h_1,eq_true h_2,tsl]) z0)))) ?_
 exact⟨rfl,by kernel_rfl⟩
 refine rG cx [3] [] (tT 4 (A6 h_1) (tT 10 (A3 h_2) (tD 19 false (s.rep=d.rep∧s.lo≤d.num∧d.num≤s.hi) (by simp only [eq_true h_1,eq_false h_2,tsl]) z0))) ?_
 exact⟨rfl,by kernel_rfl⟩
 refine rG cx [3] [] (tT 4 (A3 h_1) (tD 19 false (s.rep=d.rep∧s.lo≤d.num∧d.num≤s.hi) (by simp only [eq_false h_1,tsl]) z0)) ?_
 exact⟨rfl,by kernel_rfl⟩
 refine sn<|rT<|qR (.b (decide (s.rep=d.rep∧s.lo≤d.num∧d.num≤s.hi))) (.eq ?g0);rotate_left
 case g0=>exact rfl
theorem con191(c:List Span)(d:Dot):Con Tryz.prog 191 [.sl (c.map B7),.fn (.func 156) [] [.eptr (c43 d)]] (.i .i64 (Ar1 c d)) :=
 by
 refine lN 0 B7 (c) Tryz.func191 fun hl_0=>sC B1 [.tmp 4] 19 Tryz.func191 ?_
 intro e0 cx
 refine sq<|rG cx [0,1] [] z0<|sn<|sq<|sq<|rG cx [0,1,7,8] [] (tL 1 B7 c z0)<|sn<|bL 0<|sL (X:=Int) (fun x=>⟨[(0,.sl (List.map B7 c)),(1,.fn (Fn.func (156:FuncId)) [] [.eptr [.i .i64 (d.rep),.i .i64 (d.num)]]),(7,.i .i64 ((↑c.length:Int))),(8,.i .i64 (x))],[]⟩) (fun x ↦ decI c d x) (fun x ↦ invI c d x) [0,1,7,8] [] ((0:Int)) (show invI c d (0:Int)from(by exact⟨by omega,by omega,fun j hj=>by omega⟩)) ?_
 intro i0 h_1
 obtain⟨hh2,hh3,hh4⟩:0≤i0∧i0≤(↑c.length:Int)∧∀(j:Nat),(↑j:Int) < i0→A64 c[j]! d=false:=h_1
 refine rE cx [0,1,7,8,9] [] (zB 0 (i0 <(↑c.length:Int))) (fun h5=>?_) fun h5=>?_
 refine sK<|sn<|sq<|bL 1<|sq<|rG cx [0,1,7,8,5] [] z0<|sn<|sq<|rG cx [0,1,7,8,5,16] [] (fA (0≤i0) (fG B7 c i0.toNat (fR 3 (fN 3 3 (fT (con156 (c[i0.toNat]!) (d)) (oR 3 (B7 c[i0.toNat]!) (oA 5 (.b (A64 c[i0.toNat]! d)) z0)))))))<|sn<|W8 (A64 c[i0.toNat]! d) (by kernel_rfl) (by kernel_rfl) (fun h6=>?_) (fun h6=>?_)
 refine sq<|rG cx [4] [] z0<|sn<|rT<|bR<|nR<|nR<|bR<|nR<|qR (.i .i64 (i0)) (.eq ?g1);rotate_left
 refine sK<|bN<|sn<|rG cx [0,1,7,8] [] (tW 0 (i0+1) z0)<|sn<|nX (i0+1) (show((↑c.length:Int)-(i0+1)).toNat <((↑c.length:Int)-i0).toNat from(by omega)) (show invI c d (i0+1)from ?g2);rotate_left
 refine eX 0<|nE<|nE<|bH<|sn<|sq<|rG cx [4] [] z0<|sn<|rT<|qR (.i .i64 ((-1:Int))) (.eq (by exact(by rw[B9b fun j hj=>hh4 j (by omega)])))
 case g1=>revert i0 hh2 hh3 hh4 h5 h6;exact(fun i h0 h1 h2 h3 h4=>by rw[idx_at (i:=i.toNat) (by omega) h4 (fun j hj=>h2 j (by omega)),show((i.toNat:Nat):Int)=i by omega])
 case g2=>revert i0 hh2 hh3 hh4 h5 h6;exact(fun i h0 h1 h2 h3 h4=>⟨by omega,by omega,fun j hj=>by
   by_cases e:j=i.toNat
   ·rw[e];exact h4
   ·exact h2 j (by omega)⟩)
theorem con155(c:List Span)(d:Dot):Con Tryz.prog 155 [.sl (c.map B7),.fn (.func 156) [] [.eptr (c43 d)]] (.b (decide (0≤Ar1 c d))) :=
 by
 refine lN 0 B7 (c) Tryz.func155 fun hl_0=>sC B1 [.tmp 4] 9 Tryz.func155 ?_
 intro e0 cx
 refine sq<|rG cx [0,1] [] z0<|sn<|sq<|rG cx [4] [] (fT (con191 (c) (d)) (tB 3 (0≤Ar1 c d) (oA 2 (.i .i64 (Ar1 c d)) z0)))<|sn<|rT ?_
 exact A3f (r:=.b (decide (0≤Ar1 c d))) (obl:=[]) (by kernel_rfl) trivial (B8.refl _)
theorem B2h(p:Past)(d:Dot):Con Tryz.prog 115 [.agg (c26 p),.agg (c43 d)] (.b (C5 p d)) :=
 by
 refine sC B1 [.tmp 4] 29 Tryz.func115 ?_
 intro e0 cx
 refine sq<|rG cx [2,3] [2,3] z0<|sn<|sq<|sq<|rG cx [2,3,7] [2,3] (fT (B99 (d)) (tT 2 (D0:(AV.b !A0f d)=AV.b (decide ¬A0f d=true)) (oA 1 (.b (A0f d)) z0)))<|sn<|dC (¬A0f d=true) (fun h0=>?_) fun h0=>?_
 refine sq<|rG cx [4] [] z0<|sn<|rT<|nR<|qR (.b (false)) (.eq (by unfold C5;rw[Bool.eq_false_iff.2 h0];rfl))
 refine sK<|sn<|sq<|sq<|B4 (σ':=⟨[(2,.ptr (2) (0) (0) (0)),(3,.ptr (3) (0) (0) (0)),(24,.b (decide (d.rep <(↑p.vec.length:Int)∧d.num≤p.vec[d.rep.toNat]!)))],[(2,⟨0,26,.var [.sl (List.map c3 p.vec),.sl (List.map B7 p.cloud)]⟩),(3,⟨0,43,.var [.i .i64 (d.rep),.i .i64 (d.num)]⟩)]⟩) ?_ ?_
 refine A4 (d.rep <(↑p.vec.length:Int)) (fun h2=>?_) (fun h2=>?_)
 refine rA cx [2,3,24] [2,3] (tL 4 c3 p.vec (tT 5 (A6 h2) (fP (0≤d.rep) (by exact(H5 (Classical.not_not.1 h0)).1) (fP ((List.map c3 p.vec)[d.rep.toNat]?=some (c3 p.vec[d.rep.toNat]!)) (by have:=(H5 (Classical.not_not.1 h0)).1;exact F7 (by omega)) (fR 1 (tB 15 (d.num≤p.vec[d.rep.toNat]!) (tD 16 (decide (d.num≤p.vec[d.rep.toNat]!)) (d.rep <(↑p.vec.length:Int)∧d.num≤p.vec[d.rep.toNat]!) (by simp only [eq_true h2,tsl]) (oR 13 (c3 p.vec[d.rep.toNat]!) z0)))))))) ?_
 exact⟨rfl,by kernel_rfl⟩
 refine rA cx [2,3,24] [2,3] (tL 4 c3 p.vec (tT 5 (A3 h2) (tD 16 false (d.rep <(↑p.vec.length:Int)∧d.num≤p.vec[d.rep.toNat]!) (by simp only [eq_false h2,tsl]) z0))) ?_
 exact⟨rfl,by kernel_rfl⟩
 refine sn<|dC (d.rep <(↑p.vec.length:Int)∧d.num≤p.vec[d.rep.toNat]!) (fun h3=>?_) fun h3=>?_
 refine sq<|rG cx [4] [] z0<|sn<|rT<|nR<|qR (.b (true)) (.eq (by unfold C5;rw[Classical.not_not.1 h0,decide_eq_true h3];rfl))
 refine sK<|sn<|sq<|rG cx [4] [] (fP (Flat (AV.b (decide (0≤Ar1 p.cloud d)))) (by exact Flat.b _) (fT (con155 (p.cloud) (d)) (oV 3 { val:=some (.b (decide (0≤Ar1 p.cloud d))),flat:=true } z0)))<|sn<|rT<|qR (.b (decide (0≤Ar1 p.cloud d))) (.eq (by unfold C5;rw[Classical.not_not.1 h0,decide_eq_false h3,B2g];simp))
end Go.Proofs.YtaiepnaokhpmcaaGreat
namespace Go.Proofs.YtaiepnaokhpmcaaGreat
open Go.E
set_option maxRecDepth 100000
set_option maxHeartbeats 4000000
def F3(T:Nat→List Run)(r:Nat):List Run:=nrm (T r)
theorem S8(r:Run)(R:List Run)(n:Int):inR (r :: R) n↔(r.lo≤n∧n≤r.hi)∨inR R n:=by simp [inR]
theorem Ar2{l:List Run}(h:V3 l):nrm l=l:=by
 refine A0d (E8 l) h fun n=>?_
 rw[Y5]
 constructor
 ·exact fun k=>k.2.2
 ·rintro⟨r,hr,h1,h2⟩
  have:=h.2 r hr
  exact⟨by omega,by omega,r,hr,h1,h2⟩
theorem A1s:C2 []=(0,[]):=rfl
theorem Ak5(l:List Run):nrm (nrm l)=nrm l:=Ar2 (E8 l)
theorem A87(T:Nat→List Run):H3 (F3 T)=H3 T:=by
 have h1:∀ r,A0o (F3 T) r=A0o T r:=fun r=>by unfold A0o F3;rw[Ak5]
 have h2:∀ r,X2 (F3 T) r=X2 T r:=fun r=>by unfold X2 F3;rw[Ak5]
 have h3:∀ n,szT (F3 T) n=szT T n:=fun n=>by
  induction n with
  | zero=>rfl
  | succ n ih=>rw[szT,szT,h1,ih]
 have h4:∀ n,J3 (F3 T) n=J3 T n:=fun n=>by
  induction n with
  | zero=>rfl
  | succ n ih=>rw[J3,J3,h2,ih]
 have h5:A6m (F3 T) 16=A6m T 16:=by
  unfold A6m
  congr 1
  exact List.map_congr_left fun r _=>h1 r
 unfold H3
 rw[h3,h4,h5]
theorem B6i(T:Nat→List Run):∀ r:Nat,r < 16→V3 (F3 T r):=fun r _=>E8 _
theorem Be7 {l : List Run} (h : V3 l) {n : Int} (hn : 1 ≤ n) : inR l n ↔ n ≤ (C2 l).1 ∨ inR (C2 l).2 n := by
  cases l with
  | nil => rw [A1s]; simp only [inR]; constructor
           · rintro⟨r,hr,_⟩;cases hr
           · rintro (k | ⟨r, hr, _⟩)
             · omega
             · cases hr
  | cons x l =>
    rw[S8]
    unfold C2
    by_cases hx:x.lo=1
    · rw [if_neg (by simpa using hx)]
      show _↔n≤x.hi∨inR l n
      constructor
      · rintro (k | k)
        · exact .inl k.2
        · exact .inr k
      · rintro (k | k)
        · exact .inl ⟨by omega,k⟩
        · exact .inr k
    · rw [if_pos (.inr (by simpa using hx))]
      show _↔n≤0∨inR (x :: l) n
      rw[S8]
      constructor
      · exact fun k=>.inr k
      · rintro (k | k)
        · omega
        · exact k
theorem A4n(T:Nat→List Run):∀ n:Nat,0≤szT T n∧szT T n≤n∧∀ r:Nat,r < n→szT T n≤r→¬ 0 < A0o T r
 | 0=>⟨by simp [szT],by simp [szT],fun r hr=>by omega⟩
 | n+1=>by
  obtain⟨h1,h2,h3⟩:=A4n T n
  rw[szT]
  split
  ·exact⟨by omega,by omega,fun r hr k=>by omega⟩
  ·rename_i hn
   refine⟨h1,by omega,fun r hr k=>?_⟩
   by_cases e:r=n
   ·rw[e];exact hn
   ·exact h3 r (by omega) k
theorem A4o(T:Nat→List Run)(s:Span):∀ n:Nat,s∈J3 T n↔∃ r:Nat,r < n∧s∈X2 T r
 | 0=>by simp [J3]
 | n+1=>by
  rw[J3,List.mem_append,A4o T s n]
  constructor
  ·rintro(⟨r,h1,h2⟩ | h)
   ·exact⟨r,by omega,h2⟩
   ·exact⟨n,by omega,h⟩
  ·rintro⟨r,h1,h2⟩
   by_cases e:r=n
   ·exact .inr (e ▸ h2)
   ·exact .inl ⟨r,by omega,h2⟩
theorem B2i(T:Nat→List Run){r:Nat}(h:(r:Int) < szT T 16):(H3 T).vec[r]! = A0o T r∧r <(H3 T).vec.length:=by
 have h2:=(A4n T 16).2.1
 have hl:(A6m T 16).length=16:=by simp [A6m]
 have hr:r <((A6m T 16).take (szT T 16).toNat).length:=by rw[List.length_take,hl];omega
 refine⟨?_,hr⟩
 show((A6m T 16).take (szT T 16).toNat)[r]! = _
 rw[getElem!_pos ((A6m T 16).take (szT T 16).toNat) r hr,List.getElem_take]
 unfold A6m
 rw[List.getElem_append_left (by simp;omega)]
 simp
theorem Ak6(T:Nat→List Run):((H3 T).vec.length:Int)=szT T 16:=by
 have h2:=A4n T 16
 show(((A6m T 16).take (szT T 16).toNat).length:Int)=_
 rw[List.length_take]
 simp [A6m]
 omega
theorem X4(T:Nat→List Run)(d:Dot):C5 (H3 T) d=true↔A0f d=true∧inR (T d.rep.toNat) d.num:=by
 unfold C5
 rw[Bool.and_eq_true]
 refine and_congr_right fun hd=>?_
 have hb:=H5 hd
 have e1:inR (T d.rep.toNat) d.num↔inR (nrm (T d.rep.toNat)) d.num:=by
  rw[Y5]
  exact⟨fun k=>⟨by omega,by omega,k⟩,fun k=>k.2.2⟩
 rw[e1,Be7 (E8 _) (by omega),Bool.or_eq_true,decide_eq_true_eq]
 refine or_congr ?_ ?_
 ·rw[Ak6]
  constructor
  ·rintro⟨h1,h2⟩
   have:=(B2i T (r:=d.rep.toNat) (by omega)).1
   rw[this]at h2
   exact h2
  ·intro k
   have k:d.num≤A0o T d.rep.toNat:=k
   have h1:d.rep < szT T 16:=by
    apply Classical.byContradiction
    intro hn
    have:=(A4n T 16).2.2 d.rep.toNat (by omega) (by omega)
    omega
   refine⟨h1,?_⟩
   rw[(B2i T (r:=d.rep.toNat) (by omega)).1]
   exact k
 ·rw[List.any_eq_true]
  unfold A64
  constructor
  ·rintro⟨s,hs,h⟩
   rw[decide_eq_true_eq]at h
   obtain⟨r,hr,hs⟩:=(A4o T s 16).1 hs
   unfold X2 at hs
   obtain⟨x,hx,rfl⟩:=List.mem_map.1 hs
   simp only at h
   have:r=d.rep.toNat:=by omega
   subst this
   exact⟨x,hx,h.2.1,h.2.2⟩
  ·rintro⟨x,hx,h1,h2⟩
   refine⟨⟨d.rep.toNat,x.lo,x.hi⟩,(A4o T _ 16).2 ⟨d.rep.toNat,by omega,List.mem_map.2 ⟨x,hx,rfl⟩⟩,?_⟩
   rw[decide_eq_true_eq]
   exact⟨by show((d.rep.toNat:Nat):Int)=d.rep;omega,h1,h2⟩
theorem A88(a b:List Run)(n:Int):inR (a++b) n↔inR a n∨inR b n:=by
 unfold inR
 constructor
 ·rintro⟨y,hy,h⟩
  rcases List.mem_append.1 hy with hy | hy
  ·exact .inl ⟨y,hy,h⟩
  ·exact .inr ⟨y,hy,h⟩
 ·rintro(⟨y,hy,h⟩ | ⟨y,hy,h⟩)
  ·exact⟨y,List.mem_append.2 (.inl hy),h⟩
  ·exact⟨y,List.mem_append.2 (.inr hy),h⟩
theorem Be8{p:Past}{d:Dot}(hd:A0f d=true):inR (Az3 p.vec d.rep.toNat) d.num↔(d.rep < p.vec.length∧d.num≤p.vec[d.rep.toNat]!):=by
 have hb:=H5 hd
 unfold Az3 inR
 split
 ·simp only [List.mem_singleton,exists_eq_left]
  constructor
  ·exact fun k=>⟨by omega,k.2⟩
  ·exact fun k=>⟨by omega,k.2⟩
 ·constructor
  ·rintro⟨r,hr,_⟩;cases hr
  ·rintro⟨h,_⟩;omega
theorem B2j{p:Past}{d:Dot}(hd:A0f d=true):inR (S7 p.cloud d.rep.toNat) d.num↔(p.cloud.any fun s=>A64 s d)=true:=by
 have hb:=H5 hd
 rw[List.any_eq_true]
 unfold inR S7 A64
 constructor
 ·rintro⟨x,hx,h1,h2⟩
  obtain⟨s,hs,rfl⟩:=List.mem_map.1 hx
  obtain⟨hs,hq⟩:=List.mem_filter.1 hs
  rw[decide_eq_true_eq]at hq
  exact⟨s,hs,by rw[decide_eq_true_eq];exact⟨by omega,h1,h2⟩⟩
 ·rintro⟨s,hs,h⟩
  rw[decide_eq_true_eq]at h
  exact⟨⟨s.lo,s.hi⟩,List.mem_map.2 ⟨s,List.mem_filter.2 ⟨hs,by rw[decide_eq_true_eq];omega⟩,rfl⟩,h.2.1,h.2.2⟩
theorem B9c(p:Past)(d:Dot):C5 p d=true↔A0f d=true∧(inR (Az3 p.vec d.rep.toNat) d.num∨inR (S7 p.cloud d.rep.toNat) d.num):=by
 unfold C5
 rw[Bool.and_eq_true]
 refine and_congr_right fun hd=>?_
 rw[Be8 hd,B2j hd,Bool.or_eq_true,decide_eq_true_eq]
theorem Ar3(ps:List Past)(d:Dot):C5 (H3 (B5 ps)) d=true↔∃ p∈ps,C5 p d=true:=by
 rw[X4]
 have e:inR (B5 ps d.rep.toNat) d.num↔∃ p∈ps,inR (Az3 p.vec d.rep.toNat++S7 p.cloud d.rep.toNat) d.num:=by
  unfold inR B5
  constructor
  ·rintro⟨r,hr,h⟩
   obtain⟨l,hl,hr⟩:=List.mem_flatten.1 hr
   obtain⟨p,hp,rfl⟩:=List.mem_map.1 hl
   exact⟨p,hp,r,hr,h⟩
  ·rintro⟨p,hp,r,hr,h⟩
   exact⟨r,List.mem_flatten.2 ⟨_,List.mem_map.2 ⟨p,hp,rfl⟩,hr⟩,h⟩
 rw[e]
 constructor
 ·rintro⟨hd,p,hp,h⟩
  rw[A88]at h
  exact⟨p,hp,(B9c p d).2 ⟨hd,h⟩⟩
 ·rintro⟨p,hp,h⟩
  have:=(B9c p d).1 h
  exact⟨this.1,p,hp,(A88 _ _ _).2 this.2⟩
theorem X5(p:Past)(d:Dot):C5 (A5 p) d=C5 p d:=by
 rw[Bool.eq_iff_iff]
 unfold A5
 rw[Ar3]
 simp
theorem has_of(ds:List Dot)(d:Dot):C5 (H3 (ofT ds)) d=true↔A0f d=true∧d∈ds:=by
 rw[X4]
 refine and_congr_right fun hd=>?_
 have hb:=H5 hd
 unfold inR ofT
 constructor
 ·rintro⟨x,hx,h1,h2⟩
  obtain⟨y,hy,rfl⟩:=List.mem_map.1 hx
  obtain⟨hy,hq⟩:=List.mem_filter.1 hy
  rw[Bool.and_eq_true,decide_eq_true_eq]at hq
  simp only at h1 h2
  have:y=d:=by
   cases y;cases d
   simp only at *
   congr 1
   ·omega
   ·omega
  exact this ▸ hy
 ·intro h
  exact⟨⟨d.num,d.num⟩,List.mem_map.2 ⟨d,List.mem_filter.2 ⟨h,by rw[Bool.and_eq_true,decide_eq_true_eq];exact⟨hd,by omega⟩⟩,rfl⟩,Int.le_refl _,Int.le_refl _⟩
theorem B2k{T U:Nat→List Run}(h:∀ d,C5 (H3 T) d=true↔C5 (H3 U) d=true):H3 T=H3 U:=by
 rw[← A87 T,← A87 U]
 refine A0g fun r hr=>?_
 refine A0d (E8 _) (E8 _) fun n=>?_
 show inR (nrm _) n↔inR (nrm _) n
 rw[Y5,Y5]
 refine and_congr_right fun n0=>and_congr_right fun n1=>?_
 have hd:A0f ⟨r,n⟩=true:=by unfold A0f;rw[decide_eq_true_eq];simp only;omega
 have:=h ⟨r,n⟩
 rw[X4,X4]at this
 simp only [hd,true_and]at this
 exact this
theorem A3u(T:Nat→List Run):A5 (H3 T)=H3 T:=B2k fun d=>by
 have:=X5 (H3 T) d
 unfold A5 at this
 rw[this]
theorem Ar4{p q:Past}(hp:p=A5 p)(hq:q=A5 q)(h:∀ d,C5 p d=C5 q d):p=q:=by
 rw[hp,hq]
 refine B2k fun d=>?_
 have h1:=X5 p d
 have h2:=X5 q d
 unfold A5 at h1 h2
 rw[h1,h2,h d]
theorem B2l(p:Past):A5 (A5 p)=A5 p:=A3u _
theorem N5(T:Nat→List Run):(H3 T).cloud.length≤8000000000∧(H3 T).vec.length≤16:=by
 have h1:=A1r T 16
 have h2:=Ak6 T
 have h3:=(A4n T 16).2.1
 exact⟨by show(J3 T 16).length≤_;omega,by omega⟩
end Go.Proofs.YtaiepnaokhpmcaaGreat
namespace Go.Proofs.YtaiepnaokhpmcaaGreat
open Go.E
set_option maxRecDepth 100000
set_option maxHeartbeats 4000000
def T7:List Run→List Run→List Run
 | x :: a,y :: b=>(if max x.lo y.lo≤min x.hi y.hi then[⟨max x.lo y.lo,min x.hi y.hi⟩]else[])++(if x.hi < y.hi then T7 a (y :: b)else T7 (x :: a) b)
 | _,_=>[]
termination_by a b=>a.length+b.length
theorem Q7(b:List Run):T7 [] b=[]:=by unfold T7;rfl
theorem A0h(a:List Run):T7 a []=[]:=by unfold T7;cases a <;> rfl
theorem A0i(x y:Run)(a b:List Run):T7 (x :: a) (y :: b)=(if max x.lo y.lo≤min x.hi y.hi then[⟨max x.lo y.lo,min x.hi y.hi⟩]else[])++(if x.hi < y.hi then T7 a (y :: b)else T7 (x :: a) b):=by rw[T7]
def A3h:Int→List Run→List Run
 | n,[]=>if n≤1000000000 then[⟨n,1000000000⟩]else[]
 | n,r :: l=>(if n < r.lo then[⟨n,r.lo-1⟩]else[])++A3h (r.hi+1) l
def A89(a b:List Run):List Run:=T7 (nrm a) (nrm (A3h 1 (nrm b)))
def metR(a b:List Run):List Run:=T7 (nrm a) (nrm b)
theorem K1{x:Run}{a:List Run}(h:V3 (x :: a)):V3 a:=⟨(List.pairwise_cons.1 h.1).2,fun r hr=>h.2 r (by simp [hr])⟩
theorem Ak7{x:Run}{a:List Run}(h:V3 (x :: a)){n:Int}(k:inR a n):x.hi+1 < n:=by
 obtain⟨r,hr,h1,_⟩:=k
 have:=(List.pairwise_cons.1 h.1).1 r hr
 omega
theorem B2m(c:Prop)[Decidable c](r:Run)(n:Int):inR (if c then[r]else[]) n↔c∧r.lo≤n∧n≤r.hi:=by
 split <;> simp [inR, *]
theorem B6j:∀(k:Nat) (a b:List Run),a.length+b.length≤k→V3 a→V3 b→∀ n,inR (T7 a b) n↔inR a n∧inR b n:=by
 intro k
 induction k with
 | zero =>
  intro a b hk _ _ n
  have:a=[]:=List.eq_nil_of_length_eq_zero (by omega)
  subst this
  rw[Q7]
  simp [inR]
 | succ k ih =>
  intro a b hk ha hb n
  cases a with
  | nil=>rw[Q7];simp [inR]
  | cons x a =>
   cases b with
   | nil=>rw[A0h];simp [inR]
   | cons y b =>
    have hx:=ha.2 x (by simp)
    have hy:=hb.2 y (by simp)
    have la:inR a n→x.hi+1 < n:=Ak7 ha
    have lb:inR b n→y.hi+1 < n:=Ak7 hb
    simp only [List.length_cons]at hk
    rw[A0i,A88,B2m]
    split
    ·rw[ih a (y :: b) (by simp only [List.length_cons];omega) (K1 ha) hb n,S8,S8]
     simp only
     constructor
     ·rintro(h | ⟨h1,h2⟩)
      ·exact⟨.inl (by omega),.inl (by omega)⟩
      ·exact⟨.inr h1,h2⟩
     ·rintro⟨h1 | h1,h2 | h2⟩
      ·exact .inl (by omega)
      ·have:=lb h2;omega
      ·exact .inr ⟨h1,.inl h2⟩
      ·exact .inr ⟨h1,.inr h2⟩
    ·rw[ih (x :: a) b (by simp only [List.length_cons];omega) ha (K1 hb) n,S8,S8]
     simp only
     constructor
     ·rintro(h | ⟨h1,h2⟩)
      ·exact⟨.inl (by omega),.inl (by omega)⟩
      ·exact⟨h1,.inr h2⟩
     ·rintro⟨h1 | h1,h2 | h2⟩
      ·exact .inl (by omega)
      ·exact .inr ⟨.inl h1,h2⟩
      ·have:=la h1;omega
      ·exact .inr ⟨.inr h1,h2⟩
theorem Ab8:∀(k:Nat) (a b:List Run),a.length+b.length≤k→∀ r∈T7 a b,r.lo≤r.hi∧(∃ x∈a,x.lo≤r.lo∧r.hi≤x.hi)∧∃ y∈b,y.lo≤r.lo∧r.hi≤y.hi:=by
 intro k
 induction k with
 | zero =>
  intro a b hk r hr
  have:a=[]:=List.eq_nil_of_length_eq_zero (by omega)
  subst this
  rw[Q7]at hr
  cases hr
 | succ k ih =>
  intro a b hk r hr
  cases a with
  | nil=>rw[Q7]at hr;cases hr
  | cons x a =>
   cases b with
   | nil=>rw[A0h]at hr;cases hr
   | cons y b =>
    simp only [List.length_cons]at hk
    rw[A0i]at hr
    rcases List.mem_append.1 hr with hr | hr
    ·split at hr
     ·have:r=⟨max x.lo y.lo,min x.hi y.hi⟩:=by simpa using hr
      subst this
      exact⟨by simp only;omega,⟨x,by simp,by simp only;omega,by simp only;omega⟩,⟨y,by simp,by simp only;omega,by simp only;omega⟩⟩
     ·cases hr
    ·split at hr
     ·obtain⟨h0,⟨x',hx,h1⟩,h2⟩:=ih a (y :: b) (by simp only [List.length_cons];omega) r hr
      exact⟨h0,⟨x',by simp [hx],h1⟩,h2⟩
     ·obtain⟨h0,h1,⟨y',hy,h2⟩⟩:=ih (x :: a) b (by simp only [List.length_cons];omega) r hr
      exact⟨h0,h1,⟨y',by simp [hy],h2⟩⟩
theorem B2n:∀(k:Nat) (a b:List Run),a.length+b.length≤k→V3 a→V3 b→V3 (T7 a b):=by
 intro k
 induction k with
 | zero =>
  intro a b hk _ _
  have:a=[]:=List.eq_nil_of_length_eq_zero (by omega)
  subst this
  rw[Q7]
  exact A0c
 | succ k ih =>
  intro a b hk ha hb
  cases a with
  | nil=>rw[Q7];exact A0c
  | cons x a =>
   cases b with
   | nil=>rw[A0h];exact A0c
   | cons y b =>
    simp only [List.length_cons]at hk
    have hx:=ha.2 x (by simp)
    have hy:=hb.2 y (by simp)
    have pa:=(List.pairwise_cons.1 ha.1).1
    have pb:=(List.pairwise_cons.1 hb.1).1
    rw[A0i]
    have key:∀ m:List Run,V3 m→(∀ r∈m,min x.hi y.hi+1 < r.lo)→V3 ((if max x.lo y.lo≤min x.hi y.hi then[(⟨max x.lo y.lo,min x.hi y.hi⟩:Run)]else[])++m):=by
     intro m hm hlt
     split
     ·refine⟨List.pairwise_append.2 ⟨by simp,hm.1,fun u hu v hv=>?_⟩,fun r hr=>?_⟩
      ·have:u=⟨max x.lo y.lo,min x.hi y.hi⟩:=by simpa using hu
       subst this
       exact hlt v hv
      ·rcases List.mem_append.1 hr with hr | hr
       ·have:r=⟨max x.lo y.lo,min x.hi y.hi⟩:=by simpa using hr
        subst this
        simp only
        omega
       ·exact hm.2 r hr
     ·exact hm
    by_cases hd:x.hi < y.hi
    ·rw[if_pos hd]
     refine key _ (ih a (y :: b) (by simp only [List.length_cons];omega) (K1 ha) hb) fun r hr=>?_
     obtain⟨_,⟨x',hx',h1,_⟩,_⟩:=Ab8 _ a (y :: b) (Nat.le_refl _) r hr
     have:=pa x' hx'
     omega
    ·rw[if_neg hd]
     refine key _ (ih (x :: a) b (by simp only [List.length_cons];omega) ha (K1 hb)) fun r hr=>?_
     obtain⟨_,_,⟨y',hy',h1,_⟩⟩:=Ab8 _ (x :: a) b (Nat.le_refl _) r hr
     have:=pb y' hy'
     omega
theorem B2o : ∀ (l : List Run) (n:Int), V3 l → (∀ r ∈ l, n ≤ r.lo) → ∀ k, inR (A3h n l) k ↔ n ≤ k ∧ k ≤ 1000000000 ∧ ¬ inR l k
  | [], n, _, _, k => by
    unfold A3h
    rw[B2m]
    simp only [inR,List.not_mem_nil,false_and,exists_false,not_false_eq_true,and_true]
    omega
  | r :: l, n, h, hn, k => by
    have hr:=h.2 r (by simp)
    have h1:=hn r (by simp)
    have pa:=(List.pairwise_cons.1 h.1).1
    have ih:=B2o l (r.hi+1) (K1 h) (fun x hx=>by have:=pa x hx;omega) k
    have lt:inR l k→r.hi+1 < k:=Ak7 h
    rw[A3h,A88,B2m,ih,S8]
    simp only
    constructor
    · rintro (g | ⟨g1, g2, g3⟩)
      · exact ⟨by omega, by omega, fun c => by rcases c with c | c; · omega
                                               · have:=lt c;omega⟩
      · exact ⟨by omega, by omega, fun c => by rcases c with c | c; · omega
                                               · exact g3 c⟩
    · rintro ⟨g1, g2, g3⟩
      by_cases e:k < r.lo
      · exact .inl ⟨by omega,by omega,by omega⟩
      · exact .inr ⟨by apply Classical.byContradiction;intro c;exact g3 (.inl ⟨by omega,by omega⟩),g2,fun c=>g3 (.inr c)⟩
theorem B2p:∀(l:List Run) (n:Int),V3 l→(∀ r∈l,n≤r.lo)→∀ r∈A3h n l,n≤r.lo∧r.lo≤r.hi∧r.hi≤1000000000
 | [],n,_,_,r,hr=>by
  unfold A3h at hr
  split at hr
  ·have:r=⟨n,1000000000⟩:=by simpa using hr
   subst this
   simp only
   omega
  ·cases hr
 | x :: l,n,h,hn,r,hr=>by
  have hx:=h.2 x (by simp)
  have h1:=hn x (by simp)
  have pa:=(List.pairwise_cons.1 h.1).1
  rw[A3h]at hr
  rcases List.mem_append.1 hr with hr | hr
  ·split at hr
   ·have:r=⟨n,x.lo-1⟩:=by simpa using hr
    subst this
    simp only
    omega
   ·cases hr
  ·have:=B2p l (x.hi+1) (K1 h) (fun y hy=>by have:=pa y hy;omega) r hr
   omega
theorem Ar5 : ∀ (l : List Run) (n:Int), 1 ≤ n → V3 l → (∀ r ∈ l, n ≤ r.lo) → V3 (A3h n l)
  | [], n, h1, _, _ => by
    unfold A3h
    split
    · exact ⟨by simp, fun r hr => by have : r = ⟨n, 1000000000⟩ := by simpa using hr
                                     subst this;simp only;omega⟩
    · exact A0c
  | x :: l, n, h0, h, hn => by
    have hx:=h.2 x (by simp)
    have h1:=hn x (by simp)
    have pa:=(List.pairwise_cons.1 h.1).1
    have hp:∀ r∈l,x.hi+1≤r.lo:=fun y hy=>by have:=pa y hy;omega
    have ih:=Ar5 l (x.hi+1) (by omega) (K1 h) hp
    have lo:=B2p l (x.hi+1) (K1 h) hp
    rw[A3h]
    split
    · refine ⟨List.pairwise_append.2 ⟨by simp, ih.1, fun u hu v hv => ?_⟩, fun r hr => ?_⟩
      · have : u = ⟨n, x.lo - 1⟩ := by simpa using hu
        subst this
        have:=lo v hv
        simp only
        omega
      · rcases List.mem_append.1 hr with hr | hr
        · have : r = ⟨n, x.lo - 1⟩ := by simpa using hr
          subst this
          simp only
          omega
        · exact ih.2 r hr
    · exact ih
theorem B2q(b:List Run):V3 (A3h 1 (nrm b)):=Ar5 _ _ (Int.le_refl _) (E8 b) fun r hr=>((E8 b).2 r hr).1
theorem B6k(a b:List Run):V3 (A89 a b):=B2n _ _ _ (Nat.le_refl _) (E8 _) (E8 _)
theorem Be9(a b:List Run)(n:Int):inR (A89 a b) n↔inR (nrm a) n∧¬ inR (nrm b) n:=by
 unfold A89
 rw[B6j _ _ _ (Nat.le_refl _) (E8 _) (E8 _) n,Ar2 (B2q b),B2o _ _ (E8 b) (fun r hr=>((E8 b).2 r hr).1)]
 refine and_congr_right fun h=>?_
 rw[Y5]at h
 exact⟨fun k=>k.2.2,fun k=>⟨h.1,h.2.1,k⟩⟩
theorem B6l(a b:List Run):(A89 a b).length≤500000000:=P6 (B6k a b)
def D5(a b:Past):Past:=H3 fun r=>A89 (B5 [a] r) (B5 [b] r)
def D3(ps:List Past):Past:=H3 (B5 ps)
theorem A8a(a b:Past)(d:Dot):C5 (D5 a b) d=(C5 a d && !C5 b d):=by
 rw[Bool.eq_iff_iff,D5,X4,Be9,Bool.and_eq_true,Bool.not_eq_true',← X5 a d,← X5 b d]
 unfold A5
 rw[X4,← Bool.not_eq_true,X4]
 constructor
 ·rintro⟨h,h1,h2⟩
  have hb:=H5 h
  rw[Y5]at h1 h2
  exact⟨⟨h,h1.2.2⟩,fun k=>h2 ⟨by omega,by omega,k.2⟩⟩
 ·rintro⟨⟨h,h1⟩,h2⟩
  have hb:=H5 h
  rw[Y5,Y5]
  exact⟨h,⟨by omega,by omega,h1⟩,fun k=>h2 ⟨h,k.2.2⟩⟩
theorem A8b(ps:List Past)(d:Dot):C5 (D3 ps) d=ps.any fun p=>C5 p d:=by
 rw[Bool.eq_iff_iff,D3,Ar3,List.any_eq_true]
theorem A6t(a b:Past):D5 a b=A5 (D5 a b):=(A3u _).symm
theorem Ab9(ps:List Past):D3 ps=A5 (D3 ps):=(A3u _).symm
end Go.Proofs.YtaiepnaokhpmcaaGreat
namespace Go.Proofs.YtaiepnaokhpmcaaGreat
open Go.E
set_option maxRecDepth 100000
set_option maxHeartbeats 4000000
def J0(a b:Int):Int:=if a < b then -1 else if b < a then 1 else 0
def A8c(u v:List Int):Nat→Nat→Int
 | _,0=>0
 | r,k+1=>if u[r]! = v[r]! then A8c u v (r+1) k else J0 u[r]! v[r]!
def A1t(s t:Span):Int:=if J0 s.rep t.rep≠0 then J0 s.rep t.rep else if J0 s.lo t.lo≠0 then J0 s.lo t.lo else J0 s.hi t.hi
def O3:List Span→List Span→Int
 | [],[]=>0
 | [],_ :: _=>-1
 | _ :: _,[]=>1
 | s :: a,t :: b=>if A1t s t≠0 then A1t s t else O3 a b
def Bn7(x y:Past):Int:=if A8c x.vec y.vec 0 16≠0 then A8c x.vec y.vec 0 16 else O3 x.cloud y.cloud
def Ac0(p q:Past):Int:=Bn7 (A5 p) (A5 q)
structure Ord3 {α:Type} (c:α→α→Int):Prop where
 rng:∀ x y,c x y=-1∨c x y=0∨c x y=1
 neg:∀ x y,c y x=-(c x y)
 tr:∀ x y z,c x y≤0→c y z≤0→c x z≤0
 tr0:∀ x y z,c x y=0→c y z=0→c x z=0
theorem Ord3.lt{α:Type}{c:α→α→Int}(h:Ord3 c){x y z:α}(h1:c x y < 0)(h2:c y z≤0):c x z < 0:=by
 have h3:=h.tr x y z (by omega) h2
 apply Classical.byContradiction
 intro h4
 have h5:c x z=0:=by omega
 have h6:c z x=0:=by rw[h.neg x z];omega
 have h7:=h.tr y z x h2 (by omega)
 have:=h.neg x y
 omega
theorem Ord3.lt'{α:Type}{c:α→α→Int}(h:Ord3 c){x y z:α}(h1:c x y≤0)(h2:c y z < 0):c x z < 0:=by
 have h3:=h.tr x y z h1 (by omega)
 apply Classical.byContradiction
 intro h4
 have h5:c x z=0:=by omega
 have h6:c z x=0:=by rw[h.neg x z];omega
 have h7:=h.tr z x y (by omega) h1
 have:=h.neg y z
 omega
theorem Ord3.self{α:Type}{c:α→α→Int}(h:Ord3 c)(x:α):c x x=0:=by have:=h.neg x x;omega
theorem ordI:Ord3 J0:=by
 refine⟨fun x y=>?_,fun x y=>?_,fun x y z=>?_,fun x y z=>?_⟩ <;> unfold J0 <;>(repeat' split) <;> omega
theorem A1u{α β γ:Type}{c:β→β→Int}{d:γ→γ→Int}(hc:Ord3 c)(hd:Ord3 d)(f:α→β)(g:α→γ):Ord3 (fun x y=>if c (f x) (f y)≠0 then c (f x) (f y)else d (g x) (g y)):=by
 refine⟨fun x y=>?_,fun x y=>?_,fun x y z=>?_,fun x y z=>?_⟩
 ·split
  ·exact hc.rng _ _
  ·exact hd.rng _ _
 ·have h1:=hc.neg (f x) (f y)
  have h2:=hd.neg (g x) (g y)
  split <;> split <;> omega
 ·intro h1 h2
  have b1:=hc.neg (f x) (f y)
  by_cases e1:c (f x) (f y)=0
  ·rw[if_neg (by simpa using e1)]at h1
   by_cases e2:c (f y) (f z)=0
   ·rw[if_neg (by simpa using e2)]at h2
    rw[if_neg (by simpa using hc.tr0 _ _ _ e1 e2)]
    exact hd.tr _ _ _ h1 h2
   ·rw[if_pos e2]at h2
    have:=hc.lt' (x:=f x) (y:=f y) (z:=f z) (by omega) (by omega)
    rw[if_pos (by omega)]
    omega
  ·rw[if_pos e1]at h1
   have h2':c (f y) (f z)≤0:=by
    by_cases e2:c (f y) (f z)=0
    ·omega
    ·rw[if_pos e2]at h2;exact h2
   have:=hc.lt (x:=f x) (y:=f y) (z:=f z) (by omega) h2'
   rw[if_pos (by omega)]
   omega
 ·intro h1 h2
  have e1:c (f x) (f y)=0:=by
   apply Classical.byContradiction
   intro e
   rw[if_pos e]at h1
   exact e h1
  have e2:c (f y) (f z)=0:=by
   apply Classical.byContradiction
   intro e
   rw[if_pos e]at h2
   exact e h2
  rw[if_neg (by simpa using e1)]at h1
  rw[if_neg (by simpa using e2)]at h2
  rw[if_neg (by simpa using hc.tr0 _ _ _ e1 e2)]
  exact hd.tr0 _ _ _ h1 h2
theorem J4{a b:Int}:J0 a b=0↔a=b:=by unfold J0;split <;>(try split) <;> omega
theorem ordF(k:Nat):∀ r:Nat,Ord3 fun u v:List Int=>A8c u v r k:=by
 induction k with
 | zero=>exact fun r=>⟨fun _ _=>.inr (.inl rfl),fun _ _=>rfl,fun _ _ _ _ _=>Int.le_refl _,fun _ _ _ _ _=>rfl⟩
 | succ k ih =>
  intro r
  have h:=A1u ordI (ih (r+1)) (fun u:List Int=>u[r]!) (fun u=>u)
  have e:(fun u v:List Int=>A8c u v r (k+1))=fun u v=>if J0 u[r]! v[r]!≠0 then J0 u[r]! v[r]! else A8c u v (r+1) k:=by
   funext u v
   rw[A8c]
   by_cases e:u[r]! = v[r]!
   ·rw[if_pos e,if_neg (by rw[J4.2 e];simp)]
   ·rw[if_neg e,if_pos (fun k=>e (J4.1 k))]
  rw[e]
  exact h
theorem Bn8:Ord3 A1t:=A1u ordI (A1u ordI ordI (fun s:Span=>s.lo) (fun s:Span=>s.hi)) (fun s:Span=>s.rep) (fun s=>s)
theorem ordC:Ord3 O3:=by
 refine⟨fun x=>?_,fun x=>?_,fun x=>?_,fun x=>?_⟩
 ·induction x with
  | nil=>intro y;cases y <;> simp [O3]
  | cons s a ih =>
   intro y
   cases y with
   | nil=>simp [O3]
   | cons t b =>
    rw[O3]
    split
    ·exact Bn8.rng _ _
    ·exact ih b
 ·induction x with
  | nil=>intro y;cases y <;> simp [O3]
  | cons s a ih =>
   intro y
   cases y with
   | nil=>simp [O3]
   | cons t b =>
    rw[O3,O3]
    have h1:=Bn8.neg s t
    have h2:=ih b
    split <;> split <;> omega
 ·induction x with
  | nil=>intro y z _ _;cases z <;> simp [O3]
  | cons s a ih =>
   intro y z h1 h2
   cases y with
   | nil=>simp [O3]at h1
   | cons t b =>
    cases z with
    | nil=>simp [O3]at h2
    | cons r d =>
     rw[O3]at h1 h2 ⊢
     by_cases e1:A1t s t=0
     ·rw[if_neg (by simpa using e1)]at h1
      by_cases e2:A1t t r=0
      ·rw[if_neg (by simpa using e2)]at h2
       rw[if_neg (by simpa using Bn8.tr0 _ _ _ e1 e2)]
       exact ih b d h1 h2
      ·rw[if_pos e2]at h2
       have:=Bn8.lt' (x:=s) (y:=t) (z:=r) (by omega) (by omega)
       rw[if_pos (by omega)]
       omega
     ·rw[if_pos e1]at h1
      have h2':A1t t r≤0:=by
       by_cases e2:A1t t r=0
       ·omega
       ·rw[if_pos e2]at h2;exact h2
      have:=Bn8.lt (x:=s) (y:=t) (z:=r) (by omega) h2'
      rw[if_pos (by omega)]
      omega
 ·induction x with
  | nil =>
   intro y z h1 h2
   cases y with
   | nil=>exact h2
   | cons t b=>simp [O3]at h1
  | cons s a ih =>
   intro y z h1 h2
   cases y with
   | nil=>simp [O3]at h1
   | cons t b =>
    cases z with
    | nil=>simp [O3]at h2
    | cons r d =>
     rw[O3]at h1 h2 ⊢
     have e1:A1t s t=0:=by
      apply Classical.byContradiction
      intro e
      rw[if_pos e]at h1
      exact e h1
     have e2:A1t t r=0:=by
      apply Classical.byContradiction
      intro e
      rw[if_pos e]at h2
      exact e h2
     rw[if_neg (by simpa using e1)]at h1
     rw[if_neg (by simpa using e2)]at h2
     rw[if_neg (by simpa using Bn8.tr0 _ _ _ e1 e2)]
     exact ih b d h1 h2
theorem ordQ:Ord3 Bn7:=A1u (ordF 16 0) ordC (fun p:Past=>p.vec) (fun p=>p.cloud)
theorem ordP:Ord3 Ac0:=⟨fun _ _=>ordQ.rng _ _,fun _ _=>ordQ.neg _ _,fun _ _ _=>ordQ.tr _ _ _,fun _ _ _=>ordQ.tr0 _ _ _⟩
theorem Ac1{u v:List Int}:∀ {k r:Nat},A8c u v r k=0→∀ j:Nat,r≤j→j < r+k→u[j]! = v[j]!
 | 0,r,_,j,h1,h2=>by omega
 | k+1,r,h,j,h1,h2=>by
  rw[A8c]at h
  by_cases e:u[r]! = v[r]!
  ·rw[if_pos e]at h
   by_cases e2:j=r
   ·rw[e2];exact e
   ·exact Ac1 h j (by omega) (by omega)
  ·rw[if_neg e]at h
   exact absurd (J4.1 h) e
theorem B2r{s t:Span}(h:A1t s t=0):s=t:=by
 unfold A1t at h
 split at h
 ·rename_i e;exact absurd h e
 ·rename_i e1
  split at h
  ·rename_i e;exact absurd h e
  ·rename_i e2
   have a1:=J4.1 (Classical.not_not.1 e1)
   have a2:=J4.1 (Classical.not_not.1 e2)
   have a3:=J4.1 h
   cases s;cases t
   simp only at a1 a2 a3
   rw[a1,a2,a3]
theorem Ac2:∀ {a b:List Span},O3 a b=0→a=b
 | [],[],_=>rfl
 | [],_ :: _,h=>by simp [O3]at h
 | _ :: _,[],h=>by simp [O3]at h
 | s :: a,t :: b,h=>by
  rw[O3]at h
  split at h
  ·rename_i e;exact absurd h e
  ·rename_i e
   rw[B2r (Classical.not_not.1 e),Ac2 h]
theorem Ar6(T:Nat→List Run)(h:0 <(H3 T).vec.length):0 <(H3 T).vec[(H3 T).vec.length-1]!:=by
 have hl:=Ak6 T
 have key:∀ n:Nat,0 < szT T n→0 < A0o T (szT T n-1).toNat:=by
  intro n
  induction n with
  | zero=>intro h;simp [szT]at h
  | succ n ih =>
   rw[szT]
   split
   ·rename_i k
    intro _
    rw[show((n:Int)+1-1).toNat=n by omega]
    exact k
   ·exact ih
 have e:(H3 T).vec.length-1=(szT T 16-1).toNat:=by omega
 rw[e,(B2i T (r:=(szT T 16-1).toNat) (by omega)).1]
 exact key 16 (by omega)
theorem Bf0{S T:Nat→List Run}(h:∀ j:Nat,j < 16→(H3 S).vec[j]! =(H3 T).vec[j]!):(H3 S).vec=(H3 T).vec:=by
 have h1:=(N5 S).2
 have h2:=(N5 T).2
 have out:∀(l:List Int) (j:Nat),l.length≤j→l[j]! = 0:=fun l j hj=>by
  rw[getElem!_def,List.getElem?_eq_none hj];rfl
 have hl:(H3 S).vec.length=(H3 T).vec.length:=by
  rcases Nat.lt_trichotomy (H3 S).vec.length (H3 T).vec.length with k | k | k
  ·have:=Ar6 T (by omega)
   rw[← h _ (by omega),out (H3 S).vec _ (by omega)]at this
   omega
  ·exact k
  ·have:=Ar6 S (by omega)
   rw[h _ (by omega),out (H3 T).vec _ (by omega)]at this
   omega
 exact V5 hl fun j hj=>h j (by omega)
theorem B6m{S T:Nat→List Run}(h:Bn7 (H3 S) (H3 T)=0):H3 S=H3 T:=by
 unfold Bn7 at h
 split at h
 ·rename_i e;exact absurd h e
 ·rename_i e
  have h1:=Ac1 (Classical.not_not.1 e)
  have h2:=Ac2 h
  have h3:=Bf0 fun j hj=>h1 j (by omega) (by omega)
  generalize H3 S=x at *
  generalize H3 T=y at *
  cases x;cases y
  simp only at h2 h3
  rw[h2,h3]
theorem B2s{p q:Past}:Ac0 p q=0↔A5 p=A5 q:=by
 constructor
 ·exact fun h=>B6m h
 ·intro h
  unfold Ac0
  rw[h]
  exact ordQ.self _
end Go.Proofs.YtaiepnaokhpmcaaGreat
namespace Go.Proofs.YtaiepnaokhpmcaaGreat
open Go.E
set_option maxRecDepth 100000
set_option maxHeartbeats 4000000
def orI(v:List Int):Int:=(v.find? fun x=>decide (¬ x=0)).getD 0
def Bf1(v:List Int)(i:Int):Prop:=0≤i∧i≤v.length∧∀ j:Nat,(j:Int) < i→v[j]! = 0
def decOr(v:List Int)(i:Int):Nat:=(v.length-i).toNat
theorem or_at{v:List Int}:∀ {i:Nat},i < v.length→¬ v[i]! = 0→(∀ j:Nat,j < i→v[j]! = 0)→orI v=v[i]!:=by
 intro i hi h hn
 unfold orI
 have:v.find? (fun x=>decide (¬ x=0))=some v[i]!:=by
  rw[getElem!_pos v i hi]at h ⊢
  rw[List.find?_eq_some_iff_getElem]
  refine⟨by simpa using h,i,hi,rfl,fun j hj=>?_⟩
  have:=hn j hj
  rw[getElem!_pos v j (by omega)]at this
  simpa using this
 rw[this];rfl
theorem or_no{v:List Int}(h:∀ j:Nat,j < v.length→v[j]! = 0):orI v=0:=by
 unfold orI
 rw[List.find?_eq_none.2]
 ·rfl
 ·intro x hx
  obtain⟨j,hj,rfl⟩:=List.mem_iff_getElem.1 hx
  have:=h j hj
  rw[getElem!_pos v j hj]at this
  simpa using this
theorem B6n(s t:Span):orI [J0 s.rep t.rep,J0 s.lo t.lo,J0 s.hi t.hi]=A1t s t:=by
 unfold orI A1t
 by_cases h1:J0 s.rep t.rep=0
 ·by_cases h2:J0 s.lo t.lo=0
  ·by_cases h3:J0 s.hi t.hi=0 <;> simp [h1,h2,h3]
  ·simp [h1,h2]
 ·simp [h1]
def B6o(a b:List Span)(i:Int):Prop:=0≤i∧i≤a.length∧i≤b.length∧O3 a b=O3 (a.drop i.toNat) (b.drop i.toNat)
def decCf(a b:List Span)(i:Int):Nat:=(a.length-i).toNat
theorem Az4{a:List Span}{i:Int}(h0:0≤i)(h:i < a.length):a.drop i.toNat=a[i.toNat]! :: a.drop (i+1).toNat:=by
 rw[show(i+1).toNat=i.toNat+1 by omega,getElem!_pos a i.toNat (by omega)]
 exact List.drop_eq_getElem_cons (by omega)
theorem B6p{a:List Span}{i:Int}(h:¬ i < a.length):a.drop i.toNat=[]:=List.drop_of_length_le (by omega)
theorem B2t{a b:List Span}{i:Int}(h0:0≤i)(ha:i < a.length)(hb:¬ i < b.length)(h:O3 a b=O3 (a.drop i.toNat) (b.drop i.toNat)):O3 a b=1:=by
 rw[h,Az4 h0 ha,B6p hb];rfl
theorem B2u{a b:List Span}{i:Int}(h0:0≤i)(ha:¬ i < a.length)(hb:i < b.length)(h:O3 a b=O3 (a.drop i.toNat) (b.drop i.toNat)):O3 a b=-1:=by
 rw[h,Az4 h0 hb,B6p ha];rfl
theorem B2v{a b:List Span}{i:Int}(ha:¬ i < a.length)(hb:¬ i < b.length)(h:O3 a b=O3 (a.drop i.toNat) (b.drop i.toNat)):O3 a b=0:=by
 rw[h,B6p hb,B6p ha];rfl
theorem B2w{a b:List Span}{i:Int}(h0:0≤i)(ha:i < a.length)(hb:i < b.length)(hd:¬ A1t a[i.toNat]! b[i.toNat]! = 0)(h:O3 a b=O3 (a.drop i.toNat) (b.drop i.toNat)):O3 a b=A1t a[i.toNat]! b[i.toNat]!:=by
 rw[h,Az4 h0 ha,Az4 h0 hb,O3,if_pos hd]
theorem B2x{a b:List Span}{i:Int}(h0:0≤i)(ha:i < a.length)(hb:i < b.length)(hd:A1t a[i.toNat]! b[i.toNat]! = 0)(h:O3 a b=O3 (a.drop i.toNat) (b.drop i.toNat)):B6o a b (i+1):=by
 refine⟨by omega,by omega,by omega,?_⟩
 rw[h,Az4 h0 ha,Az4 h0 hb,O3,if_neg (by simpa using hd)]
def Ah3(u v:List Int)(r:Int):Prop:=A8c u v 0 16=A8c u v r.toNat (16-r).toNat
def Ak8(x y:Past)(r:Int)(u:List Int)(c:List Span)(v:List Int)(d:List Span):Prop:=u=x.vec∧c=x.cloud∧v=y.vec∧d=y.cloud∧0≤r∧r≤16∧Ah3 x.vec y.vec r
def decCq(r:Int)(u:List Int)(c:List Span)(v:List Int)(d:List Span):Nat:=(16-r).toNat
def invCp(u v:List Int)(r:Int):Prop:=0≤r∧r≤16∧Ah3 u v r
theorem O6{u:List Int}{r:Int}(h0:0≤r)(h:¬ r < u.length):u[r.toNat]! = 0:=by
 rw[getElem!_def,List.getElem?_eq_none (by omega)];rfl
theorem B2y{u v:List Int}{r:Int}(h0:0≤r)(h1:r < 16)(h:Ah3 u v r):A8c u v 0 16=if u[r.toNat]! = v[r.toNat]! then A8c u v (r+1).toNat (16-(r+1)).toNat else J0 u[r.toNat]! v[r.toNat]!:=by
 unfold Ah3 at h
 rw[h,show(16-r).toNat=(16-(r+1)).toNat+1 by omega,A8c,show r.toNat+1=(r+1).toNat by omega]
theorem B2z{u v:List Int}{r:Int}(h0:0≤r)(h1:r < 16)(hd:¬ u[r.toNat]! = v[r.toNat]!)(h:Ah3 u v r):A8c u v 0 16=J0 u[r.toNat]! v[r.toNat]!:=by rw[B2y h0 h1 h,if_neg hd]
theorem B30{u v:List Int}{r:Int}(h0:0≤r)(h1:r < 16)(hd:u[r.toNat]! = v[r.toNat]!)(h:Ah3 u v r):invCp u v (r+1):=by
 refine⟨by omega,by omega,?_⟩
 unfold Ah3
 rw[B2y h0 h1 h,if_pos hd]
theorem Ac3{u v:List Int}{r:Int}(h1:r≤16)(hn:¬ r < 16)(h:Ah3 u v r):A8c u v 0 16=0:=by
 unfold Ah3 at h
 rw[h,show(16-r).toNat=0 by omega];rfl
theorem B9d{p q:Past}{x:Int}(h:A8c (A5 p).vec (A5 q).vec 0 16=x)(hx:¬ x=0):Ac0 p q=x:=by
 unfold Ac0 Bn7
 rw[if_pos (by rw[h];exact hx),h]
theorem A8d{p q:Past}(h:A8c (A5 p).vec (A5 q).vec 0 16=0):Ac0 p q=O3 (A5 p).cloud (A5 q).cloud:=by
 unfold Ac0 Bn7
 rw[if_neg (by rw[h];simp)]
theorem A16{a b:Int}(h:¬ a=b):¬ J0 a b=0:=fun k=>h (J4.1 k)
theorem B9e(x:Int):Con Tryz.prog 210 [.i .i64 x] (.b false) :=
 by
 refine sC B1 [.tmp 2] 6 Tryz.func210 ?_
 intro e0 cx
 refine sq<|rG cx [0] [] z0<|sn<|sq<|rG cx [2] [] (tT 2 (B5y:AV.b (x != x)=AV.b false) z0)<|sn<|rT ?_
 exact A3f (r:=.b (false)) (obl:=[]) (by kernel_rfl) trivial (B8.refl _)
theorem A6u(a b:Int):Con Tryz.prog 187 [.i .i64 a,.i .i64 b] (.i .i64 (J0 a b)) :=
 by
 refine sC B1 [.tmp 4] 20 Tryz.func187 ?_
 intro e0 cx
 refine sq<|rG cx [0,1] [] z0<|sn<|sq<|rG cx [0,1,5] [] (fT (B9e (a)) (oA 1 (.b (false)) z0))<|sn<|sq<|rG cx [0,1,5,6] [] (fT (B9e (b)) (oA 1 (.b (false)) z0))<|sn<|sq<|sq<|rG cx [0,1,6,11] [] z0<|sn<|W7 (by kernel_rfl) (by kernel_rfl)<|sK<|sn<|sq<|sq<|rG cx [0,1,13] [] z0<|sn<|W7 (by kernel_rfl) (by kernel_rfl)<|sK<|sn<|sq<|rD cx [0,1,16] [] (zB 2 (a < b)) (fun h0=>?_) fun h0=>?_
 refine sq<|rG cx [4] [] z0<|sn<|rT<|nR<|qR (.i .i64 ((-1:Int))) (.eq (by unfold J0;rw[if_pos h0]))
 refine sK<|sn<|sq<|rD cx [19] [] (zB 2 (b < a)) (fun h1=>?_) fun h1=>?_
 refine sq<|rG cx [4] [] z0<|sn<|rT<|nR<|qR (.i .i64 ((1:Int))) (.eq (by unfold J0;rw[if_neg h0,if_pos h1]))
 refine sK<|sn<|sq<|rG cx [4] [] z0<|sn<|rT<|qR (.i .i64 ((0:Int))) (.eq (by unfold J0;rw[if_neg h0,if_neg h1]))
theorem con190(v:List Int):Con Tryz.prog 190 [.sl (v.map c3)] (.i .i64 (orI v)) :=
 by
 refine lN 0 c3 (v) Tryz.func190 fun hl_0=>sC B1 [.tmp 2] 18 Tryz.func190 ?_
 intro e0 cx
 refine sq<|rG cx [0] [] z0<|sn<|sq<|rG cx [0,3] [] z0<|sn<|sq<|sq<|rG cx [3,6,7,8] [] (tL 1 c3 v z0)<|sn<|bL 0<|sL (X:=Int) (fun x=>⟨[(3,.i .i64 ((0:Int))),(6,.sl (List.map c3 v)),(7,.i .i64 ((↑v.length:Int))),(8,.i .i64 (x))],[]⟩) (fun x ↦ decOr v x) (fun x ↦ Bf1 v x) [3,6,7,8] [] ((0:Int)) (show Bf1 v (0:Int)from(by exact⟨by omega,by omega,fun j hj=>by omega⟩)) ?_
 intro i0 h_1
 obtain⟨hh2,hh3,hh4⟩:0≤i0∧i0≤(↑v.length:Int)∧∀(j:Nat),(↑j:Int) < i0→v[j]! =(0:Int):=h_1
 refine rE cx [3,6,7,8,9] [] (zB 0 (i0 <(↑v.length:Int))) (fun h5=>?_) fun h5=>?_
 refine sK<|sn<|sq<|bL 1<|sq<|rG cx [3,6,7,8,5] [] (fA (0≤i0) (fG c3 v i0.toNat (fR 1 (oR 0 (c3 v[i0.toNat]!) z0))))<|sn<|sq<|rG cx [3,6,7,8,5,14] [] (tN 2 v[i0.toNat]! (0:Int) z0)<|sn<|dC (¬v[i0.toNat]! =(0:Int)) (fun h6=>?_) fun h6=>?_
 refine sq<|rG cx [2] [] z0<|sn<|rT<|bR<|nR<|nR<|bR<|nR<|qR (.i .i64 (v[i0.toNat]!)) (.eq ?g1);rotate_left
 refine sK<|bN<|sn<|rG cx [3,6,7,8] [] (tW 0 (i0+1) z0)<|sn<|nX (i0+1) (show((↑v.length:Int)-(i0+1)).toNat <((↑v.length:Int)-i0).toNat from(by omega)) (show Bf1 v (i0+1)from ?g2);rotate_left
 refine eX 0<|nE<|nE<|bH<|sn<|sq<|rG cx [2] [] z0<|sn<|rT<|qR (.i .i64 ((0:Int))) (.eq (by rw[or_no fun j hj=>hh4 j (by omega)]))
 case g1=>revert i0 hh2 hh3 hh4 h5 h6;intro i h0 h1 h2 h3 h4;rw[or_at (i:=i.toNat) (by omega) h4 (fun j hj=>h2 j (by omega))]
 case g2 =>
  exact⟨by omega,by omega,fun j hj=>by
   by_cases e:j=i0.toNat
   ·rw[e];exact Classical.not_not.1 h6
   ·exact hh4 j (by omega)⟩
theorem con189(s t:Span):Con Tryz.prog 189 [.agg (B7 s),.agg (B7 t)] (.i .i64 (A1t s t)) :=
 by
 refine sC B1 [.tmp 4] 22 Tryz.func189 ?_
 intro e0 cx
 refine sq<|rG cx [2,3] [2,3] z0<|sn<|sq<|rA cx [4] [] (fT (A6u (s.rep) (t.rep)) (fT (A6u (s.lo) (t.lo)) (fT (A6u (s.hi) (t.hi)) (fP (Flat (AV.i .i64 (orI [J0 s.rep t.rep,J0 s.lo t.lo,J0 s.hi t.hi]))) (by exact Flat.i _ _) (fT (con190 ([J0 s.rep t.rep,J0 s.lo t.lo,J0 s.hi t.hi])) (oA 4 (.i .i64 (J0 s.rep t.rep)) (oA 9 (.i .i64 (J0 s.lo t.lo)) (oA 14 (.i .i64 (J0 s.hi t.hi)) (oV 16 { val:=some (.i .i64 (orI [J0 s.rep t.rep,J0 s.lo t.lo,J0 s.hi t.hi])),flat:=true } z0)))))))))<|sn<|rT<|qR (.i .i64 (orI [J0 s.rep t.rep,J0 s.lo t.lo,J0 s.hi t.hi])) (.eq ?g0);rotate_left
 case g0=>rw[B6n]
theorem con188(a b:List Span):Con Tryz.prog 188 [.sl (a.map B7),.sl (b.map B7),.fn (.func 189) [] []] (.i .i64 (O3 a b)) :=
 by
 refine lN 0 B7 (a) Tryz.func188 fun hl_0=>lN 1 B7 (b) Tryz.func188 fun hl_1=>sC B1 [.tmp 6] 39 Tryz.func188 ?_
 intro e0 cx
 refine sq<|rG cx [0,1,2] [] z0<|sn<|sq<|sq<|rG cx [0,1,2,11,12,13] [] (tL 1 B7 a z0)<|sn<|bL 0<|sL (X:=Int) (fun x=>⟨[(0,.sl (List.map B7 a)),(1,.sl (List.map B7 b)),(2,.fn (Fn.func (189:FuncId)) [] []),(11,.sl (List.map B7 a)),(12,.i .i64 ((↑a.length:Int))),(13,.i .i64 (x))],[]⟩) (fun x ↦ decCf a b x) (fun x ↦ B6o a b x) [0,1,2,11,12,13] [] ((0:Int)) (show B6o a b (0:Int)from(by exact⟨by omega,by omega,by omega,rfl⟩)) ?_
 intro i0 h_1
 obtain⟨hh2,hh3,hh4,hh5⟩:0≤i0∧i0≤(↑a.length:Int)∧i0≤(↑b.length:Int)∧O3 a b=O3 (List.drop i0.toNat a) (List.drop i0.toNat b):=h_1
 refine rE cx [0,1,2,11,12,13,14] [] (zB 0 (i0 <(↑a.length:Int))) (fun hh6=>?_) fun hh6=>?_
 refine sK<|sn<|sq<|bL 1<|sq<|rG cx [0,1,2,11,12,13,8,7] [8] (fA (0≤i0) (fG B7 a i0.toNat (fR 3 (fN 3 3 (oR 1 (B7 a[i0.toNat]!) z0)))))<|sn<|sq<|rD cx [0,1,2,11,12,13,8,7,21] [8] (tL 2 B7 b (zB 3 ((↑b.length:Int)≤i0))) (fun h7=>?_) fun h7=>?_
 refine sq<|rG cx [6] [] z0<|sn<|rT<|nR<|bR<|nR<|nR<|bR<|nR<|qR (.i .i64 ((1:Int))) (.eq (by rw[B2t hh2 hh6 (by omega) hh5]))
 refine sK<|sn<|sq<|rG cx [0,1,2,11,12,13,8,9] [8,9] (fA (0≤i0) (fG B7 b i0.toNat (fR 3 (fN 3 3 (oR 2 (B7 b[i0.toNat]!) z0)))))<|sn<|sq<|rG cx [0,1,2,11,12,13,10] [] (fT (con189 (a[i0.toNat]!) (b[i0.toNat]!)) (oA 3 (.i .i64 (A1t a[i0.toNat]! b[i0.toNat]!)) z0))<|sn<|sq<|rG cx [0,1,2,11,12,13,10,31] [] (tN 1 (A1t a[i0.toNat]! b[i0.toNat]!) (0:Int) z0)<|sn<|dC (¬A1t a[i0.toNat]! b[i0.toNat]! =(0:Int)) (fun h8=>?_) fun h8=>?_
 refine sq<|rG cx [6] [] z0<|sn<|rT<|bR<|nR<|nR<|bR<|nR<|qR (.i .i64 (A1t a[i0.toNat]! b[i0.toNat]!)) (.eq (by rw[B2w hh2 hh6 (by omega) h8 hh5]))
 refine sK<|bN<|sn<|rG cx [0,1,2,11,12,13] [] (tW 0 (i0+1) z0)<|sn<|nX (i0+1) (show((↑a.length:Int)-(i0+1)).toNat <((↑a.length:Int)-i0).toNat from(by omega)) (show B6o a b (i0+1)from(by exact B2x hh2 hh6 (by omega) (Classical.not_not.1 h8) hh5))
 refine eX 0<|nE<|nE<|bH<|sn<|sq<|rD cx [38] [] (tL 1 B7 a (tL 3 B7 b (zB 4 ((↑a.length:Int) <(↑b.length:Int))))) (fun h9=>?_) fun h9=>?_
 refine sq<|rG cx [6] [] z0<|sn<|rT<|nR<|qR (.i .i64 ((-1:Int))) (.eq (by rw[B2u hh2 hh6 (by omega) hh5]))
 refine sK<|sn<|sq<|rG cx [6] [] z0<|sn<|rT<|qR (.i .i64 ((0:Int))) (.eq (by rw[B2v hh6 (by omega) hh5]))
theorem con152(p q:Past)(hb:p.cloud.length*16≤140737488350000)(hq:q.cloud.length*16≤140737488350000):Con Tryz.prog 152 [.agg (c26 p),.agg (c26 q)] (.i .i64 (Ac0 p q)) :=
 by
 have D:∀ {r:Int} {u v:List Int},u=(A5 p).vec→v=(A5 q).vec→0≤r→r < 16→∀ {a b:Int},u[r.toNat]! = a→v[r.toNat]! = b→¬ a=b→Ah3 (A5 p).vec (A5 q).vec r→J0 a b=Ac0 p q:=by
  intro r u v e1 e3 h0 h1 a b ha hb hn h
  rw[e1]at ha
  rw[e3]at hb
  have e:=B2z h0 h1 (by rw[ha,hb];exact hn) h
  rw[ha,hb]at e
  exact(B9d e (A16 hn)).symm
 have N:∀ {r:Int} {u v:List Int} {c d:List Span},u=(A5 p).vec→c=(A5 p).cloud→v=(A5 q).vec→d=(A5 q).cloud→0≤r→r < 16→∀ {a b:Int},u[r.toNat]! = a→v[r.toNat]! = b→¬ ¬ a=b→Ah3 (A5 p).vec (A5 q).vec r→Ak8 (A5 p) (A5 q) (r+1) u c v d:=by
  intro r u v c d e1 e2 e3 e4 h0 h1 a b ha hb hn h
  have e:=B30 h0 h1 (by rw[← e1,← e3,ha,hb];exact Classical.not_not.1 hn) h
  exact⟨e1,e2,e3,e4,e.1,e.2.1,e.2.2⟩
 refine sC B1 [.tmp 4] 49 Tryz.func152 ?_
 intro e0 cx
 refine sq<|rG cx [2,3] [2,3] z0<|sn<|sq<|rA cx [5,6] [5,6] (fT (Ab7 (p) (by(with_reducible assumption))) (fT (Ab7 (q) (by(with_reducible assumption))) (oA 1 (.agg [.sl (List.map c3 (A5 p).vec),.sl (List.map B7 (A5 p).cloud)]) (oA 3 (.agg [.sl (List.map c3 (A5 q).vec),.sl (List.map B7 (A5 q).cloud)]) z0))))<|sn<|sq<|sq<|rG cx [5,6,14] [5,6] z0<|sn<|bL 0<|sL (X:=Int×List Int×List Span×List Int×List Span) (fun x=>⟨[(5,.ptr (5) (0) (0) (0)),(6,.ptr (6) (0) (0) (0)),(14,.i .i64 (x.1))],[(5,⟨0,26,.var [.sl (List.map c3 x.2.1),.sl (List.map B7 x.2.2.1)]⟩),(6,⟨0,26,.var [.sl (List.map c3 x.2.2.2.1),.sl (List.map B7 x.2.2.2.2)]⟩)]⟩) (fun x ↦ decCq x.1 x.2.1 x.2.2.1 x.2.2.2.1 x.2.2.2.2) (fun x ↦ Ak8 (A5 p) (A5 q) x.1 x.2.1 x.2.2.1 x.2.2.2.1 x.2.2.2.2) [5,6,14] [5,6] (((0:Int),(A5 p).vec,(A5 p).cloud,(A5 q).vec,(A5 q).cloud)) (show Ak8 (A5 p) (A5 q) (0:Int) (A5 p).vec (A5 p).cloud (A5 q).vec (A5 q).cloud from(by exact⟨Eq.refl _,Eq.refl _,Eq.refl _,Eq.refl _,by omega,by omega,Eq.refl _⟩)) ?_
 rintro⟨r0,u1,c2,v3,d4⟩ h_5
 obtain⟨h6,h7,h8,h9,h10,h11,h12⟩:u1=(A5 p).vec∧c2=(A5 p).cloud∧v3=(A5 q).vec∧d4=(A5 q).cloud∧0≤r0∧r0≤16∧Ah3 (A5 p).vec (A5 q).vec r0:=h_5
 refine rE cx [5,6,14,15] [5,6] (zB 0 (r0 <(16:Int))) (fun h13=>?_) fun h13=>?_
 refine sK<|sn<|sq<|bL 1<|sq<|rG cx [5,6,14,7] [5,6] z0<|sn<|sq<|rG cx [5,6,14,7,8,9] [5,6] z0<|sn<|sq<|rD cx [5,6,14,7,8,9,21] [5,6] (tL 3 c3 u1 (zB 4 (r0 <(↑u1.length:Int)))) (fun h14=>?_) fun h14=>?_
 refine rG cx [5,6,14,7,8,9] [5,6] (fA (0≤r0) (fG c3 u1 r0.toNat (fR 1 (oR 3 (c3 u1[r0.toNat]!) z0))))<|sn<|sq<|rD cx [5,6,14,7,8,9,31] [5,6] (tL 3 c3 v3 (zB 4 (r0 <(↑v3.length:Int)))) (fun h15=>?_) fun h15=>?_
 refine rG cx [5,6,14,8,9] [5,6] (fA (0≤r0) (fG c3 v3 r0.toNat (fR 1 (oR 3 (c3 v3[r0.toNat]!) z0))))<|sn<|sq<|rG cx [5,6,14,8,9,39] [5,6] (tN 2 u1[r0.toNat]! v3[r0.toNat]! z0)<|sn<|dC (¬u1[r0.toNat]! = v3[r0.toNat]!) (fun h16=>?_) fun h16=>?_
 refine sq<|rG cx [4] [] (fT (A6u (u1[r0.toNat]!) (v3[r0.toNat]!)) (oA 2 (.i .i64 (J0 u1[r0.toNat]! v3[r0.toNat]!)) z0))<|sn<|rT<|bR<|nR<|nR<|bR<|nR<|qR (.i .i64 (J0 u1[r0.toNat]! v3[r0.toNat]!)) (.eq (by exact congrArg (AV.i .i64) (D h6 h8 h10 h13 (Eq.refl _) (Eq.refl _) h16 h12)))
 refine sK<|bN<|sn<|rG cx [5,6,14] [5,6] (tW 0 (r0+1) z0)<|sn<|nX ((r0+1,u1,c2,v3,d4)) (show(16-(r0+1)).toNat <(16-r0).toNat from(by omega)) (show Ak8 (A5 p) (A5 q) (r0+1) u1 c2 v3 d4 from(by exact N h6 h7 h8 h9 h10 h13 (Eq.refl _) (Eq.refl _) h16 h12))
 refine sK<|sn<|sq<|rG cx [5,6,14,8,9,39] [5,6] (tN 2 u1[r0.toNat]! (0:Int) z0)<|sn<|dC (¬u1[r0.toNat]! =(0:Int)) (fun h17=>?_) fun h17=>?_
 refine sq<|rG cx [4] [] (fT (A6u (u1[r0.toNat]!) ((0:Int))) (oA 2 (.i .i64 (J0 u1[r0.toNat]! (0:Int))) z0))<|sn<|rT<|bR<|nR<|nR<|bR<|nR<|qR (.i .i64 (J0 u1[r0.toNat]! (0:Int))) (.eq (by exact congrArg (AV.i .i64) (D h6 h8 h10 h13 (Eq.refl _) (O6 h10 h15) h17 h12)))
 refine sK<|bN<|sn<|rG cx [5,6,14] [5,6] (tW 0 (r0+1) z0)<|sn<|nX ((r0+1,u1,c2,v3,d4)) (show(16-(r0+1)).toNat <(16-r0).toNat from(by omega)) (show Ak8 (A5 p) (A5 q) (r0+1) u1 c2 v3 d4 from(by exact N h6 h7 h8 h9 h10 h13 (Eq.refl _) (O6 h10 h15) h17 h12))
 refine sK<|sn<|sq<|rD cx [5,6,14,7,8,9,31] [5,6] (tL 3 c3 v3 (zB 4 (r0 <(↑v3.length:Int)))) (fun h18=>?_) fun h18=>?_
 refine rG cx [5,6,14,8,9] [5,6] (fA (0≤r0) (fG c3 v3 r0.toNat (fR 1 (oR 3 (c3 v3[r0.toNat]!) z0))))<|sn<|sq<|rG cx [5,6,14,8,9,39] [5,6] (tN 2 (0:Int) v3[r0.toNat]! z0)<|sn<|dC (¬0=v3[r0.toNat]!) (fun h19=>?_) fun h19=>?_
 refine sq<|rG cx [4] [] (fT (A6u ((0:Int)) (v3[r0.toNat]!)) (oA 2 (.i .i64 (J0 (0:Int) v3[r0.toNat]!)) z0))<|sn<|rT<|bR<|nR<|nR<|bR<|nR<|qR (.i .i64 (J0 (0:Int) v3[r0.toNat]!)) (.eq (by exact congrArg (AV.i .i64) (D h6 h8 h10 h13 (O6 h10 h14) (Eq.refl _) h19 h12)))
 refine sK<|bN<|sn<|rG cx [5,6,14] [5,6] (tW 0 (r0+1) z0)<|sn<|nX ((r0+1,u1,c2,v3,d4)) (show(16-(r0+1)).toNat <(16-r0).toNat from(by omega)) (show Ak8 (A5 p) (A5 q) (r0+1) u1 c2 v3 d4 from(by exact N h6 h7 h8 h9 h10 h13 (O6 h10 h14) (Eq.refl _) h19 h12))
 refine sK<|sn<|sq<|rG cx [5,6,14,8,9,39] [5,6] z0<|sn<|W7 (by kernel_rfl) (by kernel_rfl)<|sK<|bN<|sn<|rG cx [5,6,14] [5,6] (tW 0 (r0+1) z0)<|sn<|nX ((r0+1,u1,c2,v3,d4)) (show(16-(r0+1)).toNat <(16-r0).toNat from(by omega)) (show Ak8 (A5 p) (A5 q) (r0+1) u1 c2 v3 d4 from(by exact N h6 h7 h8 h9 h10 h13 (O6 h10 h14) (O6 h10 h18) (fun k=>k (Eq.refl _)) h12))
 refine eX 0<|nE<|nE<|bH<|sn<|sq<|rG cx [4] [] (fT (con188 (c2) (d4)) (oA 4 (.i .i64 (O3 c2 d4)) z0))<|sn<|rT<|qR (.i .i64 (O3 c2 d4)) (.eq (by rw[h7,h9,A8d (Ac3 h11 h13 h12)]))
end Go.Proofs.YtaiepnaokhpmcaaGreat
namespace Go.Proofs.YtaiepnaokhpmcaaGreat
open Go.E
set_option maxRecDepth 100000
set_option maxHeartbeats 4000000
theorem A17(a b:UInt8)(x y:List UInt8):Go.Op.bytesLess (a :: x) (b :: y)=true↔a.toNat < b.toNat∨(a=b∧Go.Op.bytesLess x y=true):=by
 rw[Go.Op.bytesLess,Bool.or_eq_true,Bool.and_eq_true,decide_eq_true_eq,beq_iff_eq,UInt8.lt_iff_toNat_lt]
theorem B9f:∀ l:List UInt8,¬ Go.Op.bytesLess l l=true
 | []=>by simp [Go.Op.bytesLess]
 | a :: l=>by
  rw[A17]
  rintro(h | h)
  ·omega
  ·exact B9f l h.2
theorem Ar7:∀ {x y z:List UInt8},Go.Op.bytesLess x y=true→Go.Op.bytesLess y z=true→Go.Op.bytesLess x z=true
 | _,[],_,h,_=>by cases ‹List UInt8› <;> simp [Go.Op.bytesLess]at h
 | _,_ :: _,[],_,h=>by simp [Go.Op.bytesLess]at h
 | [],_ :: _,c :: z,_,_=>by simp [Go.Op.bytesLess]
 | a :: x,b :: y,c :: z,h1,h2=>by
  rw[A17]at *
  rcases h1 with h1 | ⟨rfl,h1⟩
  ·rcases h2 with h2 | ⟨rfl,h2⟩
   ·exact .inl (by omega)
   ·exact .inl h1
  ·rcases h2 with h2 | ⟨rfl,h2⟩
   ·exact .inl h2
   ·exact .inr ⟨rfl,Ar7 h1 h2⟩
theorem Ar8:∀ {x y:List UInt8},¬ Go.Op.bytesLess x y=true→¬ Go.Op.bytesLess y x=true→x=y
 | [],[],_,_=>rfl
 | [],b :: y,h,_=>by simp [Go.Op.bytesLess]at h
 | a :: x,[],_,h=>by simp [Go.Op.bytesLess]at h
 | a :: x,b :: y,h1,h2=>by
  rw[A17]at *
  have e:a=b:=UInt8.toNat_inj.1 (by omega)
  subst e
  rw[Ar8 (fun h=>h1 (.inr ⟨rfl,h⟩)) (fun h=>h2 (.inr ⟨rfl,h⟩))]
theorem A2s(x:ByteArray):¬ sLt x x=true:=B9f _
theorem A4p{x y z:ByteArray}(h1:sLt x y=true)(h2:sLt y z=true):sLt x z=true:=Ar7 h1 h2
theorem A1v{x y:ByteArray}(h1:¬ sLt x y=true)(h2:¬ sLt y x=true):x=y:=by
 have e:=Ar8 h1 h2
 rw[ByteArray.toList_eq,ByteArray.toList_eq]at e
 exact ByteArray.ext (Array.ext' e)
end Go.Proofs.YtaiepnaokhpmcaaGreat
namespace Go.Proofs.YtaiepnaokhpmcaaGreat
open Go.E
set_option maxRecDepth 100000
set_option maxHeartbeats 4000000
open Go Go.Lib Go.RowKit Go.Proofs
def Z6(a b:ByteArray):Int:=compareBytes a.data.toList b.data.toList
theorem Ac4:∀ x y:List UInt8,compareBytes x y=if Go.Op.bytesLess x y=true then -1 else if Go.Op.bytesLess y x=true then 1 else 0
 | [],[]=>rfl
 | [],b :: y=>by simp [compareBytes,Go.Op.bytesLess]
 | a :: x,[]=>by simp [compareBytes,Go.Op.bytesLess]
 | a :: x,b :: y=>by
  have ih:=Ac4 x y
  rw[compareBytes]
  by_cases h1:a < b
  ·rw[if_pos h1,if_pos ((A17 _ _ _ _).2 (.inl (UInt8.lt_iff_toNat_lt.1 h1)))]
  ·by_cases h2:b < a
   ·rw[if_neg h1,if_pos h2,if_neg,if_pos ((A17 _ _ _ _).2 (.inl (UInt8.lt_iff_toNat_lt.1 h2)))]
    rw[A17]
    rintro(k | ⟨rfl,_⟩)
    ·exact h1 (UInt8.lt_iff_toNat_lt.2 k)
    ·rw[UInt8.lt_iff_toNat_lt]at h2;omega
   ·have e:a=b:=UInt8.toNat_inj.1 (by rw[UInt8.lt_iff_toNat_lt]at h1 h2;omega)
    subst e
    rw[if_neg h1,if_neg h1,ih]
    have c:∀ u v:List UInt8,Go.Op.bytesLess (a :: u) (a :: v)=Go.Op.bytesLess u v:=fun u v=>by
     rw[Bool.eq_iff_iff,A17]
     constructor
     ·rintro(k | ⟨_,k⟩)
      ·omega
      ·exact k
     ·exact fun k=>.inr ⟨rfl,k⟩
    rw[c,c]
theorem L4(a b:ByteArray):Z6 a b=if sLt a b=true then -1 else if sLt b a=true then 1 else 0:=by
 unfold Z6 sLt
 rw[ByteArray.toList_eq,ByteArray.toList_eq]
 exact Ac4 _ _
set_option maxHeartbeats 4000000 in
theorem A8e (a b:ByteArray) (w:World):Calls Tryz.prog 186 #[.string a,.string b] w fun e w'=>e=.returned (.int .i64 (Z6 a b))∧w'=w:=by
 go_enter Tryz.func186,Tryz.ntmps186
 go_wp2
 rw[run_callFunc_extern Tryz.func209 (by kernel_rfl) (by kernel_rfl) (by kernel_rfl) (e:=Extern.BytealgCompare.compare) (by kernel_rfl),Lib.run_compareString]
 simp only [Result.andThen]
 rw[Oper.upon_value]
 go_wp2
 go_ret
 exact⟨rfl,rfl⟩
theorem con186(a b:ByteArray):Con Tryz.prog 186 [.s a,.s b] (.i .i64 (Z6 a b)):=by
 refine⟨⟨_,Tryz.func186,by kernel_rfl,by kernel_rfl⟩,fun w S0 vs hS hl hv=>?_⟩
 obtain⟨v,u,rfl⟩:∃ v u,vs=[v,u]:=by
  match vs,hl with
  | [v,u],_=>exact⟨v,u,rfl⟩
 have h1:=hv 0 _ v rfl rfl
 have h2:=hv 1 _ u rfl rfl
 cases h1
 cases h2
 refine(A8e a b w).mono ?_
 rintro e w' ⟨rfl,rfl⟩
 exact⟨_,rfl,.i _ _,Below.refl _ _⟩
theorem con151(a b:ByteArray):Con Tryz.prog 151 [.s a,.s b] (.i .i64 (Z6 a b)) :=
 by
 refine sC B1 [.tmp 4] 8 Tryz.func151 ?_
 intro e0 cx
 refine sq<|rG cx [0,1] [] z0<|sn<|sq<|rG cx [4] [] (fT (con186 (a) (b)) (oA 2 (.i .i64 (Z6 a b)) z0))<|sn<|rT ?_
 exact A3f (r:=.i .i64 (Z6 a b)) (obl:=[]) (by kernel_rfl) trivial (B8.refl _)
end Go.Proofs.YtaiepnaokhpmcaaGreat
namespace Go.Proofs.YtaiepnaokhpmcaaGreat
open Go.E
set_option maxRecDepth 100000
set_option maxHeartbeats 4000000
def I2:List Run→Int
 | []=>0
 | r :: l=>r.hi-r.lo+1+I2 l
theorem B31(a b:List Run):I2 (a++b)=I2 a+I2 b:=by
 induction a with
 | nil=>simp [I2]
 | cons e a ih=>simp only [List.cons_append,I2,ih];omega
end Go.Proofs.YtaiepnaokhpmcaaGreat
namespace Go.Proofs.YtaiepnaokhpmcaaGreat
open Go.E
set_option maxRecDepth 100000
set_option maxHeartbeats 4000000
def sizeT(T:Nat→List Run):Nat→Int
 | 0=>0
 | n+1=>sizeT T n+I2 (nrm (T n))
theorem B32(p:Past):∃ n:Int,n=sizeT (B5 [p]) 16:=⟨_,rfl⟩
noncomputable def E3(p:Past):Int:=Classical.choose (B32 p)
theorem A8f(p:Past):E3 p=sizeT (B5 [p]) 16:=Classical.choose_spec (B32 p)
theorem A4q:∀ {l:List Run},V3 l→0≤I2 l∧(I2 l=0→l=[])
 | [],_=>⟨Int.le_refl _,fun _=>rfl⟩
 | r :: l,h=>by
  have hr:=h.2 r (by simp)
  have ih:=(A4q (K1 h)).1
  rw[I2]
  exact⟨by omega,fun k=>by omega⟩
theorem Ar9:∀ {l:List Run},V3 l→∀ m:Int,(∀ r∈l,m≤r.lo)→I2 l≤1000000001-m∨l=[]
 | [],_,m,_=>.inr rfl
 | r :: l,h,m,hm=>by
  have hr:=h.2 r (by simp)
  have h1:=hm r (by simp)
  have pa:=(List.pairwise_cons.1 h.1).1
  rw[I2]
  rcases Ar9 (K1 h) (r.hi+1) (fun x hx=>by have:=pa x hx;omega)with k | k
  ·left;omega
  ·subst k
   left
   rw[I2]
   omega
theorem A1w{l:List Run}(h:V3 l):0≤I2 l∧I2 l≤1000000000:=by
 refine⟨(A4q h).1,?_⟩
 rcases Ar9 h 1 (fun r hr=>(h.2 r hr).1)with k | k
 ·omega
 ·subst k;simp [I2]
theorem A1x(T:Nat→List Run):∀ n:Nat,0≤sizeT T n∧sizeT T n≤n*1000000000
 | 0=>by simp [sizeT]
 | n+1=>by
  have:=A1x T n
  have:=A1w (E8 (T n))
  rw[sizeT]
  omega
theorem A6v(T:Nat→List Run):∀ n:Nat,sizeT T n=0↔∀ r:Nat,r < n→nrm (T r)=[]
 | 0=>by simp [sizeT]
 | n+1=>by
  have h1:=A1x T n
  have h2:=A4q (E8 (T n))
  have ih:=A6v T n
  rw[sizeT]
  constructor
  ·intro k r hr
   by_cases e:r=n
   ·rw[e];exact h2.2 (by omega)
   ·exact ih.1 (by omega) r (by omega)
  ·intro k
   rw[ih.2 fun r hr=>k r (by omega),k n (by omega)]
   rfl
theorem A4r{a:List Run}:nrm a=[]↔∀ n,¬ inR (nrm a) n:=by
 constructor
 ·intro h n k
  rw[h]at k
  obtain⟨r,hr,_⟩:=k
  cases hr
 ·intro h
  cases e:nrm a with
  | nil=>rfl
  | cons r l =>
   have hs:=E8 a
   rw[e]at hs h
   have:=hs.2 r (by simp)
   exact absurd ⟨r,by simp,Int.le_refl _,this.2.1⟩ (h r.lo)
theorem A0j(p:Past):E3 p=0↔∀ d,C5 p d=false:=by
 rw[A8f,A6v]
 constructor
 ·intro h d
  rw[← X5,← Bool.not_eq_true]
  intro k
  unfold A5 at k
  rw[X4]at k
  have hb:=H5 k.1
  have:=A4r.1 (h d.rep.toNat (by omega)) d.num
  rw[Y5]at this
  exact this ⟨by omega,by omega,k.2⟩
 ·intro h r hr
  refine A4r.2 fun n k=>?_
  rw[Y5]at k
  have hd:A0f ⟨r,n⟩=true:=by unfold A0f;rw[decide_eq_true_eq];simp only;omega
  have h1:=h ⟨r,n⟩
  rw[← X5,← Bool.not_eq_true]at h1
  refine h1 ?_
  unfold A5
  rw[X4]
  exact⟨hd,k.2.2⟩
theorem A3v(d:Dot):C5 ⟨[],[]⟩ d=false:=by
 unfold C5
 cases h:A0f d with
 | false=>rfl
 | true =>
  have hb:=H5 h
  simp
  omega
theorem A1y:A5 ⟨[],[]⟩=⟨[],[]⟩:=by
 have h1:∀ r:Nat,r < 16→B5 [⟨[],[]⟩] r=[]:=fun r hr=>by simp [B5,Az3,S7]
 have h2:nrm []=[]:=by
  refine A4r.2 fun n k=>?_
  rw[Y5]at k
  obtain⟨r,hr,_⟩:=k.2.2
  cases hr
 unfold A5
 rw[A0g (U:=fun _=>[]) fun r hr=>h1 r hr]
 have l0:∀ r,A0o (fun _=>[]) r=0:=fun r=>by unfold A0o;rw[h2];rfl
 have s0:∀ n,szT (fun _=>[]) n=0:=fun n=>by
  induction n with
  | zero=>rfl
  | succ n ih=>rw[szT,if_neg (by rw[l0];omega),ih]
 have c0:∀ n,J3 (fun _=>[]) n=[]:=fun n=>by
  induction n with
  | zero=>rfl
  | succ n ih=>rw[J3,ih];unfold X2;rw[h2];rfl
 unfold H3
 rw[s0,c0]
 rfl
theorem A2t{p:Past}(h:p=A5 p):E3 p=0↔p=⟨[],[]⟩:=by
 rw[A0j]
 constructor
 ·exact fun k=>Ar4 h A1y.symm fun d=>by rw[k d,A3v]
 ·intro k d
  rw[k,A3v]
end Go.Proofs.YtaiepnaokhpmcaaGreat
namespace Go.Proofs.YtaiepnaokhpmcaaGreat
open Go.E
set_option maxRecDepth 100000
set_option maxHeartbeats 4000000
def Q8(c:Int):Bool:=decide (65≤c∧c≤90)
def T9(c:Int):Bool:=decide (48≤c∧c≤57)
def G8(c:Int):Bool:=decide (c=45∨c=46)
def J5(s:ByteArray)(i:Nat):Bool:=Q8 (byt s i) || T9 (byt s i) || (G8 (byt s i) && decide (i≠0∧i+1≠s.size) && !G8 (byt s (i-1)))
def Ak9(p:Nat→Bool):Nat→Bool
 | 0=>true
 | n+1=>Ak9 p n && p n
theorem K2(p:Nat→Bool):∀ n,Ak9 p n=true↔∀ i,i < n→p i=true
 | 0=>by simp [Ak9]
 | n+1=>by
  rw[Ak9,Bool.and_eq_true,K2 p n]
  constructor
  ·rintro⟨h1,h2⟩ i hi
   by_cases e:i=n
   ·rw[e];exact h2
   ·exact h1 i (by omega)
  ·intro h;exact⟨fun i hi=>h i (by omega),h n (by omega)⟩
def A4s(s:ByteArray):Int:=if s.size=0 then 20 else if 24 < s.size then 21 else if Ak9 (J5 s) s.size=true then 0 else 22
def U0(s:ByteArray):Bool:=decide (A4s s=0)
def B9g(s:ByteArray)(i:Int):Prop:=0≤i∧i≤s.size∧∀ j:Nat,(j:Int) < i→J5 s j=true
def decG(s:ByteArray)(i:Int):Nat:=(s.size-i).toNat
theorem As0{s:ByteArray}(h0:¬ s.size=0)(h1:¬ 24 < s.size){i:Nat}(hi:i < s.size)(h:J5 s i=false):A4s s=22:=by
 unfold A4s
 rw[if_neg h0,if_neg h1,if_neg]
 intro k
 have:=(K2 _ _).1 k i hi
 rw[h]at this;cases this
theorem B33{s:ByteArray}(h0:¬ s.size=0)(h1:¬ 24 < s.size)(h:∀ j:Nat,j < s.size→J5 s j=true):A4s s=0:=by
 unfold A4s
 rw[if_neg h0,if_neg h1,if_pos ((K2 _ _).2 h)]
theorem A1z(s:ByteArray):s.size=0↔s=⟨#[]⟩:=by
 constructor
 ·intro h;exact ByteArray.ext (Array.eq_empty_of_size_eq_zero h)
 ·rintro rfl;rfl
theorem L5(s:ByteArray)(i:Nat):J5 s i=true↔Q8 (byt s i)=true∨T9 (byt s i)=true∨(G8 (byt s i)=true∧i≠0∧i+1≠s.size∧¬ G8 (byt s (i-1))=true):=by
 unfold J5
 cases Q8 (byt s i) <;> cases T9 (byt s i) <;> cases G8 (byt s i) <;> cases G8 (byt s (i-1)) <;> simp
theorem A4t{s:ByteArray}{i:Int}(h0:0≤i)(h1:i < s.size)(h2:∀ j:Nat,(j:Int) < i→J5 s j=true)(h:J5 s i.toNat=true):B9g s (i+1) :=
 ⟨by omega,by omega,fun j hj=>by
  by_cases e:j=i.toNat
  ·rw[e];exact h
  ·exact h2 j (by omega)⟩
theorem V6{s:ByteArray}{i:Nat}(h:¬ J5 s i=true):J5 s i=false:=by simpa using h
theorem B9h(c:Int):Con Tryz.prog 201 [.i .u8 c] (.b (Q8 c)) :=
 by
 refine sC B1 [.tmp 2] 9 Tryz.func201 ?_
 intro e0 cx
 refine sq<|rG cx [0] [] z0<|sn<|sq<|B4 (σ':=⟨[(2,.b (decide (65≤c∧c≤90)))],[]⟩) ?_ ?_
 refine A4 (65≤c) (fun h_1=>?_) (fun h_1=>?_)
 refine rG cx [2] [] (tT 1 (A6 h_1) (tB 4 (c≤90) (tD 6 (decide (c≤90)) (65≤c∧c≤90) (by simp only [eq_true h_1,tsl]) z0))) ?_
 exact⟨rfl,by kernel_rfl⟩
 refine rG cx [2] [] (tT 1 (A3 h_1) (tD 6 false (65≤c∧c≤90) (by simp only [eq_false h_1,tsl]) z0)) ?_
 exact⟨rfl,by kernel_rfl⟩
 refine sn<|rT<|qR (.b (decide (65≤c∧c≤90))) (.eq ?g0);rotate_left
 case g0=>exact rfl
theorem con202(c:Int):Con Tryz.prog 202 [.i .u8 c] (.b (T9 c)) :=
 by
 refine sC B1 [.tmp 2] 9 Tryz.func202 ?_
 intro e0 cx
 refine sq<|rG cx [0] [] z0<|sn<|sq<|B4 (σ':=⟨[(2,.b (decide (48≤c∧c≤57)))],[]⟩) ?_ ?_
 refine A4 (48≤c) (fun h_1=>?_) (fun h_1=>?_)
 refine rG cx [2] [] (tT 1 (A6 h_1) (tB 4 (c≤57) (tD 6 (decide (c≤57)) (48≤c∧c≤57) (by simp only [eq_true h_1,tsl]) z0))) ?_
 exact⟨rfl,by kernel_rfl⟩
 refine rG cx [2] [] (tT 1 (A3 h_1) (tD 6 false (48≤c∧c≤57) (by simp only [eq_false h_1,tsl]) z0)) ?_
 exact⟨rfl,by kernel_rfl⟩
 refine sn<|rT<|qR (.b (decide (48≤c∧c≤57))) (.eq ?g0);rotate_left
 case g0=>exact rfl
theorem Ac5(c:Int):Con Tryz.prog 203 [.i .u8 c] (.b (G8 c)) :=
 by
 refine sC B1 [.tmp 2] 9 Tryz.func203 ?_
 intro e0 cx
 refine sq<|rG cx [0] [] z0<|sn<|sq<|B4 (σ':=⟨[(2,.b (decide (c=45∨c=46)))],[]⟩) ?_ ?_
 refine A4 (c=45) (fun h_1=>?_) (fun h_1=>?_)
 refine rG cx [2] [] (tT 1 (A6 h_1) (tD 6 true (c=45∨c=46) (by simp only [eq_true h_1,tsl]) z0)) ?_
 exact⟨rfl,by kernel_rfl⟩
 refine rG cx [2] [] (tT 1 (A3 h_1) (tB 4 (c=46) (tD 6 (decide (c=46)) (c=45∨c=46) (by simp only [eq_false h_1,tsl]) z0))) ?_
 exact⟨rfl,by kernel_rfl⟩
 refine sn<|rT<|qR (.b (decide (c=45∨c=46))) (.eq ?g0);rotate_left
 case g0=>exact rfl
theorem B9i(c:Int):Con Tryz.prog 232 [.i .u8 c] (.b (Q8 c)) :=
 by
 refine sC B1 [.tmp 2] 9 Tryz.func232 ?_
 intro e0 cx
 refine sq<|rG cx [0] [] z0<|sn<|sq<|B4 (σ':=⟨[(2,.b (decide (65≤c∧c≤90)))],[]⟩) ?_ ?_
 refine A4 (65≤c) (fun h_1=>?_) (fun h_1=>?_)
 refine rG cx [2] [] (tT 1 (A6 h_1) (tB 4 (c≤90) (tD 6 (decide (c≤90)) (65≤c∧c≤90) (by simp only [eq_true h_1,tsl]) z0))) ?_
 exact⟨rfl,by kernel_rfl⟩
 refine rG cx [2] [] (tT 1 (A3 h_1) (tD 6 false (65≤c∧c≤90) (by simp only [eq_false h_1,tsl]) z0)) ?_
 exact⟨rfl,by kernel_rfl⟩
 refine sn<|rT<|qR (.b (decide (65≤c∧c≤90))) (.eq ?g0);rotate_left
 case g0=>exact rfl
theorem con233(c:Int):Con Tryz.prog 233 [.i .u8 c] (.b (T9 c)) :=
 by
 refine sC B1 [.tmp 2] 9 Tryz.func233 ?_
 intro e0 cx
 refine sq<|rG cx [0] [] z0<|sn<|sq<|B4 (σ':=⟨[(2,.b (decide (48≤c∧c≤57)))],[]⟩) ?_ ?_
 refine A4 (48≤c) (fun h_1=>?_) (fun h_1=>?_)
 refine rG cx [2] [] (tT 1 (A6 h_1) (tB 4 (c≤57) (tD 6 (decide (c≤57)) (48≤c∧c≤57) (by simp only [eq_true h_1,tsl]) z0))) ?_
 exact⟨rfl,by kernel_rfl⟩
 refine rG cx [2] [] (tT 1 (A3 h_1) (tD 6 false (48≤c∧c≤57) (by simp only [eq_false h_1,tsl]) z0)) ?_
 exact⟨rfl,by kernel_rfl⟩
 refine sn<|rT<|qR (.b (decide (48≤c∧c≤57))) (.eq ?g0);rotate_left
 case g0=>exact rfl
theorem B9j(c:Int):Con Tryz.prog 234 [.i .u8 c] (.b (G8 c)) :=
 by
 refine sC B1 [.tmp 2] 9 Tryz.func234 ?_
 intro e0 cx
 refine sq<|rG cx [0] [] z0<|sn<|sq<|B4 (σ':=⟨[(2,.b (decide (c=45∨c=46)))],[]⟩) ?_ ?_
 refine A4 (c=45) (fun h_1=>?_) (fun h_1=>?_)
 refine rG cx [2] [] (tT 1 (A6 h_1) (tD 6 true (c=45∨c=46) (by simp only [eq_true h_1,tsl]) z0)) ?_
 exact⟨rfl,by kernel_rfl⟩
 refine rG cx [2] [] (tT 1 (A3 h_1) (tB 4 (c=46) (tD 6 (decide (c=46)) (c=45∨c=46) (by simp only [eq_false h_1,tsl]) z0))) ?_
 exact⟨rfl,by kernel_rfl⟩
 refine sn<|rT<|qR (.b (decide (c=45∨c=46))) (.eq ?g0);rotate_left
 case g0=>exact rfl
theorem con199(s:ByteArray)(i:Int)(h0:0≤i)(h1:i < s.size)(h2:s.size≤24):Con Tryz.prog 199 [.s s,.i .i64 i] (.b (J5 s i.toNat)) :=
 by
 refine sC B1 [.tmp 4] 33 Tryz.func199 ?_
 intro e0 cx
 refine sq<|rG cx [0,1] [] z0<|sn<|sq ?_
 have hl_0:=(W6 s)
 have hl_1:=(W6 s i.toNat)
 refine rG cx [0,1,5] [] (fA (0≤i) (fP (Option.map (fun b ↦ (↑b.toNat:Int)) s[i.toNat]?=some (byt s i.toNat)) (by(with_reducible refine A7s ?_;omega)) (oA 2 (.i .u8 (byt s i.toNat)) z0))) ?_
 refine sn<|sq<|sq<|B4 (σ':=⟨[(0,.s (s)),(1,.i .i64 (i)),(5,.i .u8 (byt s i.toNat)),(14,.b (decide (Q8 (byt s i.toNat)=true∨T9 (byt s i.toNat)=true)))],[]⟩) ?_ ?_
 refine A4 (Q8 (byt s i.toNat)=true) (fun h_3=>?_) (fun h_3=>?_)
 refine rg (A:=_∧_∧(AV.b true=AV.b (decide (Q8 (byt s i.toNat)=true∨T9 (byt s i.toNat)=true)))) cx [(1,{ val:=some (.b (Q8 (byt s i.toNat))),tell:=some (.b (true)) }),(5,{ tell:=some (.b (decide (Q8 (byt s i.toNat)=true∨T9 (byt s i.toNat)=true))) })] [0,1,5,14] [] ⟨(I7 h_3),(B9i (byt s i.toNat)),(by simp only [eq_true h_3,tsl])⟩ ?_
 exact⟨rfl,by kernel_rfl⟩
 refine rg (A:=_∧_∧_∧(AV.b (T9 (byt s i.toNat))=AV.b (decide (Q8 (byt s i.toNat)=true∨T9 (byt s i.toNat)=true)))) cx [(1,{ val:=some (.b (Q8 (byt s i.toNat))),tell:=some (.b (false)) }),(4,{ val:=some (.b (T9 (byt s i.toNat))) }),(5,{ tell:=some (.b (decide (Q8 (byt s i.toNat)=true∨T9 (byt s i.toNat)=true))) })] [0,1,5,14] [] ⟨(F4 h_3),(B9i (byt s i.toNat)),(con233 (byt s i.toNat)),(by simp only [eq_false h_3,tsl])⟩ ?_
 exact⟨rfl,by kernel_rfl⟩
 refine sn<|dC (Q8 (byt s i.toNat)=true∨T9 (byt s i.toNat)=true) (fun h4=>?_) fun h4=>?_
 refine sq<|rG cx [4] [] z0<|sn<|rT<|nR<|qR (.b (true)) (.eq ?g0);rotate_left
 refine sK<|sn<|sq<|sq<|rG cx [0,1,17] [] (fT (B9j (byt s i.toNat)) (tT 2 (D0:(AV.b !G8 (byt s i.toNat))=AV.b (decide ¬G8 (byt s i.toNat)=true)) (oA 1 (.b (G8 (byt s i.toNat))) z0)))<|sn<|dC (¬G8 (byt s i.toNat)=true) (fun h5=>?_) fun h5=>?_
 refine sq<|rG cx [4] [] z0<|sn<|rT<|nR<|qR (.b (false)) (.eq ?g1);rotate_left
 refine sK<|sn<|sq<|sq<|B4 (σ':=⟨[(0,.s (s)),(1,.i .i64 (i)),(26,.b (decide (i=0∨i=(↑s.size:Int)-1)))],[]⟩) ?_ ?_
 refine A4 (i=0) (fun h_7=>?_) (fun h_7=>?_)
 refine rG cx [0,1,26] [] (tT 1 (A6 h_7) (tD 8 true (i=0∨i=(↑s.size:Int)-1) (by simp only [eq_true h_7,tsl]) z0)) ?_
 exact⟨rfl,by kernel_rfl⟩
 refine rG cx [0,1,26] [] (tT 1 (A3 h_7) (tW 6 ((↑s.size:Int)-1) (tB 7 (i=(↑s.size:Int)-1) (tD 8 (decide (i=(↑s.size:Int)-1)) (i=0∨i=(↑s.size:Int)-1) (by simp only [eq_false h_7,tsl]) z0)))) ?_
 exact⟨rfl,by kernel_rfl⟩
 refine sn<|dC (i=0∨i=(↑s.size:Int)-1) (fun h8=>?_) fun h8=>?_
 refine sq<|rG cx [4] [] z0<|sn<|rT<|nR<|qR (.b (false)) (.eq ?g2);rotate_left
 refine sK<|sn<|sq ?_
 have hl_9:=(W6 s (i-1).toNat)
 refine rG cx [4] [] (tW 2 (i-1) (fO (0≤i-1) (fP (Option.map (fun b ↦ (↑b.toNat:Int)) s[(i-1).toNat]?=some (byt s (i-1).toNat)) (by(with_reducible refine A7s ?_;omega)) (fT (B9j (byt s (i-1).toNat)) (tT 5 (D0:(AV.b !G8 (byt s (i-1).toNat))=AV.b (decide ¬G8 (byt s (i-1).toNat)=true)) (oA 3 (.i .u8 (byt s (i-1).toNat)) (oA 4 (.b (G8 (byt s (i-1).toNat))) z0))))))) ?_
 refine sn<|rT<|qR (.b (decide ¬G8 (byt s (i-1).toNat)=true)) (.eq ?g3);rotate_left
 revert h4;rotate_left
 revert h4 h5;rotate_left
 revert h4 h5 h8;rotate_left
 revert h4 h5 h8;rotate_left
 case' g3=>refine(fun h k l=>?_)
 case' g2=>refine(fun h k l=>?_)
 case' g1=>refine(fun h k=>?_)
 case' g0=>refine(fun h=>?_)
 ·rw[(L5 s i.toNat).2 (h.elim .inl fun h=>.inr (.inl h))]
 ·rw[V6];rw[L5];rintro(a | a | a)
  ·exact h (.inl a)
  ·exact h (.inr a)
  ·exact k a.1
 ·rw[V6];rw[L5];rintro(a | a | a)
  ·exact h (.inl a)
  ·exact h (.inr a)
  ·omega
 ·have e:(i-1).toNat=i.toNat-1:=by omega
  rw[e]
  by_cases m:G8 (byt s (i.toNat-1))=true
  ·rw[V6]
   ·rw[m];rfl
   ·rw[L5];rintro(a | a | a)
    ·exact h (.inl a)
    ·exact h (.inr a)
    ·exact a.2.2.2 m
  ·rw[(L5 s i.toNat).2 (.inr (.inr ⟨Classical.not_not.1 k,by omega,by omega,m⟩)),decide_eq_true m]
theorem B9k(s:ByteArray):Con Tryz.prog 172 [.s s] (.tup [.dead,.i .i64 (A4s s)]) :=
 by
 refine sC B1 [.tmp 2,.tmp 3] 48 Tryz.func172 ?_
 intro e0 cx
 refine sq<|rG cx [0] [] z0<|sn<|sq<|sq<|rG cx [0,7] [] (tT 1 (A3r:AV.b (s.toList == { data:=#[]:ByteArray }.toList)=AV.b (decide (s={ data:=#[]:ByteArray }))) z0)<|sn<|dC (s={ data:=#[]:ByteArray }) (fun hh0=>?_) fun hh0=>?_
 refine sq<|rG cx [2,3] [] z0<|sn<|rT<|nR<|qR (.tup [.i .i64 ((0:Int)),.i .i64 ((20:Int))]) (B8.tup (ZLe.cons B8.dead (ZLe.cons (B8.eq (show AV.i .i64 20=AV.i .i64 (A4s s)from ?g0)) ZLe.nil)));rotate_left
 refine sK<|sn<|sq<|rD cx [0,10] [] (zB 2 ((24:Int) <(↑s.size:Int))) (fun hh1=>?_) fun hh1=>?_
 refine sq<|rG cx [2,3] [] z0<|sn<|rT<|nR<|qR (.tup [.i .i64 ((0:Int)),.i .i64 ((21:Int))]) (B8.tup (ZLe.cons B8.dead (ZLe.cons (B8.eq (show AV.i .i64 21=AV.i .i64 (A4s s)from ?g1)) ZLe.nil)));rotate_left
 refine sK<|sn<|sq<|sq<|rG cx [0,12,13] [] z0<|sn<|bL 0<|sL (X:=Int) (fun x=>⟨[(0,.s (s)),(12,.i .i64 ((↑s.size:Int))),(13,.i .i64 (x))],[]⟩) (fun x ↦ decG s x) (fun x ↦ B9g s x) [0,12,13] [] ((0:Int)) (show B9g s (0:Int)from ?g2) ?_;rotate_left
 intro i2 h_3
 obtain⟨hh4,hh5,h6⟩:0≤i2∧i2≤(↑s.size:Int)∧∀(j:Nat),(↑j:Int) < i2→J5 s j=true:=h_3
 refine rE cx [0,12,13,14] [] (zB 0 (i2 <(↑s.size:Int))) (fun h7=>?_) fun h7=>?_
 refine sK<|sn<|sq<|bL 1<|sq<|rG cx [0,12,13,4] [] z0<|sn<|sq ?_
 have hl_8:=(W6 s)
 have hl_9:=(W6 s i2.toNat)
 refine rG cx [0,12,13,4,5] [] (fA (0≤i2) (fP (Option.map (fun b ↦ (↑b.toNat:Int)) s[i2.toNat]?=some (byt s i2.toNat)) (by(with_reducible refine A7s ?_;omega)) (oA 2 (.i .u8 (byt s i2.toNat)) z0))) ?_
 refine sn<|sq<|sq<|B4 (σ':=⟨[(0,.s (s)),(12,.i .i64 ((↑s.size:Int))),(13,.i .i64 (i2)),(4,.i .i64 (i2)),(5,.i .u8 (byt s i2.toNat)),(24,.b (decide (Q8 (byt s i2.toNat)=true∨T9 (byt s i2.toNat)=true)))],[]⟩) ?_ ?_
 refine A4 (Q8 (byt s i2.toNat)=true) (fun h_11=>?_) (fun h_11=>?_)
 refine rg (A:=_∧_∧(AV.b true=AV.b (decide (Q8 (byt s i2.toNat)=true∨T9 (byt s i2.toNat)=true)))) cx [(1,{ val:=some (.b (Q8 (byt s i2.toNat))),tell:=some (.b (true)) }),(5,{ tell:=some (.b (decide (Q8 (byt s i2.toNat)=true∨T9 (byt s i2.toNat)=true))) })] [0,12,13,4,5,24] [] ⟨(I7 h_11),(B9h (byt s i2.toNat)),(by simp only [eq_true h_11,tsl])⟩ ?_
 exact⟨rfl,by kernel_rfl⟩
 refine rg (A:=_∧_∧_∧(AV.b (T9 (byt s i2.toNat))=AV.b (decide (Q8 (byt s i2.toNat)=true∨T9 (byt s i2.toNat)=true)))) cx [(1,{ val:=some (.b (Q8 (byt s i2.toNat))),tell:=some (.b (false)) }),(4,{ val:=some (.b (T9 (byt s i2.toNat))) }),(5,{ tell:=some (.b (decide (Q8 (byt s i2.toNat)=true∨T9 (byt s i2.toNat)=true))) })] [0,12,13,4,5,24] [] ⟨(F4 h_11),(B9h (byt s i2.toNat)),(con202 (byt s i2.toNat)),(by simp only [eq_false h_11,tsl])⟩ ?_
 exact⟨rfl,by kernel_rfl⟩
 refine sn<|dC (Q8 (byt s i2.toNat)=true∨T9 (byt s i2.toNat)=true) (fun h_12=>?_) fun h_12=>?_
 refine eX 1<|nE<|bH<|sn<|rG cx [0,12,13] [] (tW 0 (i2+1) z0)<|sn<|nX (i2+1) (show((↑s.size:Int)-(i2+1)).toNat <((↑s.size:Int)-i2).toNat from(by omega)) (show B9g s (i2+1)from ?g3);rotate_left
 refine sK<|sn<|sq<|B4 (σ':=⟨[(0,.s (s)),(12,.i .i64 ((↑s.size:Int))),(13,.i .i64 (i2)),(4,.i .i64 (i2)),(45,.b (decide (¬G8 (byt s i2.toNat)=true∨i2=0∨i2=(↑s.size:Int)-1∨G8 (byt s (i2-1).toNat)=true)))],[]⟩) ?_ ?_
 refine A4 (¬G8 (byt s i2.toNat)=true) (fun h_14=>?_) (fun h_14=>?_)
 have hl_15:=(W6 s (i2-1).toNat)
 refine rg (A:=_∧_∧(AV.b true=AV.b (decide (¬G8 (byt s i2.toNat)=true∨i2=0∨i2=(↑s.size:Int)-1∨G8 (byt s (i2-1).toNat)=true)))) cx [(1,{ val:=some (.b (G8 (byt s i2.toNat))),tell:=some (.b (false)) }),(20,{ tell:=some (.b (decide (¬G8 (byt s i2.toNat)=true∨i2=0∨i2=(↑s.size:Int)-1∨G8 (byt s (i2-1).toNat)=true))) })] [0,12,13,4,45] [] ⟨(F4 h_14),(Ac5 (byt s i2.toNat)),(by simp only [eq_false h_14,tsl])⟩ ?_
 exact⟨rfl,by kernel_rfl⟩
 refine A4 (i2=0) (fun h_16=>?_) (fun h_16=>?_)
 have hl_17:=(W6 s (i2-1).toNat)
 refine rG cx [0,12,13,4,45] [] (fT (Ac5 (byt s i2.toNat)) (tT 2 (D0:(AV.b !G8 (byt s i2.toNat))=AV.b (decide ¬G8 (byt s i2.toNat)=true)) (tT 3 (A3 h_14) (tT 5 (A6 h_16) (tT 20 (by first | (simp only [eq_false h_14,eq_true h_16,tsl];done) | simp_all:AV.b true=AV.b (decide (¬G8 (byt s i2.toNat)=true∨i2=0∨i2=(↑s.size:Int)-1∨G8 (byt s (i2-1).toNat)=true))) (oA 1 (.b (G8 (byt s i2.toNat))) z0)))))) ?_
 exact⟨rfl,by kernel_rfl⟩
 refine A4 (i2=(↑s.size:Int)-1) (fun h_18=>?_) (fun h_18=>?_)
 have hl_19:=(W6 s (i2-1).toNat)
 refine rG cx [0,12,13,4,45] [] (fT (Ac5 (byt s i2.toNat)) (tT 2 (D0:(AV.b !G8 (byt s i2.toNat))=AV.b (decide ¬G8 (byt s i2.toNat)=true)) (tT 3 (A3 h_14) (tT 5 (A3 h_16) (tW 11 ((↑s.size:Int)-1) (tT 12 (A6 h_18) (tT 20 (by first | (simp only [eq_false h_14,eq_false h_16,eq_true h_18,tsl];done) | simp_all:AV.b true=AV.b (decide (¬G8 (byt s i2.toNat)=true∨i2=0∨i2=(↑s.size:Int)-1∨G8 (byt s (i2-1).toNat)=true))) (oA 1 (.b (G8 (byt s i2.toNat))) z0)))))))) ?_
 exact⟨rfl,by kernel_rfl⟩
 have hl_20:=(W6 s (i2-1).toNat)
 refine rG cx [0,12,13,4,45] [] (fT (Ac5 (byt s i2.toNat)) (tT 2 (D0:(AV.b !G8 (byt s i2.toNat))=AV.b (decide ¬G8 (byt s i2.toNat)=true)) (tT 3 (A3 h_14) (tT 5 (A3 h_16) (tW 11 ((↑s.size:Int)-1) (tT 12 (A3 h_18) (tW 17 (i2-1) (fO (0≤i2-1) (fP (Option.map (fun b ↦ (↑b.toNat:Int)) s[(i2-1).toNat]?=some (byt s (i2-1).toNat)) (by(with_reducible refine A7s ?_;omega)) (fT (Ac5 (byt s (i2-1).toNat)) (tT 20 (by first | (simp only [eq_false h_14,eq_false h_16,eq_false h_18,tsl];done) | simp_all:AV.b (G8 (byt s (i2-1).toNat))=AV.b (decide (¬G8 (byt s i2.toNat)=true∨i2=0∨i2=(↑s.size:Int)-1∨G8 (byt s (i2-1).toNat)=true))) (oA 1 (.b (G8 (byt s i2.toNat))) (oA 18 (.i .u8 (byt s (i2-1).toNat)) (oA 19 (.b (G8 (byt s (i2-1).toNat))) z0)))))))))))))) ?_
 exact⟨rfl,by kernel_rfl⟩
 refine sn<|dC (¬G8 (byt s i2.toNat)=true∨i2=0∨i2=(↑s.size:Int)-1∨G8 (byt s (i2-1).toNat)=true) (fun h_21=>?_) fun h_21=>?_
 refine sq<|rG cx [2,3] [] z0<|sn<|rT<|bR<|nR<|nR<|bR<|nR<|qR (.tup [.i .i64 (i2),.i .i64 ((22:Int))]) (B8.tup (ZLe.cons B8.dead (ZLe.cons (B8.eq (show AV.i .i64 22=AV.i .i64 (A4s s)from ?g4)) ZLe.nil)));rotate_left
 refine sK<|bN<|sn<|rG cx [0,12,13] [] (tW 0 (i2+1) z0)<|sn<|nX (i2+1) (show((↑s.size:Int)-(i2+1)).toNat <((↑s.size:Int)-i2).toNat from(by omega)) (show B9g s (i2+1)from ?g5);rotate_left
 refine eX 0<|nE<|nE<|bH<|sn<|sq<|rG cx [2,3] [] z0<|sn<|rT<|qR (.tup [.i .i64 ((0:Int)),.i .i64 ((0:Int))]) (B8.tup (ZLe.cons B8.dead (ZLe.cons (B8.eq (show AV.i .i64 0=AV.i .i64 (A4s s)from ?g6)) ZLe.nil)));rotate_left
 revert hh0;rotate_left
 revert hh0 hh1;rotate_left
 revert hh0 hh1;rotate_left
 clear hl_9;revert hh0 hh1 i2 hh4 hh5 h6 h7 h_12;rotate_left
 clear hl_9;revert hh0 hh1 i2 hh4 hh5 h6 h7 h_12 h_21;rotate_left
 clear hl_9;revert hh0 hh1 i2 hh4 hh5 h6 h7 h_12 h_21;rotate_left
 revert hh0 hh1 i2 hh4 hh5 h6 h7;rotate_left
 case g2=>exact(fun h k=>⟨by omega,by omega,fun j hj=>by omega⟩)
 case' g6=>refine(fun h k i h0 h1 h2 h3=>?_)
 case' g5=>refine(fun h k i h0 h1 h2 h3 h4 h5=>?_)
 case' g4=>refine(fun h k i h0 h1 h2 h3 h4 h5=>?_)
 case' g3=>refine(fun h k i h0 h1 h2 h3 h4=>?_)
 case' g1=>refine(fun h k=>?_)
 case' g0=>refine(fun h=>?_)
 ·rw[A4s,if_pos ((A1z s).2 h)]
 ·rw[A4s,if_neg (fun e=>h ((A1z s).1 e)),if_pos (by omega)]
 ·exact A4t h0 h3 h2 ((L5 _ _).2 (h4.elim .inl fun h=>.inr (.inl h)))
 ·rw[As0 (fun e=>h ((A1z s).1 e)) (by omega) (i:=i.toNat) (by omega) (V6 _)]
  have e:(i-1).toNat=i.toNat-1:=by omega
  rw[e]at h5
  rw[L5];rintro(a | a | a)
  ·exact h4 (.inl a)
  ·exact h4 (.inr a)
  ·rcases h5 with h5 | h5 | h5 | h5
   ·exact h5 a.1
   ·omega
   ·omega
   ·exact a.2.2.2 h5
 ·have e:(i-1).toNat=i.toNat-1:=by omega
  rw[e]at h5
  refine A4t h0 h3 h2 ((L5 _ _).2 (.inr (.inr ⟨Classical.byContradiction fun a=>h5 (.inl a),?_,?_,fun a=>h5 (.inr (.inr (.inr a)))⟩)))
  ·intro a;exact h5 (.inr (.inl (by omega)))
  ·intro a;exact h5 (.inr (.inr (.inl (by omega))))
 ·rw[B33 (fun e=>h ((A1z s).1 e)) (by omega) fun j hj=>h2 j (by omega)]
theorem B9l(s:ByteArray):Con Tryz.prog 169 [.s s] (.tup [.dead,.i .i64 (A4s s)]) :=
 by
 refine sC B1 [.tmp 2,.tmp 3] 22 Tryz.func169 ?_
 intro e0 cx
 refine sq<|rG cx [0] [] z0<|sn<|sq<|rD cx [0,7] [] (zB 2 ((↑s.size:Int)=0)) (fun hh0=>?_) fun hh0=>?_
 refine sq<|rG cx [2,3] [] z0<|sn<|rT<|nR<|qR (.tup [.i .i64 ((0:Int)),.i .i64 ((20:Int))]) (B8.tup (ZLe.cons B8.dead (ZLe.cons (B8.eq (show AV.i .i64 20=AV.i .i64 (A4s s)from ?g0)) ZLe.nil)));rotate_left
 refine sK<|sn<|sq<|rD cx [0,10] [] (zB 2 ((24:Int) <(↑s.size:Int))) (fun hh1=>?_) fun hh1=>?_
 refine sq<|rG cx [2,3] [] z0<|sn<|rT<|nR<|qR (.tup [.i .i64 ((0:Int)),.i .i64 ((21:Int))]) (B8.tup (ZLe.cons B8.dead (ZLe.cons (B8.eq (show AV.i .i64 21=AV.i .i64 (A4s s)from ?g1)) ZLe.nil)));rotate_left
 refine sK<|sn<|sq<|sq<|rG cx [0,4] [] z0<|sn<|bL 0<|sL (X:=Int) (fun x=>⟨[(0,.s (s)),(4,.i .i64 (x))],[]⟩) (fun x ↦ decG s x) (fun x ↦ B9g s x) [0,4] [] ((0:Int)) (show B9g s (0:Int)from ?g2) ?_;rotate_left
 intro i2 h_3
 obtain⟨hh4,h5,h6⟩:0≤i2∧i2≤(↑s.size:Int)∧∀(j:Nat),(↑j:Int) < i2→J5 s j=true:=h_3
 refine sq<|rD cx [0,4,14] [] (zB 3 (i2 <(↑s.size:Int))) (fun h7=>?_) fun h7=>?_
 refine sK<|sn<|sq<|bL 1<|sq<|rG cx [0,4,20] [] (fT (con199 (s) (i2) (by(with_reducible assumption)) (by(with_reducible assumption)) (by omega)) (tT 3 (D0:(AV.b !J5 s i2.toNat)=AV.b (decide ¬J5 s i2.toNat=true)) (oA 2 (.b (J5 s i2.toNat)) z0)))<|sn<|dC (¬J5 s i2.toNat=true) (fun h8=>?_) fun h8=>?_
 refine sq<|rG cx [2,3] [] z0<|sn<|rT<|bR<|nR<|nR<|bR<|nR<|qR (.tup [.i .i64 (i2),.i .i64 ((22:Int))]) (B8.tup (ZLe.cons B8.dead (ZLe.cons (B8.eq (show AV.i .i64 22=AV.i .i64 (A4s s)from ?g3)) ZLe.nil)));rotate_left
 refine sK<|bN<|sn<|rG cx [0,4] [] (tW 1 (i2+1) z0)<|sn<|nX (i2+1) (show((↑s.size:Int)-(i2+1)).toNat <((↑s.size:Int)-i2).toNat from(by omega)) (show B9g s (i2+1)from ?g4);rotate_left
 refine eX 0<|nE<|nE<|bH<|sn<|sq<|rG cx [2,3] [] z0<|sn<|rT<|qR (.tup [.i .i64 ((0:Int)),.i .i64 ((0:Int))]) (B8.tup (ZLe.cons B8.dead (ZLe.cons (B8.eq (show AV.i .i64 0=AV.i .i64 (A4s s)from ?g5)) ZLe.nil)));rotate_left
 revert hh0;rotate_left
 revert hh0 hh1;rotate_left
 revert hh0 hh1;rotate_left
 revert hh0 hh1 i2 hh4 h5 h6 h7 h8;rotate_left
 revert hh0 hh1 i2 hh4 h5 h6 h7 h8;rotate_left
 revert hh0 hh1 i2 hh4 h5 h6 h7;rotate_left
 case g2=>exact(fun h k=>⟨by omega,by omega,fun j hj=>by omega⟩)
 case' g5=>refine(fun h k i h0 h1 h2 h3=>?_)
 case' g4=>refine(fun h k i h0 h1 h2 h3 h4=>?_)
 case' g3=>refine(fun h k i h0 h1 h2 h3 h4=>?_)
 case' g1=>refine(fun h k=>?_)
 case' g0=>refine(fun h=>?_)
 ·rw[A4s,if_pos (by omega)]
 ·rw[A4s,if_neg (by omega),if_pos (by omega)]
 ·rw[As0 (by omega) (by omega) (i:=i.toNat) (by omega) (V6 h4)]
 ·exact A4t h0 h3 h2 (Classical.not_not.1 h4)
 ·rw[B33 (by omega) (by omega) fun j hj=>h2 j (by omega)]
theorem B34(s:ByteArray):Con Tryz.prog 138 [.s s] (.b (U0 s)) :=
 by
 refine sC B1 [.tmp 2] 12 Tryz.func138 ?_
 intro e0 cx
 refine sq<|rG cx [0] [] z0<|sn<|sq<|rG cx [4] [] (fT (B9k (s)) (oA 1 (resC (B9k (s))) z0))<|sn<|sq<|rG cx [2] [] (tB 1 (A4s s=0) z0)<|sn<|rT<|qR (.b (decide (A4s s=0))) (.eq ?g0);rotate_left
 case g0=>exact rfl
theorem B9m(s:ByteArray):Con Tryz.prog 125 [.s s] (.b (U0 s)) :=
 by
 refine sC B1 [.tmp 2] 12 Tryz.func125 ?_
 intro e0 cx
 refine sq<|rG cx [0] [] z0<|sn<|sq<|rG cx [4] [] (fT (B9l (s)) (oA 1 (resC (B9l (s))) z0))<|sn<|sq<|rG cx [2] [] (tB 1 (A4s s=0) z0)<|sn<|rT<|qR (.b (decide (A4s s=0))) (.eq ?g0);rotate_left
 case g0=>exact rfl
end Go.Proofs.YtaiepnaokhpmcaaGreat
namespace Go.Proofs.YtaiepnaokhpmcaaGreat
open Go.E
set_option maxRecDepth 100000
set_option maxHeartbeats 4000000
theorem ordSt:Ord3 Z6:=by
 refine⟨fun x y=>?_,fun x y=>?_,fun x y z h1 h2=>?_,fun x y z h1 h2=>?_⟩
 ·rw[L4];split <;>(try split) <;> simp
 ·rw[L4,L4]
  by_cases a:sLt x y=true
  ·have b:¬ sLt y x=true:=fun b=>A2s _ (A4p a b)
   rw[if_pos a,if_neg b,if_pos a];rfl
  ·by_cases b:sLt y x=true
   ·rw[if_pos b,if_neg a,if_pos b]
   ·rw[if_neg b,if_neg a,if_neg a,if_neg b];rfl
 ·rw[L4]at *
  by_cases c:sLt x z=true
  ·rw[if_pos c];omega
  ·rw[if_neg c]
   by_cases d:sLt z x=true
   ·exfalso
    by_cases a:sLt x y=true
    ·have e:sLt z y=true:=A4p d a
     have f:¬ sLt y z=true:=fun f=>A2s _ (A4p e f)
     rw[if_neg f,if_pos e]at h2
     omega
    ·by_cases b:sLt y x=true
     ·rw[if_neg a,if_pos b]at h1;omega
     ·have:=A1v a b
      subst this
      rw[if_neg c,if_pos d]at h2
      omega
   ·rw[if_neg d];omega
 ·rw[L4]at *
  have eq:∀ u v:ByteArray,(if sLt u v=true then(-1:Int)else if sLt v u=true then 1 else 0)=0→u=v:=by
   intro u v h
   by_cases a:sLt u v=true
   ·rw[if_pos a]at h;omega
   ·by_cases b:sLt v u=true
    ·rw[if_neg a,if_pos b]at h;omega
    ·exact A1v a b
  have e1:=eq _ _ h1
  have e2:=eq _ _ h2
  subst e1 e2
  rw[if_neg (A2s x),if_neg (A2s x)]
theorem A2u{a b:ByteArray}:Z6 a b=0↔a=b:=by
 rw[L4]
 constructor
 ·intro h
  by_cases c:sLt a b=true
  ·rw[if_pos c]at h;omega
  ·by_cases d:sLt b a=true
   ·rw[if_neg c,if_pos d]at h;omega
   ·exact A1v c d
 ·rintro rfl
  rw[if_neg (A2s _),if_neg (A2s _)]
def C3(r s:Record):Int:=if Z6 r.sku s.sku≠0 then Z6 r.sku s.sku else Ac0 r.past s.past
theorem Z7:Ord3 C3:=A1u ordSt ordP (fun r:Record=>r.sku) (fun r=>r.past)
theorem B6q{r s:Record}:C3 r s=0↔r.sku=s.sku∧A5 r.past=A5 s.past:=by
 unfold C3
 by_cases h:Z6 r.sku s.sku=0
 ·rw[if_neg (by simpa using h),B2s]
  exact⟨fun k=>⟨A2u.1 h,k⟩,fun k=>k.2⟩
 ·rw[if_pos h]
  exact⟨fun k=>absurd k h,fun k=>absurd (A2u.2 k.1) h⟩
theorem A8g{r s:Record}(hr:r.past=A5 r.past)(hs:s.past=A5 s.past)(h:C3 r s=0):r=s:=by
 obtain⟨h1,h2⟩:=B6q.1 h
 rw[← hr,← hs]at h2
 cases r;cases s
 simp only at h1 h2
 rw[h1,h2]
def noneS:ByteArray:=⟨#[]⟩
noncomputable def ckR(r:Record):Int:=if ¬ r.sku=noneS∧U0 r.sku=false then 5 else if ¬ r.past=A5 r.past∨E3 r.past=0 then 1 else 0
noncomputable def B50(rs:List Record)(i:Nat):Bool:=decide (ckR rs[i]! = 0) && (decide (i=0) || decide (C3 rs[i-1]! rs[i]! < 0))
noncomputable def okLR(rs:List Record):Bool:=Ak9 (B50 rs) rs.length
noncomputable def G9(rs:List Record):Int:=if okLR rs=true then 0 else 1
def upR(rs:List Record):Prop:=rs.Pairwise fun r s=>C3 r s < 0
def Bf2(rs:List Record):Prop:=(∀ r∈rs,ckR r=0)∧upR rs
theorem A8h{r:Record}:ckR r=0↔(r.sku=noneS∨U0 r.sku=true)∧r.past=A5 r.past∧¬ E3 r.past=0:=by
 unfold ckR
 by_cases a:¬ r.sku=noneS∧U0 r.sku=false
 ·rw[if_pos a]
  constructor
  ·intro h;omega
  ·rintro⟨k | k,_⟩
   ·exact absurd k a.1
   ·rw[a.2]at k;cases k
 ·rw[if_neg a]
  by_cases b:¬ r.past=A5 r.past∨E3 r.past=0
  ·rw[if_pos b]
   constructor
   ·intro h;omega
   ·rintro⟨_,h1,h2⟩
    rcases b with b | b
    ·exact absurd h1 b
    ·exact absurd b h2
  ·rw[if_neg b]
   refine⟨fun _=>⟨?_,Classical.byContradiction fun k=>b (.inl k),fun k=>b (.inr k)⟩,fun _=>rfl⟩
   by_cases c:r.sku=noneS
   ·exact .inl c
   ·right
    cases e:U0 r.sku with
    | true=>rfl
    | false=>exact absurd ⟨c,e⟩ a
theorem S9(rs:List Record)(i:Nat):B50 rs i=true↔ckR rs[i]! = 0∧(i=0∨C3 rs[i-1]! rs[i]! < 0):=by
 unfold B50
 rw[Bool.and_eq_true,Bool.or_eq_true,decide_eq_true_iff,decide_eq_true_iff,decide_eq_true_iff]
theorem B36{rs:List Record}(h:∀ i:Nat,0 < i→i < rs.length→C3 rs[i-1]! rs[i]! < 0):upR rs:=by
 have key:∀ d i:Nat,i+d+1 < rs.length→C3 rs[i]! rs[i+d+1]! < 0:=by
  intro d
  induction d with
  | zero=>intro i hi;exact h (i+1) (by omega) hi
  | succ d ih =>
   intro i hi
   have h1:=ih i (by omega)
   have h2:=h (i+d+2) (by omega) (by omega)
   rw[show i+d+2-1=i+d+1 by omega]at h2
   rw[show i+(d+1)+1=i+d+2 by omega]
   exact Z7.lt h1 (by omega)
 unfold upR
 rw[List.pairwise_iff_getElem]
 intro i j hi hj hij
 have:=key (j-i-1) i (by omega)
 rw[show i+(j-i-1)+1=j by omega,getElem!_pos rs i hi,getElem!_pos rs j hj]at this
 exact this
theorem B6r(rs:List Record):okLR rs=true↔Bf2 rs:=by
 unfold okLR
 rw[K2]
 constructor
 ·intro h
  refine⟨fun r hr=>?_,B36 fun i h0 hi=>?_⟩
  ·obtain⟨i,hi,rfl⟩:=List.mem_iff_getElem.1 hr
   have:=((S9 _ _).1 (h i hi)).1
   rwa [getElem!_pos rs i hi]at this
  ·rcases((S9 _ _).1 (h i hi)).2 with k | k
   ·omega
   ·exact k
 ·intro h i hi
  rw[S9]
  refine⟨h.1 _ (D6 hi),?_⟩
  by_cases e:i=0
  ·exact .inl e
  ·right
   have:=List.pairwise_iff_getElem.1 h.2 (i-1) i (by omega) hi (by omega)
   rw[← getElem!_pos rs (i-1) (by omega),← getElem!_pos rs i hi]at this
   exact this
theorem P7(rs:List Record):G9 rs=0↔Bf2 rs:=by
 rw[← B6r]
 unfold G9
 split
 ·rename_i h;simp [h]
 ·rename_i h;simp [h]
theorem A8i{rs:List Record}{i:Nat}(hi:i < rs.length)(h:¬ B50 rs i=true):G9 rs=1:=by
 unfold G9 okLR
 rw[if_neg]
 intro k
 exact h ((K2 _ _).1 k i hi)
theorem B37{rs:List Record}(h:∀ j:Nat,j < rs.length→B50 rs j=true):G9 rs=0:=by
 unfold G9 okLR
 rw[if_pos ((K2 _ _).2 h)]
theorem A6w:∀ {a b:List Record},upR a→upR b→(∀ r∈a,r.past=A5 r.past)→(∀ r∈b,r.past=A5 r.past)→(∀ r,r∈a↔r∈b)→a=b
 | [],[],_,_,_,_,_=>rfl
 | [],y :: b,_,_,_,_,h=>by have:=(h y).2 (by simp);cases this
 | x :: a,[],_,_,_,_,h=>by have:=(h x).1 (by simp);cases this
 | x :: a,y :: b,ha,hb,na,nb,h=>by
  have pa:=List.pairwise_cons.1 ha
  have pb:=List.pairwise_cons.1 hb
  have e:x=y:=by
   rcases List.mem_cons.1 ((h x).1 (by simp))with k | k
   ·exact k
   ·rcases List.mem_cons.1 ((h y).2 (by simp))with k2 | k2
    ·exact k2.symm
    ·have h1:=pb.1 x k
     have h2:=pa.1 y k2
     have:=Z7.neg x y
     omega
  subst e
  rw[A6w pa.2 pb.2 (fun r hr=>na r (by simp [hr])) (fun r hr=>nb r (by simp [hr])) fun r=>?_]
  have irr:C3 x x=0:=Z7.self x
  have:=h r
  simp only [List.mem_cons]at this
  constructor
  ·intro k
   rcases this.1 (.inr k)with k2 | k2
   ·subst k2;have:=pa.1 r k;omega
   ·exact k2
  ·intro k
   rcases this.2 (.inr k)with k2 | k2
   ·subst k2;have:=pb.1 r k;omega
   ·exact k2
end Go.Proofs.YtaiepnaokhpmcaaGreat
namespace Go.Proofs.YtaiepnaokhpmcaaGreat
open Go.E
set_option maxRecDepth 100000
set_option maxHeartbeats 4000000
def invZ(a:List Run)(s i:Int):Prop:=0≤i∧i≤(nrm a).length∧s=I2 ((nrm a).take i.toNat)
def decZ(a:List Run)(s i:Int):Nat:=((nrm a).length-i).toNat
def Bf3(p:Past)(s i:Int)(T:Nat→List Run):Prop:=T=B5 [p]∧0≤i∧i≤16∧s=sizeT (B5 [p]) i.toNat
def decSz(p:Past)(s i:Int)(T:Nat→List Run):Nat:=(16-i).toNat
theorem Ac6{l:List Run}(h:V3 l)(n:Nat):V3 (l.take n):=⟨h.1.sublist (List.take_sublist _ _),fun r hr=>h.2 r (List.mem_of_mem_take hr)⟩
theorem A6x{l:List Run}{i:Int}(h0:0≤i)(h:i < l.length):I2 (l.take (i+1).toNat)=I2 (l.take i.toNat)+(l[i.toNat]!.hi-l[i.toNat]!.lo+1):=by
 rw[← D9 h0 h,B31]
 simp [I2]
theorem As1{p:Past}(hb:p.cloud.length*16≤140737488350000):A15 [p]*16≤140737488351232:=by rw[Ak4];omega
theorem Al0{p:Past}(hb:p.cloud.length*16≤140737488350000)(r:Nat):(B5 [p] r).length*16≤140737488351232:=by
 have:=Q6 r [p]
 have:=As1 hb
 omega
theorem con180(a:List Run)(hb:a.length*16≤140737488351232):Con Tryz.prog 180 [.sl (a.map c154)] (.i .i64 (I2 (nrm a))) :=
 by
 have hs:=E8 a
 have hr:∀ i:Int,0≤i→i <(nrm a).length→1≤(nrm a)[i.toNat]!.lo∧(nrm a)[i.toNat]!.lo≤(nrm a)[i.toNat]!.hi∧(nrm a)[i.toNat]!.hi≤1000000000:=fun i h0 h1=>hs.2 _ (D6 (by omega))
 have hz:∀ i:Int,0≤I2 ((nrm a).take i.toNat)∧I2 ((nrm a).take i.toNat)≤1000000000:=fun i=>A1w (Ac6 hs _)
 refine lN 0 c154 (a) Tryz.func180 fun hl_0=>sC B1 [.tmp 2] 23 Tryz.func180 ?_
 intro e0 cx
 refine sq<|rG cx [0] [] z0<|sn<|sq<|rG cx [0,3] [] z0<|sn<|sq<|sq ?_
 have hl_0:=(X1 a)
 refine rG cx [3,7,8,9] [] (fT (Ab1 (a) (by(with_reducible assumption))) (tL 2 c154 (nrm a) (oA 1 (.sl (List.map c154 (nrm a))) z0)))<|sn<|bL 0<|sL (X:=Int×Int) (fun x=>⟨[(3,.i .i64 (x.1)),(7,.sl (List.map c154 (nrm a))),(8,.i .i64 ((↑(nrm a).length:Int))),(9,.i .i64 (x.2))],[]⟩) (fun x ↦ decZ a x.1 x.2) (fun x ↦ invZ a x.1 x.2) [3,7,8,9] [] (((0:Int),(0:Int))) (show invZ a (0:Int) (0:Int)from ?g0) ?_;rotate_left
 rintro⟨s1,i2⟩ h_3
 obtain⟨h4,h5,h6⟩:0≤i2∧i2≤(↑(nrm a).length:Int)∧s1=I2 (List.take i2.toNat (nrm a)):=h_3
 refine rE cx [3,7,8,9,10] [] (zB 0 (i2 <(↑(nrm a).length:Int))) (fun h7=>?_) fun h7=>?_
 refine sK<|sn<|sq<|bL 1<|sq<|rG cx [3,7,8,9,5] [5] (fA (0≤i2) (fG c154 (nrm a) i2.toNat (fR 2 (fN 2 2 (oR 0 (c154 (nrm a)[i2.toNat]!) z0)))))<|sn<|rG cx [3,7,8,9] [] (tT 5 (B6 ?g1 ?g2:AV.i .i64 (IntKind.i64.wrap ((nrm a)[i2.toNat]!.hi-(nrm a)[i2.toNat]!.lo))=AV.i .i64 ((nrm a)[i2.toNat]!.hi-(nrm a)[i2.toNat]!.lo)) (tT 6 (B6 ?g3 ?g4:AV.i .i64 (IntKind.i64.wrap ((nrm a)[i2.toNat]!.hi-(nrm a)[i2.toNat]!.lo+1))=AV.i .i64 ((nrm a)[i2.toNat]!.hi-(nrm a)[i2.toNat]!.lo+1)) (tT 7 (B6 ?g5 ?g6:AV.i .i64 (IntKind.i64.wrap (s1+((nrm a)[i2.toNat]!.hi-(nrm a)[i2.toNat]!.lo+1)))=AV.i .i64 (s1+((nrm a)[i2.toNat]!.hi-(nrm a)[i2.toNat]!.lo+1))) z0))) ?_;rotate_left 6
 refine bN<|sn<|rG cx [3,7,8,9] [] (tW 0 (i2+1) z0)<|sn<|nX ((s1+((nrm a)[i2.toNat]!.hi-(nrm a)[i2.toNat]!.lo+1),i2+1)) (show((↑(nrm a).length:Int)-(i2+1)).toNat <((↑(nrm a).length:Int)-i2).toNat from(by omega)) (show invZ a (s1+((nrm a)[i2.toNat]!.hi-(nrm a)[i2.toNat]!.lo+1)) (i2+1)from ?g7);rotate_left
 refine eX 0<|nE<|nE<|bH<|sn<|sq<|rG cx [2] [] z0<|sn<|rT<|qR (.i .i64 (s1)) (.eq ?g8);rotate_left
 rotate_left
 revert s1 i2 h4 h5 h6 h7;rotate_left
 revert s1 i2 h4 h5 h6 h7;rotate_left
 revert s1 i2 h4 h5 h6 h7;rotate_left
 revert s1 i2 h4 h5 h6 h7;rotate_left
 revert s1 i2 h4 h5 h6 h7;rotate_left
 revert s1 i2 h4 h5 h6 h7;rotate_left
 revert s1 i2 h4 h5 h6 h7;rotate_left
 revert s1 i2 h4 h5 h6 h7;rotate_left
 case g0=>exact⟨by omega,by omega,by simp [I2]⟩
 case g7=>intro s i h0 h1 h2 h3;exact⟨by omega,by omega,by rw[h2,A6x h0 h3]⟩
 case g8=>intro s i h0 h1 h2 h3;rw[h2,List.take_of_length_le (by omega)]
 all_goals (intro s i h0 h1 h2 h3;have:=hr i h0 h3;have:=hz i;omega)
theorem con145(p:Past)(hb:p.cloud.length*16≤140737488350000):Con Tryz.prog 145 [.agg (c26 p)] (.i .i64 (E3 p)) :=
 by
 have hz:=A1x (B5 [p])
 have hr:∀ r,0≤I2 (nrm (B5 [p] r))∧I2 (nrm (B5 [p] r))≤1000000000:=fun r=>A1w (E8 _)
 refine sC B1 [.tmp 2] 21 Tryz.func145 ?_
 intro e0 cx
 refine sq<|rG cx [1] [1] z0<|sn<|sq<|rG cx [1,3] [1] z0<|sn<|sq<|sq<|rG cx [3,8,10] [8] (fT (Ab6 ([p]) ?g0) (oV 2 { val:=some (.ptr ((152:Nat)) (0) (0) (0)),row:=(I0 c154 16 (B5 [p])) } z0)) ?_;rotate_left
 refine sn<|bL 0<|sL (X:=Int×Int×(Nat→List Run)) (fun x=>⟨[(3,.i .i64 (x.1)),(8,.ptr (8) (0) (0) (0)),(10,.i .i64 (x.2.1))],[(8,⟨0,152,.arr (I0 c154 16 x.2.2)⟩)]⟩) (fun x ↦ decSz p x.1 x.2.1 x.2.2) (fun x ↦ Bf3 p x.1 x.2.1 x.2.2) [3,8,10] [8] (((0:Int),(0:Int),B5 [p])) (show Bf3 p (0:Int) (0:Int) (B5 [p])from ?g1) ?_;rotate_left
 rintro⟨s0,i1,T2⟩ h_3
 obtain⟨hh4,h5,h6,h7⟩:T2=B5 [p]∧0≤i1∧i1≤16∧s0=sizeT (B5 [p]) i1.toNat:=h_3
 refine rE cx [3,8,10,11] [8] (zB 0 (i1 <(16:Int))) (fun h8=>?_) fun h8=>?_
 refine sK<|sn<|sq<|bL 1<|sq<|rG cx [3,8,10,5] [8] (fA (0≤i1) (fO (i1 <(↑(16:Nat):Int)) (fP ((I0 c154 16 T2)[i1.toNat*(1:Nat)+0]?=some (AV.sl (List.map c154 (T2 i1.toNat)))) (by((try simp only [Nat.mul_one,Nat.add_zero,Nat.zero_add]);with_reducible refine F9 ?_;omega)) (oR 2 [.sl (List.map c154 (T2 i1.toNat))] z0)))) ?_
 refine sn ?_
 have hl_9:=(X1 (T2 i1.toNat))
 refine rG cx [3,8,10] [8] (fT (con180 (T2 i1.toNat) ?g2) (tT 3 (B6 ?g3 ?g4:AV.i .i64 (IntKind.i64.wrap (s0+I2 (nrm (T2 i1.toNat))))=AV.i .i64 (s0+I2 (nrm (T2 i1.toNat)))) (oA 2 (.i .i64 (I2 (nrm (T2 i1.toNat)))) z0))) ?_;rotate_left 3
 refine bN<|sn<|rG cx [3,8,10] [8] (tW 0 (i1+1) z0)<|sn<|nX ((s0+I2 (nrm (T2 i1.toNat)),i1+1,T2)) (show(16-(i1+1)).toNat <(16-i1).toNat from(by omega)) (show Bf3 p (s0+I2 (nrm (T2 i1.toNat))) (i1+1) T2 from ?g5);rotate_left
 refine eX 0<|nE<|nE<|bH<|sn<|sq<|rG cx [2] [] z0<|sn<|rT<|qR (.i .i64 (s0)) (.eq ?g6);rotate_left
 rotate_left
 rotate_left
 clear hl_9;revert s0 i1 T2 hh4 h5 h6 h7 h8;rotate_left
 clear hl_9;revert s0 i1 T2 hh4 h5 h6 h7 h8;rotate_left
 clear hl_9;revert s0 i1 T2 hh4 h5 h6 h7 h8;rotate_left
 clear hl_9;revert s0 i1 T2 hh4 h5 h6 h7 h8;rotate_left
 revert s0 i1 T2 hh4 h5 h6 h7 h8;rotate_left
 case g0=>exact As1 hb
 case g1=>exact⟨rfl,by omega,by omega,rfl⟩
 case g2=>intro s i T h0 h1 h2 h3 h4;subst h0;exact Al0 hb _
 case g3=>intro s i T h0 h1 h2 h3 h4;subst h0;have:=hz i.toNat;have:=hr i.toNat;omega
 case g4=>intro s i T h0 h1 h2 h3 h4;subst h0;have:=hz i.toNat;have:=hr i.toNat;omega
 case g5=>intro s i T h0 h1 h2 h3 h4;subst h0;exact⟨rfl,by omega,by omega,by rw[show(i+1).toNat=i.toNat+1 by omega,sizeT,h3]⟩
 case g6=>intro s i T h0 h1 h2 h3 h4;rw[h3,show i.toNat=16 by omega,A8f]
theorem Az5(p:Past)(hb:p.cloud.length*16≤140737488350000):Con Tryz.prog 98 [.agg (c26 p)] (.b (decide (E3 p=0))) :=
 by
 refine sC B1 [.tmp 2] 6 Tryz.func98 ?_
 intro e0 cx
 refine sq<|rG cx [1] [1] z0<|sn<|sq<|rG cx [2] [] (fT (con145 (p) (by(with_reducible assumption))) (tB 2 (E3 p=0) (oA 1 (.i .i64 (E3 p)) z0)))<|sn<|rT ?_
 exact A3f (r:=.b (decide (E3 p=0))) (obl:=[]) (by kernel_rfl) trivial (B8.refl _)
end Go.Proofs.YtaiepnaokhpmcaaGreat
namespace Go.Proofs.YtaiepnaokhpmcaaGreat
open Go.E
set_option maxRecDepth 100000
set_option maxHeartbeats 4000000
def szR(r:Record):Prop:=r.past.cloud.length*16≤140737488350000
def Az6(rs:List Record):Prop:=∀ r∈rs,szR r
theorem Q9{rs:List Record}(h:Az6 rs){i:Int}(h0:0≤i)(hi:i < rs.length):szR rs[i.toNat]!:=h _ (D6 (by omega))
theorem B6s{rs:List Record}(h:Az6 rs){i:Int}(h0:0 < i)(hi:i < rs.length):szR rs[(i-1).toNat]!:=h _ (D6 (by omega))
def Al1(rs:List Record)(i:Int):Prop:=0≤i∧i≤rs.length∧∀ j:Nat,(j:Int) < i→B50 rs j=true
def decKc(rs:List Record)(i:Int):Nat:=(rs.length-i).toNat
theorem A6y{rs:List Record}{i:Int}(h0:0≤i)(h1:i < rs.length)(h2:∀ j:Nat,(j:Int) < i→B50 rs j=true)(h:B50 rs i.toNat=true):Al1 rs (i+1) :=
 ⟨by omega,by omega,fun j hj=>by
  by_cases e:j=i.toNat
  ·rw[e];exact h
  ·exact h2 j (by omega)⟩
theorem B38(r:Record)(hb:szR r):Con Tryz.prog 132 [.agg (c81 r)] (.i .i64 (ckR r)) :=
 by
 have g:∀ {b:Bool},¬ b=true→b=false:=fun {b} h=>by cases b <;> simp_all
 refine sC B1 [.tmp 2] 21 Tryz.func132 ?_
 intro e0 cx
 refine sq<|rG cx [1] [1] z0<|sn<|sq<|sq<|B4 (σ':=⟨[(1,.ptr (1) (0) (0) (0)),(11,.b (decide (¬r.sku={ data:=#[]:ByteArray }∧¬U0 r.sku=true)))],[(1,⟨0,81,.var [.s (r.sku),.sl (List.map c3 r.past.vec),.sl (List.map B7 r.past.cloud)]⟩)]⟩) ?_ ?_
 refine A4 (¬r.sku={ data:=#[]:ByteArray }) (fun h_1=>?_) (fun h_1=>?_)
 refine rG cx [1,11] [1] (tT 2 (A1l h_1:(AV.b !r.sku.toList == { data:=#[]:ByteArray }.toList)=AV.b true) (fT (B34 (r.sku)) (tT 7 (D0:(AV.b !U0 r.sku)=AV.b (decide ¬U0 r.sku=true)) (tD 8 (decide ¬U0 r.sku=true) (¬r.sku={ data:=#[]:ByteArray }∧¬U0 r.sku=true) (by simp only [eq_false h_1,tsl]) (oA 6 (.b (U0 r.sku)) z0))))) ?_
 exact⟨rfl,by kernel_rfl⟩
 refine rG cx [1,11] [1] (tT 2 (A3s:(AV.b !r.sku.toList == { data:=#[]:ByteArray }.toList)=AV.b (decide ¬r.sku={ data:=#[]:ByteArray })) (tT 3 (A3 h_1) (tT 8 (by first | (simp only [eq_false h_1,tsl];done) | simp_all:AV.b false=AV.b (decide (¬r.sku={ data:=#[]:ByteArray }∧¬U0 r.sku=true))) z0))) ?_
 exact⟨rfl,by kernel_rfl⟩
 refine sn<|dC (¬r.sku={ data:=#[]:ByteArray }∧¬U0 r.sku=true) (fun h2=>?_) fun h2=>?_
 refine sq<|rG cx [2] [] z0<|sn<|rT<|nR<|qR (.i .i64 ((5:Int))) (.eq (by unfold ckR;rw[if_pos ⟨h2.1,g h2.2⟩]))
 refine sK<|sn<|sq<|sq<|B4 (σ':=⟨[(20,.b (decide (¬r.past=A5 r.past∨E3 r.past=0)))],[]⟩) ?_ ?_
 refine A4 (¬r.past=A5 r.past) (fun h4=>?_) (fun h4=>?_)
 refine rg (A:=_∧_∧(AV.b true=AV.b (decide (¬r.past=A5 r.past∨E3 r.past=0)))) cx [(2,{ val:=some (.b (decide (r.past=A5 r.past))),tell:=some (.b (false)) }),(8,{ tell:=some (.b (decide (¬r.past=A5 r.past∨E3 r.past=0))) })] [20] [] ⟨(A3 h4),(B2f (r.past) (by exact hb)),(by simp only [eq_false h4,tsl])⟩ ?_
 exact⟨rfl,by kernel_rfl⟩
 refine rG cx [20] [] (fT (B2f (r.past) (by exact hb)) (tQ 3 (r.past=A5 r.past) (tT 4 (A3 h4) (fT (Az5 (r.past) (by exact hb)) (tT 8 (by first | (simp only [eq_false h4,tsl];done) | simp_all:AV.b (decide (E3 r.past=0))=AV.b (decide (¬r.past=A5 r.past∨E3 r.past=0))) (oA 2 (.b (decide (r.past=A5 r.past))) (oA 7 (.b (decide (E3 r.past=0))) z0))))))) ?_
 exact⟨rfl,by kernel_rfl⟩
 refine sn<|dC (¬r.past=A5 r.past∨E3 r.past=0) (fun h5=>?_) fun h5=>?_
 refine sq<|rG cx [2] [] z0<|sn<|rT<|nR<|qR (.i .i64 ((1:Int))) (.eq (by unfold ckR;rw[if_neg (fun c=>h2 ⟨c.1,by rw[c.2];simp⟩),if_pos h5]))
 refine sK<|sn<|sq<|rG cx [2] [] z0<|sn<|rT<|qR (.i .i64 ((0:Int))) (.eq (by unfold ckR;rw[if_neg (fun c=>h2 ⟨c.1,by rw[c.2];simp⟩),if_neg h5]))
theorem Ac7(r s:Record)(hr:szR r)(hs:szR s):Con Tryz.prog 106 [.agg (c81 r),.agg (c81 s)] (.i .i64 (C3 r s)) :=
 by
 refine sC B1 [.tmp 4] 19 Tryz.func106 ?_
 intro e0 cx
 refine sq<|rG cx [2,3] [2,3] z0<|sn<|sq<|sq<|rG cx [2,3,5] [2,3] (fT (con151 (r.sku) (s.sku)) (oA 4 (.i .i64 (Z6 r.sku s.sku)) z0))<|sn<|sq<|rG cx [2,3,5,12] [2,3] (tN 1 (Z6 r.sku s.sku) (0:Int) z0)<|sn<|dC (¬Z6 r.sku s.sku=0) (fun h0=>?_) fun h0=>?_
 refine sq<|rG cx [4] [] z0<|sn<|rT<|nR<|qR (.i .i64 (Z6 r.sku s.sku)) (.eq (by unfold C3;rw[if_pos h0]))
 refine sK<|sn<|sq<|rG cx [4] [] (fT (con152 (r.past) (s.past) (by exact hr) (by exact hs)) (oA 4 (.i .i64 (Ac0 r.past s.past)) z0)) ?_
 refine sn<|rT<|qR (.i .i64 (Ac0 r.past s.past)) (.eq (by unfold C3;rw[if_neg h0]))
theorem Az7(rs:List Record)(hb:Az6 rs):Con Tryz.prog 83 [.sl (rs.map c81)] (.i .i64 (G9 rs)) :=
 by
 have e:∀ {i:Int},0≤i→(i-1).toNat=i.toNat-1:=fun {i} h=>by omega
 refine lN 0 c81 (rs) Tryz.func83 fun hl_0=>sC B1 [.tmp 2] 30 Tryz.func83 ?_
 intro e0 cx
 refine sq<|rG cx [0] [] z0<|sn<|sq<|sq<|rG cx [0,5,6,7] [] (tL 1 c81 rs z0)<|sn<|bL 0<|sL (X:=Int) (fun x=>⟨[(0,.sl (List.map c81 rs)),(5,.sl (List.map c81 rs)),(6,.i .i64 ((↑rs.length:Int))),(7,.i .i64 (x))],[]⟩) (fun x ↦ decKc rs x) (fun x ↦ Al1 rs x) [0,5,6,7] [] ((0:Int)) (show Al1 rs (0:Int)from(by exact⟨by omega,by omega,fun j hj=>by omega⟩)) ?_
 intro i0 h_1
 obtain⟨hh2,hh3,hh4⟩:0≤i0∧i0≤(↑rs.length:Int)∧∀(j:Nat),(↑j:Int) < i0→B50 rs j=true:=h_1
 refine rE cx [0,5,6,7,8] [] (zB 0 (i0 <(↑rs.length:Int))) (fun hh5=>?_) fun hh5=>?_
 refine sK<|sn<|sq<|bL 1<|sq<|rG cx [0,5,6,7,4,3] [4] (fA (0≤i0) (fG c81 rs i0.toNat (fR 3 (fN 3 3 (oR 1 (c81 rs[i0.toNat]!) z0)))))<|sn<|sq<|B4 (σ':=⟨[(0,.sl (List.map c81 rs)),(5,.sl (List.map c81 rs)),(6,.i .i64 ((↑rs.length:Int))),(7,.i .i64 (i0)),(28,.b (decide (¬ckR rs[i0.toNat]! =(0:Int)∨(0:Int) < i0∧0≤C3 rs[(i0-1).toNat]! rs[i0.toNat]!)))],[]⟩) ?_ ?_
 refine A4 (¬ckR rs[i0.toNat]! =(0:Int)) (fun h7=>?_) (fun h7=>?_)
 refine rA cx [0,5,6,7,28] [] (fT (B38 (rs[i0.toNat]!) (by exact Q9 hb hh2 hh5)) (tT 2 (C4 h7:AV.b (ckR rs[i0.toNat]! !=0)=AV.b true) (tD 16 true (¬ckR rs[i0.toNat]! =(0:Int)∨(0:Int) < i0∧0≤C3 rs[(i0-1).toNat]! rs[i0.toNat]!) (by simp only [eq_false h7,tsl]) (oA 1 (.i .i64 (ckR rs[i0.toNat]!)) z0)))) ?_
 exact⟨rfl,by kernel_rfl⟩
 refine A4 ((0:Int) < i0) (fun h8=>?_) (fun h8=>?_)
 refine rA cx [0,5,6,7,28] [] (fT (B38 (rs[i0.toNat]!) (by exact Q9 hb hh2 hh5)) (tN 2 (ckR rs[i0.toNat]!) (0:Int) (tT 3 (A3 h7) (tT 5 (A6 h8) (tW 9 (i0-1) (fO (0≤i0-1) (fG c81 rs ((i0-1).toNat) (fR 3 (fN 3 3 (fT (Ac7 (rs[(i0-1).toNat]!) (rs[i0.toNat]!) (by exact B6s hb h8 hh5) (by exact Q9 hb hh2 hh5)) (tB 14 (0≤C3 rs[(i0-1).toNat]! rs[i0.toNat]!) (tT 16 (by first | (simp only [eq_false h7,eq_true h8,tsl];done) | simp_all:AV.b (decide (0≤C3 rs[(i0-1).toNat]! rs[i0.toNat]!))=AV.b (decide (¬ckR rs[i0.toNat]! =(0:Int)∨(0:Int) < i0∧0≤C3 rs[(i0-1).toNat]! rs[i0.toNat]!))) (oA 1 (.i .i64 (ckR rs[i0.toNat]!)) (oR 10 (c81 rs[(i0-1).toNat]!) (oA 13 (.i .i64 (C3 rs[(i0-1).toNat]! rs[i0.toNat]!)) z0))))))))))))))) ?_
 exact⟨rfl,by kernel_rfl⟩
 refine rA cx [0,5,6,7,28] [] (fT (B38 (rs[i0.toNat]!) (by exact Q9 hb hh2 hh5)) (tN 2 (ckR rs[i0.toNat]!) (0:Int) (tT 3 (A3 h7) (tT 5 (A3 h8) (tT 16 (by first | (simp only [eq_false h7,eq_false h8,tsl];done) | simp_all:AV.b false=AV.b (decide (¬ckR rs[i0.toNat]! =(0:Int)∨(0:Int) < i0∧0≤C3 rs[(i0-1).toNat]! rs[i0.toNat]!))) (oA 1 (.i .i64 (ckR rs[i0.toNat]!)) z0)))))) ?_
 exact⟨rfl,by kernel_rfl⟩
 refine sn<|dC (¬ckR rs[i0.toNat]! =(0:Int)∨(0:Int) < i0∧0≤C3 rs[(i0-1).toNat]! rs[i0.toNat]!) (fun h9=>?_) fun h9=>?_
 refine sq<|rG cx [2] [] z0<|sn<|rT<|bR<|nR<|nR<|bR<|nR<|qR (.i .i64 ((1:Int))) (.eq ?g6);rotate_left
 refine sK<|bN<|sn<|rG cx [0,5,6,7] [] (tW 0 (i0+1) z0)<|sn<|nX (i0+1) (show((↑rs.length:Int)-(i0+1)).toNat <((↑rs.length:Int)-i0).toNat from(by omega)) (show Al1 rs (i0+1)from ?g7);rotate_left
 refine eX 0<|nE<|nE<|bH<|sn<|sq<|rG cx [2] [] z0<|sn<|rT<|qR (.i .i64 ((0:Int))) (.eq (by rw[B37 fun j hj=>hh4 j (by omega)]))
 case g6 =>
  revert i0 hh2 hh3 hh4 hh5 h9
  intro i h0 h1 h2 h3 h4
  rw[A8i (i:=i.toNat) (by omega)]
  rw[e h0]at h4
  rw[S9]
  rintro⟨a,b⟩
  rcases h4 with h4 | ⟨h4,h5⟩
  ·exact h4 a
  ·omega
 case g7 =>
  rw[e hh2]at h9
  refine A6y hh2 hh5 hh4 ((S9 _ _).2 ⟨Classical.byContradiction fun a=>h9 (.inl a),?_⟩)
  by_cases c:i0.toNat=0
  ·exact .inl c
  ·exact .inr (Classical.byContradiction fun a=>h9 (.inr ⟨by omega,by omega⟩))
end Go.Proofs.YtaiepnaokhpmcaaGreat
namespace Go.Proofs.YtaiepnaokhpmcaaGreat
open Go.E
set_option maxRecDepth 100000
set_option maxHeartbeats 4000000
def B39(p:Past)(d:Dot)(i:Int)(v:List Int)(c:List Span)(r n:Int):Prop:=v=p.vec∧c=p.cloud∧r=d.rep∧n=d.num∧0≤i∧i≤p.cloud.length∧∀ j:Nat,(j:Int) < i→A64 p.cloud[j]! d=false
def decHas(p:Past)(i:Int)(v:List Int)(c:List Span)(r n:Int):Nat:=(p.cloud.length-i).toNat
def Bf4(a b:Past)(i:Int)(v:List Int)(c:List Span)(w:List Int)(e:List Span):Prop:=v=a.vec∧c=a.cloud∧w=b.vec∧e=b.cloud∧0≤i∧i≤a.vec.length∧∀ j:Nat,(j:Int) < i→a.vec[j]! = b.vec[j]!
def decSV(a:Past)(i:Int)(v:List Int)(c:List Span)(w:List Int)(e:List Span):Nat:=(a.vec.length-i).toNat
def Bf5(a b:Past)(i:Int)(v:List Int)(c:List Span)(w:List Int)(e:List Span):Prop:=v=a.vec∧c=a.cloud∧w=b.vec∧e=b.cloud∧0≤i∧i≤a.cloud.length∧∀ j:Nat,(j:Int) < i→a.cloud[j]! = b.cloud[j]!
def decSC(a:Past)(i:Int)(v:List Int)(c:List Span)(w:List Int)(e:List Span):Nat:=(a.cloud.length-i).toNat
theorem con88(d:Dot):Con Tryz.prog 88 [.agg (c43 d)] (.b (A0f d)) :=
 by
 refine sC B1 [.tmp 2] 21 Tryz.func88 ?_
 intro e0 cx
 refine sq<|rG cx [1] [1] z0<|sn<|sq<|B4 (σ':=⟨[(2,.b (decide (0≤d.rep∧d.rep <(16:Int)∧1≤d.num∧d.num≤1000000000)))],[]⟩) ?_ ?_
 refine A4 (0≤d.rep) (fun h_1=>?_) (fun h_1=>?_)
 refine A4 (d.rep <(16:Int)) (fun h_2=>?_) (fun h_2=>?_)
 refine A4 (1≤d.num) (fun h_3=>?_) (fun h_3=>?_)
 refine rG cx [2] [] (tT 2 (A6 h_1) (tT 6 (A6 h_2) (tT 11 (A6 h_3) (tB 16 (d.num≤1000000000) (tD 18 (decide (d.num≤1000000000)) (0≤d.rep∧d.rep <(16:Int)∧1≤d.num∧d.num≤1000000000) (by simp only [eq_true h_1,eq_true h_2,eq_true h_3,tsl]) z0))))) ?_
 exact⟨rfl,by kernel_rfl⟩
 refine rG cx [2] [] (tT 2 (A6 h_1) (tT 6 (A6 h_2) (tT 11 (A3 h_3) (tD 18 false (0≤d.rep∧d.rep <(16:Int)∧1≤d.num∧d.num≤1000000000) (by simp only [eq_true h_1,eq_true h_2,eq_false h_3,tsl]) z0)))) ?_
 exact⟨rfl,by kernel_rfl⟩
 refine rG cx [2] [] (tT 2 (A6 h_1) (tT 6 (A3 h_2) (tD 18 false (0≤d.rep∧d.rep <(16:Int)∧1≤d.num∧d.num≤1000000000) (by simp only [eq_true h_1,eq_false h_2,tsl]) z0))) ?_
 exact⟨rfl,by kernel_rfl⟩
 refine rG cx [2] [] (tT 2 (A3 h_1) (tD 18 false (0≤d.rep∧d.rep <(16:Int)∧1≤d.num∧d.num≤1000000000) (by simp only [eq_false h_1,tsl]) z0)) ?_
 exact⟨rfl,by kernel_rfl⟩
 refine sn<|rT<|qR (.b (decide (0≤d.rep∧d.rep <(16:Int)∧1≤d.num∧d.num≤1000000000))) (.eq ?g0);rotate_left
 case g0=>exact rfl
theorem A20(p:Past)(d:Dot)(hl:p.cloud.length≤9223372036854775807):Con Tryz.prog 47 [.agg (c26 p),.agg (c43 d)] (.b (C5 p d)) :=
 by
 refine sC B1 [.tmp 4] 58 Tryz.func47 ?_
 intro e0 cx
 refine sq<|rG cx [2,3] [2,3] z0<|sn<|sq<|sq<|rG cx [2,3,9] [2,3] (fT (con88 (d)) (tT 2 (D0:(AV.b !A0f d)=AV.b (decide ¬A0f d=true)) (oA 1 (.b (A0f d)) z0)))<|sn<|dC (¬A0f d=true) (fun h0=>?_) fun h0=>?_
 refine sq<|rG cx [4] [] z0<|sn<|rT<|nR<|qR (.b (false)) (.eq (by unfold C5;rw[Bool.eq_false_iff.2 h0];rfl))
 refine sK<|sn<|sq<|sq<|B4 (σ':=⟨[(2,.ptr (2) (0) (0) (0)),(3,.ptr (3) (0) (0) (0)),(26,.b (decide (d.rep <(↑p.vec.length:Int)∧d.num≤p.vec[d.rep.toNat]!)))],[(2,⟨0,26,.var [.sl (List.map c3 p.vec),.sl (List.map B7 p.cloud)]⟩),(3,⟨0,43,.var [.i .i64 (d.rep),.i .i64 (d.num)]⟩)]⟩) ?_ ?_
 refine A4 (d.rep <(↑p.vec.length:Int)) (fun h2=>?_) (fun h2=>?_)
 refine rA cx [2,3,26] [2,3] (tL 4 c3 p.vec (tT 5 (A6 h2) (fP (0≤d.rep) (by exact(H5 (Classical.not_not.1 h0)).1) (fP ((List.map c3 p.vec)[d.rep.toNat]?=some (c3 p.vec[d.rep.toNat]!)) (by have:=(H5 (Classical.not_not.1 h0)).1;exact F7 (by omega)) (fR 1 (tB 15 (d.num≤p.vec[d.rep.toNat]!) (tD 16 (decide (d.num≤p.vec[d.rep.toNat]!)) (d.rep <(↑p.vec.length:Int)∧d.num≤p.vec[d.rep.toNat]!) (by simp only [eq_true h2,tsl]) (oR 13 (c3 p.vec[d.rep.toNat]!) z0)))))))) ?_
 exact⟨rfl,by kernel_rfl⟩
 refine rA cx [2,3,26] [2,3] (tL 4 c3 p.vec (tT 5 (A3 h2) (tD 16 false (d.rep <(↑p.vec.length:Int)∧d.num≤p.vec[d.rep.toNat]!) (by simp only [eq_false h2,tsl]) z0))) ?_
 exact⟨rfl,by kernel_rfl⟩
 refine sn<|dC (d.rep <(↑p.vec.length:Int)∧d.num≤p.vec[d.rep.toNat]!) (fun h3=>?_) fun h3=>?_
 refine sq<|rG cx [4] [] z0<|sn<|rT<|nR<|qR (.b (true)) (.eq (by unfold C5;rw[Classical.not_not.1 h0,decide_eq_true h3];rfl))
 refine sK<|sn<|sq<|sq<|rG cx [2,3,5] [2,3] z0<|sn<|bL 0<|sL (X:=Int×List Int×List Span×Int×Int) (fun x=>⟨[(2,.ptr (2) (0) (0) (0)),(3,.ptr (3) (0) (0) (0)),(5,.i .i64 (x.1))],[(2,⟨0,26,.var [.sl (List.map c3 x.2.1),.sl (List.map B7 x.2.2.1)]⟩),(3,⟨0,43,.var [.i .i64 (x.2.2.2.1),.i .i64 (x.2.2.2.2)]⟩)]⟩) (fun x ↦ decHas p x.1 x.2.1 x.2.2.1 x.2.2.2.1 x.2.2.2.2) (fun x ↦ B39 p d x.1 x.2.1 x.2.2.1 x.2.2.2.1 x.2.2.2.2) [2,3,5] [2,3] (((0:Int),p.vec,p.cloud,d.rep,d.num)) (show B39 p d (0:Int) p.vec p.cloud d.rep d.num from(by exact⟨rfl,rfl,rfl,rfl,by omega,by omega,fun j hj=>by omega⟩)) ?_
 rintro⟨i4,v5,c6,r7,n8⟩ h_9
 obtain⟨h10,h11,h12,h13,h14,h15,h16⟩:v5=p.vec∧c6=p.cloud∧r7=d.rep∧n8=d.num∧0≤i4∧i4≤(↑p.cloud.length:Int)∧∀(j:Nat),(↑j:Int) < i4→A64 p.cloud[j]! d=false:=h_9
 refine sq<|rD cx [2,3,5,31] [2,3] (tL 3 B7 c6 (zB 4 (i4 <(↑c6.length:Int)))) (fun h17=>?_) fun h17=>?_
 refine sK<|sn<|sq<|bL 1<|sq<|rG cx [2,3,5,6] [2,3,6] (fA (0≤i4) (fG B7 c6 i4.toNat (fR 3 (fN 3 3 (oR 3 (B7 c6[i4.toNat]!) z0)))))<|sn<|sq<|B4 (σ':=⟨[(2,.ptr (2) (0) (0) (0)),(3,.ptr (3) (0) (0) (0)),(5,.i .i64 (i4)),(57,.b (decide (c6[i4.toNat]!.rep=r7∧c6[i4.toNat]!.lo≤n8∧n8≤c6[i4.toNat]!.hi)))],[(2,⟨0,26,.var [.sl (List.map c3 v5),.sl (List.map B7 c6)]⟩),(3,⟨0,43,.var [.i .i64 (r7),.i .i64 (n8)]⟩)]⟩) ?_ ?_
 refine A4 (c6[i4.toNat]!.rep=r7) (fun h_19=>?_) (fun h_19=>?_)
 refine A4 (c6[i4.toNat]!.lo≤n8) (fun h_20=>?_) (fun h_20=>?_)
 refine rG cx [2,3,5,57] [2,3] (tT 4 (A6 h_19) (tT 10 (A6 h_20) (tB 17 (n8≤c6[i4.toNat]!.hi) (tD 18 (decide (n8≤c6[i4.toNat]!.hi)) (c6[i4.toNat]!.rep=r7∧c6[i4.toNat]!.lo≤n8∧n8≤c6[i4.toNat]!.hi) (by simp only [eq_true h_19,eq_true h_20,tsl]) z0)))) ?_
 exact⟨rfl,by kernel_rfl⟩
 refine rG cx [2,3,5,57] [2,3] (tT 4 (A6 h_19) (tT 10 (A3 h_20) (tD 18 false (c6[i4.toNat]!.rep=r7∧c6[i4.toNat]!.lo≤n8∧n8≤c6[i4.toNat]!.hi) (by simp only [eq_true h_19,eq_false h_20,tsl]) z0))) ?_
 exact⟨rfl,by kernel_rfl⟩
 refine rG cx [2,3,5,57] [2,3] (tT 4 (A3 h_19) (tD 18 false (c6[i4.toNat]!.rep=r7∧c6[i4.toNat]!.lo≤n8∧n8≤c6[i4.toNat]!.hi) (by simp only [eq_false h_19,tsl]) z0)) ?_
 exact⟨rfl,by kernel_rfl⟩
 refine sn<|dC (c6[i4.toNat]!.rep=r7∧c6[i4.toNat]!.lo≤n8∧n8≤c6[i4.toNat]!.hi) (fun h21=>?_) fun h21=>?_
 refine sq<|rG cx [4] [] z0<|sn<|rT<|bR<|nR<|nR<|bR<|nR<|qR (.b (true)) (.eq ?g5);rotate_left
 refine sK<|bN<|sn<|rG cx [2,3,5] [2,3] (tT 1 (B6 (by omega) (by subst h10 h11 h12 h13;omega):AV.i .i64 (IntKind.i64.wrap (i4+1))=AV.i .i64 (i4+1)) z0) ?_
 refine sn<|nX ((i4+1,v5,c6,r7,n8)) (show((↑p.cloud.length:Int)-(i4+1)).toNat <((↑p.cloud.length:Int)-i4).toNat from(by subst h10 h11 h12 h13;omega)) (show B39 p d (i4+1) v5 c6 r7 n8 from ?g8);rotate_left
 refine eX 0<|nE<|nE<|bH<|sn<|sq<|rG cx [4] [] z0<|sn<|rT<|qR (.b (false)) (.eq ?g9);rotate_left
 case g5 =>
  revert h0 h3 i4 v5 c6 r7 n8 h10 h11 h12 h13 h14 h15 h16 h17 h21
  intro h h1 i v c r n k0 k1 k2 k3 k4 k5 k6 k7 k8
  subst k0 k1 k2 k3
  have:(p.cloud.any fun s=>A64 s d)=true:=List.any_eq_true.2 ⟨_,D6 (l:=p.cloud) (i:=i.toNat) (by omega),decide_eq_true k8⟩
  unfold C5
  rw[Classical.not_not.1 h,this]
  simp
 case g8 =>
  subst h10 h11 h12 h13
  refine⟨rfl,rfl,rfl,rfl,by omega,by omega,fun j hj=>?_⟩
  by_cases e:j=i4.toNat
  ·rw[e];exact decide_eq_false h21
  ·exact h16 j (by omega)
 case g9 =>
  subst h10 h11 h12 h13
  have e:=B2g p.cloud d
  rw[B9b fun j hj=>h16 j (by omega)]at e
  unfold C5
  rw[decide_eq_false h3,← e]
  simp
theorem Az8(a b:Past)(h1:a.vec.length≤9223372036854775807)(h2:a.cloud.length≤9223372036854775807):Con Tryz.prog 46 [.agg (c26 a),.agg (c26 b)] (.b (decide (a=b))) :=
 by
 refine sC B1 [.tmp 4] 59 Tryz.func46 ?_
 intro e0 cx
 refine sq<|rG cx [2,3] [2,3] z0<|sn<|sq<|sq<|B4 (σ':=⟨[(2,.ptr (2) (0) (0) (0)),(3,.ptr (3) (0) (0) (0)),(22,.b (decide (¬(↑a.vec.length:Int)=(↑b.vec.length:Int)∨¬(↑a.cloud.length:Int)=(↑b.cloud.length:Int))))],[(2,⟨0,26,.var [.sl (List.map c3 a.vec),.sl (List.map B7 a.cloud)]⟩),(3,⟨0,26,.var [.sl (List.map c3 b.vec),.sl (List.map B7 b.cloud)]⟩)]⟩) ?_ ?_
 refine A4 (¬(↑a.vec.length:Int)=(↑b.vec.length:Int)) (fun h_1=>?_) (fun h_1=>?_)
 refine rG cx [2,3,22] [2,3] (tL 2 c3 a.vec (tL 5 c3 b.vec (tT 6 (C4 h_1:AV.b ((↑a.vec.length:Int) !=(↑b.vec.length:Int))=AV.b true) (tD 15 true (¬(↑a.vec.length:Int)=(↑b.vec.length:Int)∨¬(↑a.cloud.length:Int)=(↑b.cloud.length:Int)) (by simp only [eq_false h_1,tsl]) z0)))) ?_
 exact⟨rfl,by kernel_rfl⟩
 refine rG cx [2,3,22] [2,3] (tL 2 c3 a.vec (tL 5 c3 b.vec (tN 6 (↑a.vec.length:Int) (↑b.vec.length:Int) (tT 7 (A3 h_1) (tL 10 B7 a.cloud (tL 13 B7 b.cloud (tN 14 (↑a.cloud.length:Int) (↑b.cloud.length:Int) (tT 15 (by first | (simp only [eq_false h_1,tsl];done) | simp_all:AV.b (decide ¬(↑a.cloud.length:Int)=(↑b.cloud.length:Int))=AV.b (decide (¬(↑a.vec.length:Int)=(↑b.vec.length:Int)∨¬(↑a.cloud.length:Int)=(↑b.cloud.length:Int)))) z0)))))))) ?_
 exact⟨rfl,by kernel_rfl⟩
 refine sn<|dC (¬(↑a.vec.length:Int)=(↑b.vec.length:Int)∨¬(↑a.cloud.length:Int)=(↑b.cloud.length:Int)) (fun hh2=>?_) fun hh2=>?_
 refine sq<|rG cx [4] [] z0<|sn<|rT<|nR<|qR (.b (false)) (.eq (by rw[decide_eq_false];rintro rfl;exact hh2.elim (fun k=>k rfl) (fun k=>k rfl)))
 refine sK<|sn<|sq<|sq<|rG cx [2,3,5] [2,3] z0<|sn<|bL 0<|sL (X:=Int×List Int×List Span×List Int×List Span) (fun x=>⟨[(2,.ptr (2) (0) (0) (0)),(3,.ptr (3) (0) (0) (0)),(5,.i .i64 (x.1))],[(2,⟨0,26,.var [.sl (List.map c3 x.2.1),.sl (List.map B7 x.2.2.1)]⟩),(3,⟨0,26,.var [.sl (List.map c3 x.2.2.2.1),.sl (List.map B7 x.2.2.2.2)]⟩)]⟩) (fun x ↦ decSV a x.1 x.2.1 x.2.2.1 x.2.2.2.1 x.2.2.2.2) (fun x ↦ Bf4 a b x.1 x.2.1 x.2.2.1 x.2.2.2.1 x.2.2.2.2) [2,3,5] [2,3] (((0:Int),a.vec,a.cloud,b.vec,b.cloud)) (show Bf4 a b (0:Int) a.vec a.cloud b.vec b.cloud from(by exact⟨rfl,rfl,rfl,rfl,by omega,by omega,fun j hj=>by omega⟩)) ?_
 rintro⟨i3,v4,c5,w6,e7⟩ h_8
 obtain⟨h9,h10,h11,h12,h13,h14,h15⟩:v4=a.vec∧c5=a.cloud∧w6=b.vec∧e7=b.cloud∧0≤i3∧i3≤(↑a.vec.length:Int)∧∀(j:Nat),(↑j:Int) < i3→a.vec[j]! = b.vec[j]!:=h_8
 refine sq<|rD cx [2,3,5,27] [2,3] (tL 3 c3 v4 (zB 4 (i3 <(↑v4.length:Int)))) (fun h16=>?_) fun h16=>?_
 refine sK<|sn<|sq<|bL 1<|sq<|rA cx [2,3,5,40] [2,3] (fA (0≤i3) (fG c3 v4 i3.toNat (fR 1 (fA (0≤i3) (fP ((List.map c3 w6)[i3.toNat]?=some (c3 w6[i3.toNat]!)) (by subst h9 h10 h11 h12;exact F7 (by omega)) (fR 1 (tN 10 v4[i3.toNat]! w6[i3.toNat]! (oR 3 (c3 v4[i3.toNat]!) (oR 8 (c3 w6[i3.toNat]!) z0))))))))) ?_
 refine sn<|dC (¬v4[i3.toNat]! = w6[i3.toNat]!) (fun h17=>?_) fun h17=>?_
 refine sq<|rG cx [4] [] z0<|sn<|rT<|bR<|nR<|nR<|bR<|nR<|qR (.b (false)) (.eq (by subst h9 h10 h11 h12;rw[decide_eq_false];rintro rfl;exact h17 rfl))
 refine sK<|bN<|sn<|rG cx [2,3,5] [2,3] (tT 1 (B6 (by omega) (by subst h9 h10 h11 h12;omega):AV.i .i64 (IntKind.i64.wrap (i3+1))=AV.i .i64 (i3+1)) z0) ?_
 refine sn<|nX ((i3+1,v4,c5,w6,e7)) (show((↑a.vec.length:Int)-(i3+1)).toNat <((↑a.vec.length:Int)-i3).toNat from(by subst h9 h10 h11 h12;omega)) (show Bf4 a b (i3+1) v4 c5 w6 e7 from ?g6);rotate_left
 refine eX 0<|nE<|nE<|bH<|sn<|sq<|sq<|rG cx [2,3,6] [2,3] z0<|sn<|bL 2<|sL (X:=Int×List Int×List Span×List Int×List Span) (fun x=>⟨[(2,.ptr (2) (0) (0) (0)),(3,.ptr (3) (0) (0) (0)),(6,.i .i64 (x.1))],[(2,⟨0,26,.var [.sl (List.map c3 x.2.1),.sl (List.map B7 x.2.2.1)]⟩),(3,⟨0,26,.var [.sl (List.map c3 x.2.2.2.1),.sl (List.map B7 x.2.2.2.2)]⟩)]⟩) (fun x ↦ decSC a x.1 x.2.1 x.2.2.1 x.2.2.2.1 x.2.2.2.2) (fun x ↦ Bf5 a b x.1 x.2.1 x.2.2.1 x.2.2.2.1 x.2.2.2.2) [2,3,6] [2,3] (((0:Int),v4,c5,w6,e7)) (show Bf5 a b (0:Int) v4 c5 w6 e7 from(by exact⟨h9,h10,h11,h12,by omega,by omega,fun j hj=>by omega⟩)) ?_
 rintro⟨i18,v19,c20,w21,e22⟩ h_23
 obtain⟨h24,h25,h26,h27,h28,h29,h30⟩:v19=a.vec∧c20=a.cloud∧w21=b.vec∧e22=b.cloud∧0≤i18∧i18≤(↑a.cloud.length:Int)∧∀(j:Nat),(↑j:Int) < i18→a.cloud[j]! = b.cloud[j]!:=h_23
 refine sq<|rD cx [2,3,6,45] [2,3] (tL 3 B7 c20 (zB 4 (i18 <(↑c20.length:Int)))) (fun h31=>?_) fun h31=>?_
 refine sK<|sn<|sq<|bL 3<|sq<|rA cx [2,3,6,58] [2,3] (fA (0≤i18) (fG B7 c20 i18.toNat (fR 3 (fN 3 3 (fA (0≤i18) (fP ((List.map B7 e22)[i18.toNat]?=some (B7 e22[i18.toNat]!)) (by subst h24 h25 h26 h27;exact F7 (by omega)) (fR 3 (fN 3 3 (fT (V1 (eq104 c20[i18.toNat]! e22[i18.toNat]!)) (oR 3 (B7 c20[i18.toNat]!) (oR 8 (B7 e22[i18.toNat]!) (oA 10 (.b (decide ¬c20[i18.toNat]! = e22[i18.toNat]!)) z0)))))))))))) ?_
 refine sn<|dC (¬c20[i18.toNat]! = e22[i18.toNat]!) (fun h32=>?_) fun h32=>?_
 refine sq<|rG cx [4] [] z0<|sn<|rT<|bR<|nR<|nR<|bR<|nR<|qR (.b (false)) (.eq (by subst h24 h25 h26 h27;rw[decide_eq_false];rintro rfl;exact h32 rfl))
 refine sK<|bN<|sn<|rG cx [2,3,6] [2,3] (tT 1 (B6 (by omega) (by subst h24 h25 h26 h27;omega):AV.i .i64 (IntKind.i64.wrap (i18+1))=AV.i .i64 (i18+1)) z0) ?_
 refine sn<|nX ((i18+1,v19,c20,w21,e22)) (show((↑a.cloud.length:Int)-(i18+1)).toNat <((↑a.cloud.length:Int)-i18).toNat from(by subst h24 h25 h26 h27;omega)) (show Bf5 a b (i18+1) v19 c20 w21 e22 from ?g12);rotate_left
 refine eX 2<|nE<|nE<|bH<|sn<|sq<|rG cx [4] [] z0<|sn<|rT<|qR (.b (true)) (.eq ?g13);rotate_left
 case g6 =>
  subst h9 h10 h11 h12
  refine⟨rfl,rfl,rfl,rfl,by omega,by omega,fun j hj=>?_⟩
  by_cases e7:j=i3.toNat
  ·rw[e7];exact Classical.not_not.1 h17
  ·exact h15 j (by omega)
 case g12 =>
  subst h24 h25 h26 h27
  refine⟨rfl,rfl,rfl,rfl,by omega,by omega,fun l hl=>?_⟩
  by_cases e7:l=i18.toNat
  ·rw[e7];exact Classical.not_not.1 h32
  ·exact h30 l (by omega)
 case g13 =>
  subst h9 h25
  have e1:a.vec=b.vec:=V5 (by omega) fun i18 hj=>h15 i18 (by omega)
  have e2:a.cloud=b.cloud:=V5 (by omega) fun i18 hj=>h30 i18 (by omega)
  rw[decide_eq_true]
  cases a;cases b
  simp only at e1 e2
  rw[e1,e2]
end Go.Proofs.YtaiepnaokhpmcaaGreat
namespace Go.Proofs.YtaiepnaokhpmcaaGreat
open Go.E
set_option maxRecDepth 100000
set_option maxHeartbeats 4000000
def leI(a b:Int):Bool:=decide (a≤b)
def A65(A B:List Int)(i j:Int)(s:List Int):Prop:=s++List.merge (A.drop i.toNat) (B.drop j.toNat) leI=List.merge A B leI
def B6t(A B:List Int)(i j:Int)(s:List Int):Prop:=0≤i∧i≤A.length∧0≤j∧j≤B.length∧(s.length:Int)=i+j∧A65 A B i j s
def dec37(A B:List Int)(i j:Int)(s:List Int):Nat:=(A.length+B.length-i-j).toNat
def hA(l:List Int):List Int:=(List.take ((l.length:Int).tdiv 2).toNat l).mergeSort leI
def hB(l:List Int):List Int:=(List.drop ((l.length:Int).tdiv 2).toNat l).mergeSort leI
theorem hA_len(l:List Int):(hA l).length=((l.length:Int).tdiv 2).toNat:=by
 unfold hA
 rw[List.length_mergeSort,List.length_take,Int.tdiv_eq_ediv_of_nonneg (by omega)]
 omega
theorem hB_len(l:List Int):(hB l).length=l.length-((l.length:Int).tdiv 2).toNat:=by
 unfold hB
 rw[List.length_mergeSort,List.length_drop]
theorem Bf6(l:List Int):0≤(l.length:Int).tdiv 2∧2*(l.length:Int).tdiv 2≤l.length∧(l.length:Int)≤2*(l.length:Int).tdiv 2+1:=by
 rw[Int.tdiv_eq_ediv_of_nonneg (by omega)]
 omega
theorem Ac8(a b c:Int)(h1:leI a b=true)(h2:leI b c=true):leI a c=true:=by simp only [leI,decide_eq_true_eq]at *;omega
theorem Ac9(a b:Int):(leI a b || leI b a)=true:=by simp only [leI,Bool.or_eq_true,decide_eq_true_eq];omega
theorem B6u(l:List Int):List.merge (hA l) (hB l) leI=l.mergeSort leI:=by
 refine List.Perm.eq_of_pairwise (le:=fun x y=>leI x y=true) (fun a b _ _ h1 h2=>by simp only [leI,decide_eq_true_eq]at *;omega) ?_ (List.pairwise_mergeSort Ac8 Ac9 l) ?_
 ·exact List.pairwise_merge Ac8 Ac9 _ _ (List.pairwise_mergeSort Ac8 Ac9 _) (List.pairwise_mergeSort Ac8 Ac9 _)
 ·refine(List.merge_perm_append leI).trans (((List.mergeSort_perm _ _).append (List.mergeSort_perm _ _)).trans ?_)
  rw[List.take_append_drop]
  exact(List.mergeSort_perm _ _).symm
theorem O7{α:Type}[Inhabited α]{l:List α}{i:Int}(h0:0≤i)(h:i < l.length):l.drop i.toNat=l[i.toNat]! :: l.drop (i+1).toNat:=by
 rw[show(i+1).toNat=i.toNat+1 by omega,getElem!_pos l i.toNat (by omega),← List.drop_eq_getElem_cons]
theorem mrgL{A B:List Int}{i j:Int}{s:List Int}(h0:0≤i)(hi:i < A.length)(j0:0≤j)(hj:j=B.length∨(j < B.length∧A[i.toNat]!≤B[j.toNat]!))(h:A65 A B i j s):A65 A B (i+1) j (s++[A[i.toNat]!]):=by
 unfold A65 at *
 rw[← h,List.append_assoc]
 congr 1
 rw[O7 h0 hi]
 rcases hj with hj | ⟨hj,hle⟩
 ·rw[List.drop_of_length_le (l:=B) (by omega)];simp
 ·rw[O7 j0 hj,List.cons_merge_cons,if_pos (by simpa [leI]using hle)];simp
theorem mrgR{A B:List Int}{i j:Int}{s:List Int}(h0:0≤i)(j0:0≤j)(hj:j < B.length)(hi:¬ i < A.length∨(i < A.length∧¬ A[i.toNat]!≤B[j.toNat]!))(h:A65 A B i j s):A65 A B i (j+1) (s++[B[j.toNat]!]):=by
 unfold A65 at *
 rw[← h,List.append_assoc]
 congr 1
 rw[O7 j0 hj]
 rcases hi with hi | ⟨hi,hle⟩
 ·rw[List.drop_of_length_le (l:=A) (by omega)];simp
 ·rw[O7 h0 hi,List.cons_merge_cons,if_neg (by simpa [leI]using hle)];simp
theorem mrgE{l:List Int}{i j:Int}{s:List Int}(hi:¬ i <(hA l).length)(hj:¬ j <(hB l).length)(h:A65 (hA l) (hB l) i j s):s=l.mergeSort leI:=by
 unfold A65 at h
 rw[List.drop_of_length_le (by omega),List.drop_of_length_le (by omega)]at h
 rw[← B6u,← h]
 simp
theorem B3a{l:List Int}(h:(l.length:Int) < 2):l.mergeSort leI=l:=by
 match l with
 | []=>simp
 | [a]=>simp
 | a :: b :: l=>simp only [List.length_cons]at h;omega
theorem As2(l:List Int)(n:Nat)(hn:l.length≤n)(ih:∀ m:List Int,m.length < n→m.length*8≤140737488351232→Con Tryz.prog 200 [.sl (m.map c3)] (.sl ((m.mergeSort leI).map c3)))(hb:l.length*8≤140737488351232):Con Tryz.prog 200 [.sl (l.map c3)] (.sl ((l.mergeSort leI).map c3)) :=
 by
 have b1:=Bf6 l
 have b2:=hA_len l
 have b3:=hB_len l
 refine lN 0 c3 (l) Tryz.func200 fun hl_0=>sC B1 [.tmp 2] 79 Tryz.func200 ?_
 intro e0 cx
 refine sq<|rG cx [0] [] z0<|sn<|sq<|rD cx [0,10] [] (tL 1 c3 l (zB 2 ((↑l.length:Int) <(2:Int)))) (fun h0=>?_) fun h0=>?_
 refine sq<|rG cx [2] [11] (fR 3 (fR 1 (fR 1 (fX c3 l 1 (fS c3 [] c3 l (fP (((List.map c3 []).length+(List.map c3 l).length)*(8:Nat)≤(140737488355328:Nat)) (by(simp only [Go.maxLen,List.length_map,List.length_append,List.length_cons,List.length_nil];omega)) (fM c3 [] l (oV 2 { rows:=some (List.map c3 ([]++l)) } z0))))))))<|sn<|rT<|nR<|qR (.sl (List.map c3 ([]++l))) (.eq (by rw[B3a h0];rfl))
 refine sK<|sn<|sq<|rG cx [0,3] [] (tL 2 c3 l (tT 3 (B6 (by omega) (by omega):AV.i .i64 (IntKind.i64.wrap ((↑l.length:Int).tdiv (2:Int)))=AV.i .i64 ((↑l.length:Int).tdiv (2:Int))) (tT 4 (B65 c3 l ((↑l.length:Int).tdiv (2:Int)).toNat:AV.sl (List.drop (Int.toNat (0:Int)) (List.take ((↑l.length:Int).tdiv (2:Int)).toNat (List.map c3 l)))=AV.sl (List.map c3 (List.take ((↑l.length:Int).tdiv (2:Int)).toNat l))) (fO ((0:Int)≤(0:Int)) (fP (0≤(↑l.length:Int).tdiv (2:Int)) (by omega) (fP ((↑l.length:Int).tdiv 2≤(↑(List.map c3 l).length:Int)) (by rw[List.length_map];omega) (fX c3 l 1 (fP (Con Tryz.prog (200:FuncId) [AV.sl (List.map c3 (List.take ((↑l.length:Int).tdiv (2:Int)).toNat l))] (AV.sl (List.map c3 ((List.take ((↑l.length:Int).tdiv (2:Int)).toNat l).mergeSort leI)))) (ih (List.take ((↑l.length:Int).tdiv (2:Int)).toNat l) (by show(List.take ((l.length:Int).tdiv 2).toNat l).length < n;rw[List.length_take];omega) (by show(List.take ((l.length:Int).tdiv 2).toNat l).length*8≤140737488351232;rw[List.length_take];omega)) (oA 5 (.sl (List.map c3 ((List.take ((↑l.length:Int).tdiv (2:Int)).toNat l).mergeSort leI))) z0))))))))) ?_
 refine sn<|sq<|rG cx [0,3,4] [] (tL 2 c3 l (tT 3 (B6 (by omega) (by omega):AV.i .i64 (IntKind.i64.wrap ((↑l.length:Int).tdiv (2:Int)))=AV.i .i64 ((↑l.length:Int).tdiv (2:Int))) (tT 4 (Ap8 c3 l ((↑l.length:Int).tdiv (2:Int)).toNat:AV.sl (List.drop ((↑l.length:Int).tdiv (2:Int)).toNat (List.take (none.getD (↑(List.map c3 l).length:Int)).toNat (List.map c3 l)))=AV.sl (List.map c3 (List.drop ((↑l.length:Int).tdiv (2:Int)).toNat l))) (fP (0≤(↑l.length:Int).tdiv (2:Int)) (by omega) (fP ((↑l.length:Int).tdiv 2≤none.getD (↑(List.map c3 l).length:Int)) (by show _≤((List.map c3 l).length:Int);rw[List.length_map];omega) (fP (none.getD (↑(List.map c3 l).length:Int)≤(↑(List.map c3 l).length:Int)) (by exact Int.le_refl _) (fX c3 l 1 (fP (Con Tryz.prog (200:FuncId) [AV.sl (List.map c3 (List.drop ((↑l.length:Int).tdiv (2:Int)).toNat l))] (AV.sl (List.map c3 ((List.drop ((↑l.length:Int).tdiv (2:Int)).toNat l).mergeSort leI)))) (ih (List.drop ((↑l.length:Int).tdiv (2:Int)).toNat l) (by rw[List.length_drop];omega) (by rw[List.length_drop];omega)) (oA 5 (.sl (List.map c3 ((List.drop ((↑l.length:Int).tdiv (2:Int)).toNat l).mergeSort leI))) z0))))))))) ?_
 refine sn<|sq<|rG cx [3,4,5] [28] (tL 1 c3 l (fR (0:Int) (fR (↑l.length:Int) (fO ((8:Nat)*l.length≤(281474976710656:Nat)) (fP (l.length≤maxLen) (by(simp only [Go.maxLen];omega)) (oV 2 { n:=l.length,flat:=true } z0))))))<|sn<|sq<|rG cx [3,4,5,6,7] [28] z0<|sn<|sq<|bL 0<|sL (X:=Int×Int×List Int) (fun x=>⟨[(3,.sl (List.map c3 ((List.take ((↑l.length:Int).tdiv (2:Int)).toNat l).mergeSort leI))),(4,.sl (List.map c3 ((List.drop ((↑l.length:Int).tdiv (2:Int)).toNat l).mergeSort leI))),(5,.own 28 0),(6,.i .i64 (x.1)),(7,.i .i64 (x.2.1))],[(28,⟨0,3,.row 1 (List.map c3 x.2.2)⟩)]⟩) (fun x ↦ dec37 (hA l) (hB l) x.1 x.2.1 x.2.2) (fun x ↦ B6t (hA l) (hB l) x.1 x.2.1 x.2.2) [3,4,5,6,7] [28] (((0:Int),(0:Int),[])) (show B6t (hA l) (hB l) (0:Int) (0:Int) []from(by exact⟨by omega,by omega,by omega,by omega,rfl,rfl⟩)) ?_
 rintro⟨i1,j2,s3⟩ h_4
 obtain⟨h5,h6,h7,h8,h9,h10⟩:0≤i1∧i1≤(↑(hA l).length:Int)∧0≤j2∧j2≤(↑(hB l).length:Int)∧(↑s3.length:Int)=i1+j2∧A65 (hA l) (hB l) i1 j2 s3:=h_4
 refine sq<|sq<|B4 (σ':=⟨[(3,.sl (List.map c3 ((List.take ((↑l.length:Int).tdiv (2:Int)).toNat l).mergeSort leI))),(4,.sl (List.map c3 ((List.drop ((↑l.length:Int).tdiv (2:Int)).toNat l).mergeSort leI))),(5,.own 28 0),(6,.i .i64 (i1)),(7,.i .i64 (j2)),(38,.b (decide (i1 <(↑((List.take ((↑l.length:Int).tdiv (2:Int)).toNat l).mergeSort leI).length:Int)∨j2 <(↑((List.drop ((↑l.length:Int).tdiv (2:Int)).toNat l).mergeSort leI).length:Int))))],[(28,⟨0,3,.row 1 (List.map c3 s3)⟩)]⟩) ?_ ?_
 refine A4 (i1 <(↑((List.take ((↑l.length:Int).tdiv (2:Int)).toNat l).mergeSort leI).length:Int)) (fun h_12=>?_) (fun h_12=>?_)
 refine rG cx [3,4,5,6,7,38] [28] (tL 2 c3 ((List.take ((↑l.length:Int).tdiv (2:Int)).toNat l).mergeSort leI) (tT 3 (A6 h_12) (tD 9 true (i1 <(↑((List.take ((↑l.length:Int).tdiv (2:Int)).toNat l).mergeSort leI).length:Int)∨j2 <(↑((List.drop ((↑l.length:Int).tdiv (2:Int)).toNat l).mergeSort leI).length:Int)) (by simp only [eq_true h_12,tsl]) z0))) ?_
 exact⟨rfl,by kernel_rfl⟩
 refine rG cx [3,4,5,6,7,38] [28] (tL 2 c3 ((List.take ((↑l.length:Int).tdiv (2:Int)).toNat l).mergeSort leI) (tT 3 (A3 h_12) (tL 7 c3 ((List.drop ((↑l.length:Int).tdiv (2:Int)).toNat l).mergeSort leI) (tB 8 (j2 <(↑((List.drop ((↑l.length:Int).tdiv (2:Int)).toNat l).mergeSort leI).length:Int)) (tD 9 (decide (j2 <(↑((List.drop ((↑l.length:Int).tdiv (2:Int)).toNat l).mergeSort leI).length:Int))) (i1 <(↑((List.take ((↑l.length:Int).tdiv (2:Int)).toNat l).mergeSort leI).length:Int)∨j2 <(↑((List.drop ((↑l.length:Int).tdiv (2:Int)).toNat l).mergeSort leI).length:Int)) (by simp only [eq_false h_12,tsl]) z0))))) ?_
 exact⟨rfl,by kernel_rfl⟩
 refine sn<|dC (i1 <(↑((List.take ((↑l.length:Int).tdiv (2:Int)).toNat l).mergeSort leI).length:Int)∨j2 <(↑((List.drop ((↑l.length:Int).tdiv (2:Int)).toNat l).mergeSort leI).length:Int)) (fun h13=>?_) fun h13=>?_
 refine sK<|sn<|bL 1<|sq<|B4 (σ':=⟨[(3,.sl (List.map c3 ((List.take ((↑l.length:Int).tdiv (2:Int)).toNat l).mergeSort leI))),(4,.sl (List.map c3 ((List.drop ((↑l.length:Int).tdiv (2:Int)).toNat l).mergeSort leI))),(5,.own 28 0),(6,.i .i64 (i1)),(7,.i .i64 (j2)),(59,.b (decide (j2=(↑((List.drop ((↑l.length:Int).tdiv (2:Int)).toNat l).mergeSort leI).length:Int)∨i1 <(↑((List.take ((↑l.length:Int).tdiv (2:Int)).toNat l).mergeSort leI).length:Int)∧((List.take ((↑l.length:Int).tdiv (2:Int)).toNat l).mergeSort leI)[i1.toNat]!≤((List.drop ((↑l.length:Int).tdiv (2:Int)).toNat l).mergeSort leI)[j2.toNat]!)))],[(28,⟨0,3,.row 1 (List.map c3 s3)⟩)]⟩) ?_ ?_
 refine A4 (j2=(↑((List.drop ((↑l.length:Int).tdiv (2:Int)).toNat l).mergeSort leI).length:Int)) (fun h15=>?_) (fun h15=>?_)
 refine rA cx [3,4,5,6,7,59] [28] (tL 2 c3 ((List.drop ((↑l.length:Int).tdiv (2:Int)).toNat l).mergeSort leI) (tT 3 (A6 h15) (tD 20 true (j2=(↑((List.drop ((↑l.length:Int).tdiv (2:Int)).toNat l).mergeSort leI).length:Int)∨i1 <(↑((List.take ((↑l.length:Int).tdiv (2:Int)).toNat l).mergeSort leI).length:Int)∧((List.take ((↑l.length:Int).tdiv (2:Int)).toNat l).mergeSort leI)[i1.toNat]!≤((List.drop ((↑l.length:Int).tdiv (2:Int)).toNat l).mergeSort leI)[j2.toNat]!) (by simp only [eq_true h15,tsl]) z0))) ?_
 exact⟨rfl,by kernel_rfl⟩
 refine A4 (i1 <(↑((List.take ((↑l.length:Int).tdiv (2:Int)).toNat l).mergeSort leI).length:Int)) (fun h16=>?_) (fun h16=>?_)
 refine rA cx [3,4,5,6,7,59] [28] (tL 2 c3 ((List.drop ((↑l.length:Int).tdiv (2:Int)).toNat l).mergeSort leI) (tT 3 (A3 h15) (tL 7 c3 ((List.take ((↑l.length:Int).tdiv (2:Int)).toNat l).mergeSort leI) (tT 8 (A6 h16) (fA (0≤i1) (fG c3 ((List.take ((↑l.length:Int).tdiv (2:Int)).toNat l).mergeSort leI) i1.toNat (fR 1 (fA (0≤j2) (fP ((List.map c3 ((List.drop ((↑l.length:Int).tdiv (2:Int)).toNat l).mergeSort leI))[j2.toNat]?=some (c3 ((List.drop ((↑l.length:Int).tdiv (2:Int)).toNat l).mergeSort leI)[j2.toNat]!)) (by exact F7 (xs:=hB l) (by have:¬ j2=(hB l).length:=h15;omega)) (fR 1 (tB 18 (((List.take ((↑l.length:Int).tdiv (2:Int)).toNat l).mergeSort leI)[i1.toNat]!≤((List.drop ((↑l.length:Int).tdiv (2:Int)).toNat l).mergeSort leI)[j2.toNat]!) (tD 20 (decide (((List.take ((↑l.length:Int).tdiv (2:Int)).toNat l).mergeSort leI)[i1.toNat]!≤((List.drop ((↑l.length:Int).tdiv (2:Int)).toNat l).mergeSort leI)[j2.toNat]!)) (j2=(↑((List.drop ((↑l.length:Int).tdiv (2:Int)).toNat l).mergeSort leI).length:Int)∨i1 <(↑((List.take ((↑l.length:Int).tdiv (2:Int)).toNat l).mergeSort leI).length:Int)∧((List.take ((↑l.length:Int).tdiv (2:Int)).toNat l).mergeSort leI)[i1.toNat]!≤((List.drop ((↑l.length:Int).tdiv (2:Int)).toNat l).mergeSort leI)[j2.toNat]!) (by simp only [eq_false h15,eq_true h16,tsl]) (oR 12 (c3 ((List.take ((↑l.length:Int).tdiv (2:Int)).toNat l).mergeSort leI)[i1.toNat]!) (oR 16 (c3 ((List.drop ((↑l.length:Int).tdiv (2:Int)).toNat l).mergeSort leI)[j2.toNat]!) z0)))))))))))))) ?_
 exact⟨rfl,by kernel_rfl⟩
 refine rA cx [3,4,5,6,7,59] [28] (tL 2 c3 ((List.drop ((↑l.length:Int).tdiv (2:Int)).toNat l).mergeSort leI) (tT 3 (A3 h15) (tL 7 c3 ((List.take ((↑l.length:Int).tdiv (2:Int)).toNat l).mergeSort leI) (tT 8 (A3 h16) (tD 20 false (j2=(↑((List.drop ((↑l.length:Int).tdiv (2:Int)).toNat l).mergeSort leI).length:Int)∨i1 <(↑((List.take ((↑l.length:Int).tdiv (2:Int)).toNat l).mergeSort leI).length:Int)∧((List.take ((↑l.length:Int).tdiv (2:Int)).toNat l).mergeSort leI)[i1.toNat]!≤((List.drop ((↑l.length:Int).tdiv (2:Int)).toNat l).mergeSort leI)[j2.toNat]!) (by simp only [eq_false h15,eq_false h16,tsl]) z0))))) ?_
 exact⟨rfl,by kernel_rfl⟩
 refine sn<|dC (j2=(↑((List.drop ((↑l.length:Int).tdiv (2:Int)).toNat l).mergeSort leI).length:Int)∨i1 <(↑((List.take ((↑l.length:Int).tdiv (2:Int)).toNat l).mergeSort leI).length:Int)∧((List.take ((↑l.length:Int).tdiv (2:Int)).toNat l).mergeSort leI)[i1.toNat]!≤((List.drop ((↑l.length:Int).tdiv (2:Int)).toNat l).mergeSort leI)[j2.toNat]!) (fun h17=>?_) fun h17=>?_
 refine sq<|rG cx [3,4,5,6,7] [28] (fA (0≤i1) (fG c3 ((List.take ((↑l.length:Int).tdiv (2:Int)).toNat l).mergeSort leI) i1.toNat (fR 1 (fR 3 (fR 1 (fR 1 (fX c3 [((List.take ((↑l.length:Int).tdiv (2:Int)).toNat l).mergeSort leI)[i1.toNat]!] 1 (fP ((List.map c3 s3).length+(List.map c3 [((List.take ((↑l.length:Int).tdiv (2:Int)).toNat l).mergeSort leI)[i1.toNat]!]).length≤maxLen) (by simp only [List.length_map,List.length_cons,List.length_nil,Go.maxLen];omega) (fP (((List.map c3 s3).length+(List.map c3 [((List.take ((↑l.length:Int).tdiv (2:Int)).toNat l).mergeSort leI)[i1.toNat]!]).length)*(8:Nat)≤(140737488355328:Nat)) (by simp only [List.length_map,List.length_cons,List.length_nil];omega) (fM c3 s3 [((List.take ((↑l.length:Int).tdiv (2:Int)).toNat l).mergeSort leI)[i1.toNat]!] (oR 3 (c3 ((List.take ((↑l.length:Int).tdiv (2:Int)).toNat l).mergeSort leI)[i1.toNat]!) (oV 6 { rows:=some (List.map c3 (s3++[((List.take ((↑l.length:Int).tdiv (2:Int)).toNat l).mergeSort leI)[i1.toNat]!])) } z0)))))))))))) ?_
 refine sn<|rG cx [3,4,5,6,7] [28] (tT 1 (B6 (by omega) (by omega):AV.i .i64 (IntKind.i64.wrap (i1+1))=AV.i .i64 (i1+1)) z0) ?_
 refine bN<|sn<|nX ((i1+1,j2,s3++[((List.take ((↑l.length:Int).tdiv (2:Int)).toNat l).mergeSort leI)[i1.toNat]!])) (show((↑(hA l).length:Int)+(↑(hB l).length:Int)-(i1+1)-j2).toNat <((↑(hA l).length:Int)+(↑(hB l).length:Int)-i1-j2).toNat from(by have k6':i1 <(hA l).length∨j2 <(hB l).length:=h13;have k7':j2=(hB l).length∨i1 <(hA l).length∧(hA l)[i1.toNat]!≤(hB l)[j2.toNat]!:=h17;omega)) (show B6t (hA l) (hB l) (i1+1) j2 (s3++[((List.take ((↑l.length:Int).tdiv (2:Int)).toNat l).mergeSort leI)[i1.toNat]!])from ?g20);rotate_left
 refine sq<|rG cx [3,4,5,6,7] [28] (fA (0≤j2) (fP ((List.map c3 ((List.drop ((↑l.length:Int).tdiv (2:Int)).toNat l).mergeSort leI))[j2.toNat]?=some (c3 ((List.drop ((↑l.length:Int).tdiv (2:Int)).toNat l).mergeSort leI)[j2.toNat]!)) (by have k6':i1 <(hA l).length∨j2 <(hB l).length:=h13;have k7':¬(j2=(hB l).length∨i1 <(hA l).length∧(hA l)[i1.toNat]!≤(hB l)[j2.toNat]!):=h17;exact F7 (xs:=hB l) (by omega)) (fR 1 (fR 3 (fR 1 (fR 1 (fX c3 [((List.drop ((↑l.length:Int).tdiv (2:Int)).toNat l).mergeSort leI)[j2.toNat]!] 1 (fP ((List.map c3 s3).length+(List.map c3 [((List.drop ((↑l.length:Int).tdiv (2:Int)).toNat l).mergeSort leI)[j2.toNat]!]).length≤maxLen) (by simp only [List.length_map,List.length_cons,List.length_nil,Go.maxLen];omega) (fP (((List.map c3 s3).length+(List.map c3 [((List.drop ((↑l.length:Int).tdiv (2:Int)).toNat l).mergeSort leI)[j2.toNat]!]).length)*(8:Nat)≤(140737488355328:Nat)) (by simp only [List.length_map,List.length_cons,List.length_nil];omega) (fM c3 s3 [((List.drop ((↑l.length:Int).tdiv (2:Int)).toNat l).mergeSort leI)[j2.toNat]!] (oR 3 (c3 ((List.drop ((↑l.length:Int).tdiv (2:Int)).toNat l).mergeSort leI)[j2.toNat]!) (oV 6 { rows:=some (List.map c3 (s3++[((List.drop ((↑l.length:Int).tdiv (2:Int)).toNat l).mergeSort leI)[j2.toNat]!])) } z0)))))))))))) ?_
 refine sn<|rG cx [3,4,5,6,7] [28] (tT 1 (B6 (by omega) (by omega):AV.i .i64 (IntKind.i64.wrap (j2+1))=AV.i .i64 (j2+1)) z0) ?_
 refine bN<|sn<|nX ((i1,j2+1,s3++[((List.drop ((↑l.length:Int).tdiv (2:Int)).toNat l).mergeSort leI)[j2.toNat]!])) (show((↑(hA l).length:Int)+(↑(hB l).length:Int)-i1-(j2+1)).toNat <((↑(hA l).length:Int)+(↑(hB l).length:Int)-i1-j2).toNat from(by have k6':i1 <(hA l).length∨j2 <(hB l).length:=h13;have k7':¬(j2=(hB l).length∨i1 <(hA l).length∧(hA l)[i1.toNat]!≤(hB l)[j2.toNat]!):=h17;omega)) (show B6t (hA l) (hB l) i1 (j2+1) (s3++[((List.drop ((↑l.length:Int).tdiv (2:Int)).toNat l).mergeSort leI)[j2.toNat]!])from ?g26);rotate_left
 refine eX 0<|nE<|nE<|bH<|sn<|sq<|rG cx [2] [28] z0<|sn<|rT<|qR (.sl (List.map c3 s3)) (.eq ?g27);rotate_left
 case g20 =>
  have k6':i1 <(hA l).length∨j2 <(hB l).length:=h13
  have k7':j2=(hB l).length∨i1 <(hA l).length∧(hA l)[i1.toNat]!≤(hB l)[j2.toNat]!:=h17
  have hi:i1 <(hA l).length:=by omega
  refine⟨by omega,by omega,by omega,by omega,by rw[List.length_append];simp only [List.length_cons,List.length_nil];omega,mrgL h5 hi h7 ?_ h10⟩
  by_cases e:j2=(hB l).length
  ·exact .inl e
  ·exact .inr ⟨by omega,(k7'.resolve_left e).2⟩
 case g26 =>
  have k6':i1 <(hA l).length∨j2 <(hB l).length:=h13
  have k7':¬(j2=(hB l).length∨i1 <(hA l).length∧(hA l)[i1.toNat]!≤(hB l)[j2.toNat]!):=h17
  have hj:j2 <(hB l).length:=by omega
  refine⟨by omega,by omega,by omega,by omega,by rw[List.length_append];simp only [List.length_cons,List.length_nil];omega,mrgR h5 h7 hj ?_ h10⟩
  by_cases e:i1 <(hA l).length
  ·exact .inr ⟨e,fun k=>k7' (.inr ⟨e,k⟩)⟩
  ·exact .inl e
 case g27 =>
  have k6':¬(i1 <(hA l).length∨j2 <(hB l).length):=h13
  rw[mrgE (fun k=>k6' (.inl k)) (fun k=>k6' (.inr k)) h10]
theorem B3b:∀(n:Nat) (l:List Int),l.length≤n→l.length*8≤140737488351232→Con Tryz.prog 200 [.sl (l.map c3)] (.sl ((l.mergeSort leI).map c3))
 | 0,l,h,hb=>As2 l 0 h (fun m hm=>by omega) hb
 | n+1,l,h,hb=>As2 l (n+1) h (fun m hm hb'=>B3b n m (by omega) hb') hb
theorem B9n(l:List Int)(hb:l.length*8≤140737488351232):Con Tryz.prog 200 [.sl (l.map c3)] (.sl ((l.mergeSort leI).map c3)):=B3b l.length l (Nat.le_refl _) hb
end Go.Proofs.YtaiepnaokhpmcaaGreat
namespace Go.Proofs.YtaiepnaokhpmcaaGreat
open Go.E
set_option maxRecDepth 100000
set_option maxHeartbeats 4000000
def cntI(l:List Int)(n:Int):Nat:=l.countP (fun x=>decide (x≤n))
def L6(l:List Run):List Int:=l.flatMap fun r=>[r.lo,r.hi+1]
def sw:List Int→List Int→Nat→List Int
 | [],[],_=>[]
 | [],b :: B,d=>(if d=1 then[b]else[])++sw [] B (d-1)
 | a :: A,[],d=>(if d=0 then[a]else[])++sw A [] (d+1)
 | a :: A,b :: B,d=>if a≤b then(if d=0 then[a]else[])++sw A (b :: B) (d+1)else(if d=1 then[b]else[])++sw (a :: A) B (d-1)
termination_by A B _=>A.length+B.length
theorem Al2(n:Int):cntI [] n=0:=rfl
theorem J9(a:Int)(l:List Int)(n:Int):cntI (a :: l) n=cntI l n+if a≤n then 1 else 0:=by
 unfold cntI
 rw[List.countP_cons]
 by_cases h:a≤n <;> simp [h]
theorem cnt_zero{l:List Int}{n:Int}(h:∀ x∈l,n < x):cntI l n=0:=by
 unfold cntI
 rw[List.countP_eq_zero]
 intro x hx
 have:=h x hx
 simp
 omega
theorem Bf7(l:List Int)(n:Int):cntI l n≤l.length:=List.countP_le_length
structure VW (A B:List Int) (d:Nat):Prop where
 sA:A.Pairwise (fun x y=>x≤y)
 sB:B.Pairwise (fun x y=>x≤y)
 len:d+A.length=B.length
 cov:∀ n:Int,cntI B (n+1)≤d+cntI A n
theorem VW.in_{a b:Int}{A B:List Int}{d:Nat}(h:VW (a :: A) (b :: B) d)(hab:a≤b):VW A (b :: B) (d+1):=by
 refine⟨(List.pairwise_cons.1 h.sA).2,h.sB,by have:=h.len;simp only [List.length_cons]at *;omega,fun n=>?_⟩
 have:=h.cov n
 rw[J9 a A]at this
 split at this <;> omega
theorem VW.pos{a b:Int}{A B:List Int}{d:Nat}(h:VW (a :: A) (b :: B) d)(hab:b < a):1≤d:=by
 have h1:=h.cov (b-1)
 have h2:=(List.pairwise_cons.1 h.sA).1
 rw[show b-1+1=b by omega,J9 b B,if_pos (Int.le_refl b)]at h1
 rw[cnt_zero (l:=a :: A) fun x hx=>by
  rcases List.mem_cons.1 hx with rfl | hx
  ·omega
  ·have:=h2 x hx;omega]at h1
 omega
theorem VW.out{a b:Int}{A B:List Int}{d:Nat}(h:VW (a :: A) (b :: B) d)(hab:b < a):VW (a :: A) B (d-1):=by
 have hp:=h.pos hab
 have hB:=List.pairwise_cons.1 h.sB
 refine⟨h.sA,hB.2,by have:=h.len;simp only [List.length_cons]at *;omega,fun n=>?_⟩
 have:=h.cov n
 rw[J9 b B]at this
 by_cases e:b≤n+1
 ·rw[if_pos e]at this;omega
 ·rw[cnt_zero (l:=B) fun x hx=>by have:=hB.1 x hx;omega]
  omega
theorem VW.end_{b:Int}{B:List Int}{d:Nat}(h:VW [] (b :: B) d):1≤d∧VW [] B (d-1):=by
 have hl:=h.len
 simp only [List.length_cons,List.length_nil]at hl
 have hB:=List.pairwise_cons.1 h.sB
 exact⟨by omega,h.sA,hB.2,by simp only [List.length_nil];omega,fun n=>by have:=Bf7 B (n+1);omega⟩
theorem VW.strict{a b:Int}{A B:List Int}(h:VW (a :: A) (b :: B) 0):a < b:=by
 have h1:=h.cov (a-1)
 have h2:=(List.pairwise_cons.1 h.sA).1
 rw[show a-1+1=a by omega,cnt_zero (l:=a :: A) fun x hx=>by
  rcases List.mem_cons.1 hx with rfl | hx
  ·omega
  ·have:=h2 x hx;omega,J9 b B]at h1
 by_cases e:b≤a
 ·rw[if_pos e]at h1;omega
 ·omega
def SwZ(A B:List Int):Prop:=∃ R:List Run,sw A B 0=L6 R∧R.Pairwise (fun x y=>x.hi+1 < y.lo)∧(∀ r∈R,r.lo≤r.hi∧r.lo∈A∧r.hi+1∈B)∧∀ n,inR R n↔cntI B n < cntI A n
def SwP(A B:List Int)(d:Nat):Prop:=∃(x:Int) (R:List Run),sw A B d=x :: L6 R∧x∈B∧R.Pairwise (fun x y=>x.hi+1 < y.lo)∧(∀ r∈R,x < r.lo∧r.lo≤r.hi∧r.lo∈A∧r.hi+1∈B)∧∀ n,(n < x∨inR R n)↔cntI B n < d+cntI A n
theorem A8j:∀(k:Nat) (A B:List Int) (d:Nat),A.length+B.length=k→VW A B d→(d=0→SwZ A B)∧(0 < d→SwP A B d)
 | k,[],[],d,_,h=>by
  have hd:=h.len
  simp only [List.length_nil]at hd
  refine⟨fun _=>⟨[],?_,List.Pairwise.nil,fun r hr=>(by cases hr),fun n=>?_⟩,fun h0=>by omega⟩
  ·rw[sw];try rfl
  ·rw[Al2];simp [inR]
 | k,a :: A,[],d,_,h=>by have:=h.len;simp only [List.length_cons,List.length_nil]at this;omega
 | 0,[],b :: B,d,hk,h=>by simp only [List.length_cons]at hk;omega
 | 0,a :: A,b :: B,d,hk,h=>by simp only [List.length_cons]at hk;omega
 | k+1,[],b :: B,d,hk,h=>by
  obtain⟨hd,h'⟩:=h.end_
  have ih:=A8j k [] B (d-1) (by simp only [List.length_cons,List.length_nil]at *;omega) h'
  have hB:=List.pairwise_cons.1 h.sB
  have low:∀ n:Int,n < b→cntI (b :: B) n=0∧cntI B n=0:=fun n hn=>by
   have:cntI B n=0:=cnt_zero fun x hx=>by have:=hB.1 x hx;omega
   rw[J9,if_neg (by omega)];omega
  refine⟨fun h0=>by omega,fun _=>?_⟩
  by_cases e:d=1
  ·obtain⟨R,r1,r2,r3,r4⟩:=ih.1 (by omega)
   refine⟨b,R,?_,by simp,r2,fun r hr=>absurd (r3 r hr).2.1 (by simp),fun n=>?_⟩
   ·rw[sw,if_pos e,show d-1=0 by omega,r1];rfl
   ·rw[r4 n,J9,Al2]
    by_cases hn:b≤n
    ·rw[if_pos hn];omega
    ·have:=low n (by omega);rw[if_neg hn];omega
  ·obtain⟨x,R,r1,r2,r3,r4,r5⟩:=ih.2 (by omega)
   refine⟨x,R,?_,by simp [r2],r3,fun r hr=>absurd (r4 r hr).2.2.1 (by simp),fun n=>?_⟩
   ·rw[sw,if_neg e,r1];rfl
   ·rw[r5 n,J9,Al2]
    by_cases hn:b≤n
    ·rw[if_pos hn];omega
    ·have:=low n (by omega);rw[if_neg hn];omega
 | k+1,a :: A,b :: B,d,hk,h=>by
  have hA:=List.pairwise_cons.1 h.sA
  have hB:=List.pairwise_cons.1 h.sB
  have lowA:∀ n:Int,n < a→cntI (a :: A) n=0∧cntI A n=0:=fun n hn=>by
   have:cntI A n=0:=cnt_zero fun x hx=>by have:=hA.1 x hx;omega
   rw[J9,if_neg (by omega)];omega
  have lowB:∀ n:Int,n < b→cntI (b :: B) n=0∧cntI B n=0:=fun n hn=>by
   have:cntI B n=0:=cnt_zero fun x hx=>by have:=hB.1 x hx;omega
   rw[J9,if_neg (by omega)];omega
  by_cases hab:a≤b
  ·obtain⟨x,R,r1,r2,r3,r4,r5⟩:=(A8j k A (b :: B) (d+1) (by simp only [List.length_cons]at *;omega) (h.in_ hab)).2 (by omega)
   have hx:b≤x:=by
    rcases List.mem_cons.1 r2 with rfl | r2
    ·omega
    ·exact hB.1 x r2
   constructor
   ·rintro rfl
    have hs:=h.strict
    refine⟨⟨a,x-1⟩ :: R,?_,List.pairwise_cons.2 ⟨fun r hr=>?_,r3⟩,fun r hr=>?_,fun n=>?_⟩
    ·rw[sw,if_pos hab,if_pos rfl,r1];simp [L6]
    ·have:=(r4 r hr).1;simp only;omega
    ·rcases List.mem_cons.1 hr with rfl | hr
     ·simp only;exact⟨by omega,by simp,by rw[show x-1+1=x by omega];exact r2⟩
     ·have:=r4 r hr;exact⟨this.2.1,by simp [this.2.2.1],this.2.2.2⟩
    ·have h5:=r5 n
     rw[S8,J9 a A]
     simp only
     by_cases hn:a≤n
     ·rw[if_pos hn]
      constructor
      ·rintro(g | g)
       ·have:=h5.1 (.inl (by omega));omega
       ·have:=h5.1 (.inr g);omega
      ·intro g
       rcases h5.2 (by omega)with g | g
       ·exact .inl ⟨hn,by omega⟩
       ·exact .inr g
     ·rw[if_neg hn]
      have l1:=lowA n (by omega)
      constructor
      ·rintro(g | ⟨r,hr,g1,g2⟩)
       ·omega
       ·have:=hA.1 _ (r4 r hr).2.2.1;omega
      ·intro g;omega
   ·intro h0
    refine⟨x,R,?_,r2,r3,fun r hr=>?_,fun n=>?_⟩
    ·rw[sw,if_pos hab,if_neg (by omega),r1];rfl
    ·have:=r4 r hr;exact⟨this.1,this.2.1,by simp [this.2.2.1],this.2.2.2⟩
    ·rw[r5 n,J9 a A]
     by_cases hn:a≤n
     ·rw[if_pos hn];omega
     ·have l1:=lowA n (by omega)
      have l2:=lowB n (by omega)
      rw[if_neg hn];omega
  ·have hd:=h.pos (by omega)
   have ih:=A8j k (a :: A) B (d-1) (by simp only [List.length_cons]at *;omega) (h.out (by omega))
   refine⟨fun h0=>by omega,fun _=>?_⟩
   by_cases e:d=1
   ·obtain⟨R,r1,r2,r3,r4⟩:=ih.1 (by omega)
    refine⟨b,R,?_,by simp,r2,fun r hr=>?_,fun n=>?_⟩
    ·rw[sw,if_neg hab,if_pos e,show d-1=0 by omega,r1];rfl
    ·have:=r3 r hr
     refine⟨?_,this.1,this.2.1,by simp [this.2.2]⟩
     rcases List.mem_cons.1 this.2.1 with g | g
     ·omega
     ·have:=hA.1 _ g;omega
    ·rw[r4 n,J9 b B]
     by_cases hn:b≤n
     ·rw[if_pos hn];omega
     ·have:=lowB n (by omega);rw[if_neg hn];omega
   ·obtain⟨x,R,r1,r2,r3,r4,r5⟩:=ih.2 (by omega)
    refine⟨x,R,?_,by simp [r2],r3,fun r hr=>?_,fun n=>?_⟩
    ·rw[sw,if_neg hab,if_neg e,r1];rfl
    ·have:=r4 r hr;exact⟨this.1,this.2.1,this.2.2.1,by simp [this.2.2.2]⟩
    ·rw[r5 n,J9 b B]
     by_cases hn:b≤n
     ·rw[if_pos hn];omega
     ·have:=lowB n (by omega);have:=lowA n (by omega);rw[if_neg hn];omega
def B9o(l:List Run):List Int:=(L9 l).map fun r=>r.lo
def Ad0(l:List Run):List Int:=(L9 l).map fun r=>r.hi+1
def Bf8(l:List Run):List Int:=(B9o l).mergeSort leI
def Al3(l:List Run):List Int:=(Ad0 l).mergeSort leI
theorem A6z(l:List Int):(l.mergeSort leI).Pairwise (fun x y=>x≤y):=by
 have:=List.pairwise_mergeSort Ac8 Ac9 l
 exact this.imp fun h=>by simpa [leI]using h
theorem As3(l:List Int)(n:Int):cntI (l.mergeSort leI) n=cntI l n:=(List.mergeSort_perm l leI).countP_eq _
theorem Ad1{α:Type}{p q:α→Bool}:∀ {l:List α},(∀ x∈l,p x=true→q x=true)→(l.countP p < l.countP q↔∃ x∈l,q x=true∧¬ p x=true)
 | [],_=>by simp
 | x :: l,h=>by
  have ih:=Ad1 (p:=p) (q:=q) (l:=l) fun y hy=>h y (by simp [hy])
  have hle:=List.countP_mono_left (l:=l) (p:=p) (q:=q) fun y hy=>h y (by simp [hy])
  have hx:=h x (by simp)
  rw[List.countP_cons,List.countP_cons]
  have ex:(∃ y∈x :: l,q y=true∧¬ p y=true)↔(q x=true∧¬ p x=true)∨∃ y∈l,q y=true∧¬ p y=true:=by simp
  rw[ex,← ih]
  by_cases h1:p x=true
  ·have h2:=hx h1
   rw[if_pos h1,if_pos h2]
   constructor
   ·intro g;exact .inr (by omega)
   ·rintro(g | g)
    ·exact absurd h1 g.2
    ·omega
  ·by_cases h2:q x=true
   ·rw[if_neg h1,if_pos h2]
    constructor
    ·intro _;exact .inl ⟨h2,h1⟩
    ·intro _;omega
   ·rw[if_neg h1,if_neg h2]
    constructor
    ·intro g;exact .inr (by omega)
    ·rintro(g | g)
     ·exact absurd g.1 h2
     ·omega
theorem Bf9(l:List Run)(n:Int):inR (L9 l) n↔1≤n∧n≤1000000000∧inR l n:=by
 constructor
 ·rintro⟨r,hr,h1,h2⟩
  unfold L9 at hr
  obtain⟨hr,_⟩:=List.mem_filter.1 hr
  obtain⟨x,hx,rfl⟩:=List.mem_map.1 hr
  simp only [F1]at h1 h2
  exact⟨by omega,by omega,x,hx,by omega,by omega⟩
 ·rintro⟨h1,h2,x,hx,h3,h4⟩
  refine⟨F1 x,?_,?_,?_⟩
  ·unfold L9
   refine List.mem_filter.2 ⟨List.mem_map.2 ⟨x,hx,rfl⟩,?_⟩
   show decide ((F1 x).lo≤(F1 x).hi)=true
   rw[decide_eq_true_iff]
   show max x.lo 1≤min x.hi 1000000000
   omega
  ·simp only [F1];omega
  ·simp only [F1];omega
theorem B3c(l:List Run)(n:Int):cntI (Bf8 l) n=(L9 l).countP fun r=>decide (r.lo≤n):=by
 unfold Bf8 B9o
 rw[As3,cntI,List.countP_map]
 rfl
theorem As4(l:List Run)(n:Int):cntI (Al3 l) n=(L9 l).countP fun r=>decide (r.hi+1≤n):=by
 unfold Al3 Ad0
 rw[As3,cntI,List.countP_map]
 rfl
theorem As5(l:List Run):VW (Bf8 l) (Al3 l) 0:=by
 refine⟨A6z _,A6z _,?_,fun n=>?_⟩
 ·unfold Bf8 Al3 B9o Ad0
  rw[List.length_mergeSort,List.length_mergeSort]
  simp
 ·rw[B3c,As4,Nat.zero_add]
  refine List.countP_mono_left fun r hr h=>?_
  have:=J1 r hr
  unfold A1p at this
  simp only [decide_eq_true_eq]at *
  omega
theorem B3d(l:List Run):sw (Bf8 l) (Al3 l) 0=L6 (nrm l):=by
 obtain⟨R,r1,r2,r3,r4⟩:=(A8j _ _ _ _ rfl (As5 l)).1 rfl
 rw[r1]
 congr 1
 have bd:∀ r∈R,1≤r.lo∧r.hi≤1000000000:=fun r hr=>by
  obtain⟨_,h1,h2⟩:=r3 r hr
  have h1:=(List.mergeSort_perm _ _).subset h1
  have h2:=(List.mergeSort_perm _ _).subset h2
  obtain⟨x,hx,ex⟩:=List.mem_map.1 h1
  obtain⟨y,hy,ey⟩:=List.mem_map.1 h2
  have gx:=J1 x hx
  have gy:=J1 y hy
  unfold A1p okR at gx gy
  omega
 refine A0d ⟨r2,fun r hr=>?_⟩ (E8 l) fun n=>?_
 ·have:=bd r hr;have:=(r3 r hr).1;omega
 ·rw[r4 n,Y5,B3c,As4,← Bf9,Ad1 fun r hr h=>by
   have:=J1 r hr
   unfold A1p at this
   simp only [decide_eq_true_eq]at *
   omega]
  unfold inR
  constructor
  ·rintro⟨r,hr,h1,h2⟩
   simp only [decide_eq_true_eq]at h1 h2
   exact⟨r,hr,h1,by omega⟩
  ·rintro⟨r,hr,h1,h2⟩
   exact⟨r,hr,by simp only [decide_eq_true_eq];exact h1,by simp only [decide_eq_true_eq];omega⟩
end Go.Proofs.YtaiepnaokhpmcaaGreat
